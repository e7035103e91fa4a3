/- The law's sameBox and left. -/
import Derived.Test.YtaecbapflpejmaaWPkBoxP
import Derived.Test.YtaecbapflpejmaaWPkGetR
import Derived.Test.YtaecbapflpejmaaWPkCopy
import Derived.Deep.RegionHeld3
import Derived.Deep.AppendLies
namespace Go.Proofs.Ytaecbapflpejmaa
open Go.RowKit
set_option maxRecDepth 20000 in
set_option maxHeartbeats 8000000 in
theorem sameBox_any (v1 v2 : Value) (ps : List (Nat × Nat)) (w : World) (h1 : RP encF w v1 ps) (h2 : RP encU w v2 ps) (hl : ps.length ≤ 281474976710656) : Calls Try.prog 19 #[v1, v2] w fun e w' => e = .returned (.bool true) ∧ Below w.heap.size w w' := by
  have hm : Try.prog.eqGuardType Try.prog.depth 24 = false := by kernel_rfl
  have HL := hide hl
  have HA := hide h1
  have HB := hide h2
  obtain ⟨A1, c1, rfl⟩ := h1.len
  obtain ⟨A2, c2, rfl⟩ := h2.len
  obtain ⟨N1, hN1⟩ : ∃ n, ps.length = n := ⟨_, rfl⟩
  rw [hN1]
  have HN := hide hN1
  have n1 : ((N1 : Int)) ≤ 281474976710656 := by omega
  clear hl h1 h2 hN1
  go_enter Try.func19, Try.ntmps19
  go_wp2_with fail
  go_loopg [5] N1 (fun k i wr => ∃ j : Nat, i = .int .i64 j ∧ Hid (j + k = N1) ∧ Hid (Below w.heap.size w wr))
  case atStart => exact ⟨0, rfl, hide (by omega), hide (Below.refl _ _)⟩
  case round =>
    obtain ⟨j, rfl, HJ, HW⟩ := hrel
    by_cases c : (j : Int) < N1
    · have hj : j < ps.length := by have := HN.out; omega
      obtain ⟨g, o, hA, hz, k0, k1⟩ := HA.out.at hj
      obtain ⟨g', o', hB, hz', k2, k3⟩ := HB.out.at hj
      obtain ⟨a, ha⟩ : ∃ m : Nat, ps[j].1 = m := ⟨_, rfl⟩
      obtain ⟨b, hb⟩ : ∃ m : Nat, ps[j].2 = m := ⟨_, rfl⟩
      rw [ha] at k0 k2
      rw [hb] at k1 k3
      have O := fun w => out_any a b w
      have e1 := eqUU (a := a) (b := b) (c := a) (d := b) true (by simp)
      obtain rfl : A1 = some ⟨g, o, none⟩ := hA _ _ (by rw [HN.out])
      obtain rfl : A2 = some ⟨g', o', none⟩ := hB _ _ (by rw [HN.out])
      have gW := HW.out
      have k0 : wr.cell? ⟨g, o + j * 2, none⟩ = some (.float .f64 a) := keep_cell gW hz k0
      have k1 : wr.cell? ⟨g, o + j * 2 + 1, none⟩ = some (.float .f64 b) := keep_cell gW hz k1
      have k2 : wr.cell? ⟨g', o' + j * 2, none⟩ = some (.int .u64 a) := keep_cell gW hz' k2
      have k3 : wr.cell? ⟨g', o' + j * 2 + 1, none⟩ = some (.int .u64 b) := keep_cell gW hz' k3
      have z0 : g < wr.heap.size := Nat.lt_of_lt_of_le hz gW.size
      have z1 : g' < wr.heap.size := Nat.lt_of_lt_of_le hz' gW.size
      have ew : IntKind.i64.wrap ((j : Int) + 1) = (j + 1 : Nat) := by rw [IntWalk.i64_in _ (by omega)]; rfl
      clear hA hB ha hb hz hz'
      go_upto_region 6 with fail
      go_region_held3 (fun wx => wx.cell? ⟨g, o + j * 2, none⟩ = some (.float .f64 a) ∧ wx.cell? ⟨g, o + j * 2 + 1, none⟩ = some (.float .f64 b) ∧ wx.cell? ⟨g', o' + j * 2, none⟩ = some (.int .u64 a) ∧ wx.cell? ⟨g', o' + j * 2 + 1, none⟩ = some (.int .u64 b) ∧ g < wx.heap.size ∧ g' < wx.heap.size ∧ Below w.heap.size w wx)
        (((try dsimp only); (repeat' apply And.intro) <;> first | assumption | (simp [*]; done) | exact Below.drew (by assumption) | exact keep_cell hb1 (by first | (dsimp only; omega) | (simp; omega)) (by simp [*]) | (have := hb1.size; omega) | (have := hb1.size; simp at this; omega) | exact bch (by simp [*]) hb1 | exact bch (Below.drew (by simp [*])) hb1))
        (first | (go_at_call 15; (with_reducible refine (O _).mono ?_); rintro e w' ⟨rfl, hb1⟩))
      rename_i hh
      have gg := hide hh.2.2.2.2.2.2
      clear hh
      go_wp2
      go_roundg (N1 - (j + 1))
      case measure => have := HJ.out; omega
      case rel => exact ⟨j + 1, by simp, hide (by have := HJ.out; omega), gg⟩
    · have hj : j = N1 := by have := HJ.out; omega
      subst hj
      go_wp2
      go_ret
      exact ⟨rfl, HW.out⟩

theorem marks_at {xs : List Nat} {i : Nat} (h1 : xs.length ≤ i) (h2 : i < (xs ++ marks 40).length) : (xs ++ marks 40)[i] = 201 := by
  rw [List.getElem_append_right h1]
  simp only [marks, List.getElem_replicate]
set_option maxRecDepth 20000 in
set_option maxHeartbeats 8000000 in
theorem left_any (a : Value) (xs : List Nat) (g c : Nat) (w : World) (ha : Rb w a xs) (hb : Rb w (.slice (some ⟨g, 0, none⟩) (xs.length + 40) c) (xs ++ marks 40)) (hl : xs.length ≤ 281474976710000) : Calls Try.prog 20 #[a, .slice (some ⟨g, 0, none⟩) (xs.length + 40) c] w fun e w' => e = .returned (.bool true) ∧ Below w.heap.size w w' := by
  have hlm : (xs ++ marks 40).length = xs.length + 40 := by simp [marks]
  have S := fun w' (hw : Below w.heap.size w w') => (sames_any a (.slice (some ⟨g, 0, none⟩) xs.length c) xs xs w' (ha.keep hw) ((hb.head rfl (by omega)).keep hw) (by omega)).mono (fun _ _ h => h.yes rfl)
  have HB := hide hb
  have hcap : (xs.length : Int) + 40 ≤ (c : Int) := by
    obtain ⟨g', o', c', he, -, -, h4⟩ := hb.form (by omega)
    injection he with h1 h2 h3
    subst h3; omega
  obtain ⟨N, hN⟩ : ∃ n, xs.length = n := ⟨_, rfl⟩
  have HN := hide (show xs.length = N ∧ (xs ++ marks 40).length = N + 40 from ⟨hN, by omega⟩)
  rw [hN] at S hcap ⊢
  have n1 : (N : Int) ≤ 281474976710000 := by omega
  have n2 : (N : Int) ≤ (c : Int) := by omega
  clear hlm hN ha hb hl
  go_enter Try.func20, Try.ntmps20
  go_wp2_with fail
  go_loopg [6] 40 (fun k i wr => ∃ j : Nat, i = .int .i64 j ∧ Hid (j + k = N + 40 ∧ k ≤ 40) ∧ Hid (Below w.heap.size w wr))
  case atStart => exact ⟨N, rfl, hide ⟨rfl, by omega⟩, hide (Below.refl _ _)⟩
  case round =>
    obtain ⟨j, rfl, HJ, HW⟩ := hrel
    by_cases c1 : (j : Int) < (N : Int) + 40
    · have hj : j < (xs ++ marks 40).length := by have := HN.out; omega
      obtain ⟨g', o', hA, hz, k0⟩ := HB.out.at hj
      have hA' := hA (some ⟨g, 0, none⟩) c (by rw [HN.out.1, HN.out.2])
      injection hA' with hA'
      injection hA' with q1 q2 q3
      subst q1 q2
      rw [marks_at (by have := HN.out; have := HJ.out; omega) hj, Nat.zero_add] at k0
      have k0 : wr.cell? ⟨g, j, none⟩ = some (.int .u8 201) := keep_cell HW.out hz k0
      have ew : IntKind.i64.wrap ((j : Int) + 1) = (j + 1 : Nat) := by rw [IntWalk.i64_in _ (by omega)]; rfl
      clear hA hz
      go_wp2
      go_roundg (gk - 1)
      case measure => have := HJ.out; omega
      case rel => exact ⟨j + 1, by simp, hide (by have := HJ.out; omega), HW⟩
    · have hj : j = N + 40 := by have := HJ.out; omega
      subst hj
      go_wp2_with fail
      refine (S _ HW.out).mono ?_; rintro e w2 ⟨rfl, hb2⟩
      go_wp2
      go_ret
      exact ⟨rfl, bch HW.out hb2⟩
end Go.Proofs.Ytaecbapflpejmaa
