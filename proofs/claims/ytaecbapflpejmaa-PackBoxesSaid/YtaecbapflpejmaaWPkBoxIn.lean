/- The law's inBox. -/
import Derived.Test.YtaecbapflpejmaaWPkBoxP
import Derived.Test.YtaecbapflpejmaaWIv
namespace Go.Proofs.Ytaecbapflpejmaa
open Go.RowKit
/-- A row of pairs in new memory that is told. -/
def TRow (T : Nat) (enc : Nat → Value) (ps : List (Nat × Nat)) (w : World) (e : Ending) (w' : World) : Prop :=
  ∃ v, e = .returned v ∧ w'.ownsRow w.heap.size T 2 v ps.length (fl enc ps) ∧ Below w.heap.size w w'
set_option maxRecDepth 20000 in
set_option maxHeartbeats 8000000 in
theorem inBox_any (v : Value) (ps : List (Nat × Nat)) (w : World) (hR : RP encU w v ps) (hl : ps.length * 16 ≤ 140737488351232) : Calls Try.prog 13 #[v] w (TRow 30 encF ps w) := by
  have HL := hide hl
  have HA := hide hR
  obtain ⟨i0, hi, hz0, hz1, hz2⟩ := info_parts infoI
  have HI := hide (show _ ∧ _ ∧ _ ∧ _ from ⟨hi, hz0, hz1, hz2⟩)
  obtain ⟨A1, c1, rfl⟩ := hR.len
  obtain ⟨N1, hN1⟩ : ∃ n, ps.length = n := ⟨_, rfl⟩
  rw [hN1]
  have HN := hide hN1
  clear hl hR hN1 hi hz0 hz1 hz2
  go_enter Try.func13, Try.ntmps13
  go_wp2_with fail
  go_loopg [3, 4] N1 (fun k l i wr => ∃ j : Nat, i = .int .i64 j ∧ Hid (j + k = N1) ∧ Hid (wr.ownsRow w.heap.size 30 2 l (ps.take j).length (fl encF (ps.take j)) ∧ Below w.heap.size w wr))
  case atStart => exact ⟨0, rfl, hide (by omega), hide ⟨World.ownsRow_nil _ _ _ _, Below.refl _ _⟩⟩
  case round =>
    obtain ⟨j, rfl, HJ, HO⟩ := hrel
    by_cases c : (j : Int) < N1
    · have hj : j < ps.length := by have := HN.out; omega
      obtain ⟨g, o, hA, hz, k0, k1⟩ := HA.out.at hj
      obtain ⟨a, ha⟩ : ∃ m : Nat, ps[j].1 = m := ⟨_, rfl⟩
      obtain ⟨b, hb⟩ : ∃ m : Nat, ps[j].2 = m := ⟨_, rfl⟩
      rw [ha] at k0
      rw [hb] at k1
      have HAB := hide (show ps[j] = (a, b) by rw [← ha, ← hb])
      have N0 := fun w => in_any (a : Int) (b : Int) w
      rw [Int.toNat_natCast, Int.toNat_natCast] at N0
      obtain rfl : A1 = some ⟨g, o, none⟩ := hA _ _ (by rw [HN.out])
      have gW := HO.out.2
      have k0 : wr.cell? ⟨g, o + j * 2, none⟩ = some (.int .u64 a) := keep_cell gW hz k0
      have k1 : wr.cell? ⟨g, o + j * 2 + 1, none⟩ = some (.int .u64 b) := keep_cell gW hz k1
      have ew : IntKind.i64.wrap ((j : Int) + 1) = (j + 1 : Nat) := by rw [IntWalk.i64_in _ (by have := HL.out; have := HN.out; omega)]; rfl
      clear hA ha hb hz
      go_wp2_with fail
      refine (N0 _).mono ?_; rintro e w2 ⟨rfl, hb2⟩
      have OK := hide (own_keep HO.out.1 hb2)
      have gb := bch gW hb2
      clear hb2 gW k0 k1 N0
      go_wp2_with (at_builtin; refine wpList_append_own _ rfl _ _ 37 rfl w.heap.size 30 i0 _ 2 16 Try.underlying37 HI.out.1 HI.out.2.1 HI.out.2.2.1 HI.out.2.2.2 rfl (by decide) _ (ps.take j).length (fl encF (ps.take j)) rfl (OK.out.alloc _) ⟨w2.heap.size, 0, none⟩ 1 1 [.float .f64 a, .float .f64 b] rfl rfl (by intro j u hj; rcases j with _ | _ | j <;> simp at hj <;> subst hj <;> simp [Addr.add, go_sem]) (by intro u hu; simp at hu; rcases hu with rfl | rfl <;> rfl) (by have := HL.out; have := HN.out; rw [List.length_take]; unfold maxLen; omega) (by have := HL.out; have := HN.out; rw [List.length_take]; omega) (by have := gb.size; simp; omega) ?_; intro v' w5 hown' hgrow _)
      have R := hide (ownp_more (p := (a, b)) (OK.out.alloc _) (gb.alloc gb.size _) hown' hgrow)
      clear hown' hgrow HO OK gb
      go_wp2
      go_roundg (N1 - (j + 1))
      case measure => have := HJ.out; omega
      case rel =>
        refine ⟨j + 1, by simp, hide (by have := HJ.out; omega), hide ?_⟩
        have := R.out
        rw [List.take_succ_eq_append_getElem hj, HAB.out]
        exact this
    · have hj : j = N1 := by have := HJ.out; omega
      subst hj
      have HO' : Hid (wr.ownsRow w.heap.size 30 2 u3 ps.length (fl encF ps) ∧ Below w.heap.size w wr) := hide (by have h := HO.out; rw [List.take_of_length_le (by have := HN.out; omega)] at h; exact h)
      clear HO c
      go_wp2_with fail
      go_ret
      exact ⟨_, rfl, HO'.out.1, HO'.out.2⟩
end Go.Proofs.Ytaecbapflpejmaa
