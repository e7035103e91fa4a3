/- Every PutBox is the document's, asked twice; the box is left as it was. The walk. -/
import Derived.Test.YtaecbapflpejmaaWPkBoxPP
import Derived.Test.YtaecbapflpejmaaWPkSameBox
namespace Go.Proofs.Ytaecbapflpejmaa.packBoxes
open Go.RowKit

def Far (v : Value) (g : Nat) : Prop := v.ownBlock = none ∨ v.ownBlock ≠ some g
theorem far_below {w : World} {b T k n g : Nat} {v : Value} {xs : List Value} (h : w.ownsRow b T k v n xs) (hg : w.heap.size ≤ g) : Far v g := by
  cases hv : v.ownBlock
  · exact .inl hv
  · refine .inr fun e => ?_
    have := (h.lt _ hv).2
    rw [hv] at e
    injection e with e
    omega
theorem far_above {w : World} {b T k n g : Nat} {v : Value} {xs : List Value} (h : w.ownsRow b T k v n xs) (hg : g < b) : Far v g := by
  cases hv : v.ownBlock
  · exact .inl hv
  · refine .inr fun e => ?_
    have := (h.lt _ hv).1
    rw [hv] at e
    injection e with e
    omega
/-- A row that one writes into; the others stay. -/
structure Kp (w wr : World) (g N cap : Nat) (v1 v9 v5 v6 : Value) (xs : List Nat) (ps : List (Nat × Nat)) (T : Nat) : Prop where
  own : ∃ ys, wr.ownsRow w.heap.size 5 1 (.slice (some ⟨g, 0, none⟩) N cap) N ys
  o1 : wr.ownsRow w.heap.size 5 1 v1 xs.length (xs.map bv)
  o9 : wr.ownsRow w.heap.size 5 1 v9 xs.length (xs.map bv)
  o5 : wr.ownsRow w.heap.size T 2 v5 ps.length (fl encF ps)
  o6 : wr.ownsRow w.heap.size T 2 v6 ps.length (fl encF ps)
  below : Below w.heap.size w wr
  f1 : Far v1 g
  f9 : Far v9 g
  f5 : Far v5 g
  f6 : Far v6 g
theorem Kp.set {w wr : World} {g N cap : Nat} {v1 v9 v5 v6 : Value} {xs : List Nat} {ps : List (Nat × Nat)} {T : Nat} (h : Kp w wr g N cap v1 v9 v5 v6 xs ps T) (j : Nat) (u : Value) : Kp w (wr.setCell ⟨g, j, none⟩ u) g N cap v1 v9 v5 v6 xs ps T := by
  obtain ⟨ys, hy⟩ := h.own
  have hs := hy.stored j u
  exact ⟨⟨_, hs.1⟩, h.o1.kept hs.2 h.f1, h.o9.kept hs.2 h.f9, h.o5.kept hs.2 h.f5, h.o6.kept hs.2 h.f6, h.below.setCell ((hy.lt g rfl).1) _, h.f1, h.f9, h.f5, h.f6⟩
theorem Kp.at {w wr : World} {g N cap : Nat} {v1 v9 v5 v6 : Value} {xs : List Nat} {ps : List (Nat × Nat)} {T : Nat} (h : Kp w wr g N cap v1 v9 v5 v6 xs ps T) {j : Nat} (hj : j < N) : (∃ u, wr.cell? ⟨g, j, none⟩ = some u) ∧ wr.frozen? ⟨g, j, none⟩ = false := by
  obtain ⟨ys, hy⟩ := h.own
  have hl := hy.1
  refine ⟨⟨ys[j]'(by omega), ?_⟩, hy.frozenAt j⟩
  rw [hy.cellAt j (by omega), List.getElem?_eq_getElem]
set_option maxRecDepth 20000 in
set_option maxHeartbeats 16000000 in
theorem walk (v0 : Value) (ps : List (Nat × Nat)) (w : World) (R0 : RP encU w v0 ps) (b0 : ∀ p ∈ ps, p.1 ≤ 18446744073709551615 ∧ p.2 ≤ 18446744073709551615) (l0 : ps.length * 16 ≤ 140737488351232) :
    Calls Try.prog 4 #[v0] w fun e w' => e = .returned (.bool true) ∧ Below w.heap.size w w' := by
  have hm1 : Try.prog.eqGuardType Try.prog.depth 24 = false := by kernel_rfl
  have HR := hide R0
  have HL := hide l0
  have C1 := fun w' (h : RP encU w' v0 ps) => rputBox_any v0 ps w' h b0 (by omega)
  have C2 := fun w' (h : RP encU w' v0 ps) => inBox_any v0 ps w' h l0
  have C3 := fun v w' (h : RP encF w' v ps) => putBox_any v ps w' h b0 (by omega)
  obtain ⟨k, hk⟩ : ∃ k : Int, (if 32 < ps.length then (2 : Int) else 0) = k := ⟨_, rfl⟩
  obtain ⟨xs, hxs⟩ : ∃ xs, pbx ps = xs := ⟨_, rfl⟩
  have HX := hide (show xs.length ≤ 513 by rw [← hxs]; exact pbx_le ps)
  unfold TPB at C1 C3
  rw [hk, hxs] at C1 C3
  have CS := fun v1 v2 w' (h1 : Rb w' v1 xs) (h2 : Rb w' v2 xs) => (sames_any v1 v2 xs xs w' h1 h2 (by have := HX.out; omega)).mono (fun _ _ h => h.yes rfl)
  clear R0 b0 l0 hk hxs
  go_enter Try.func4, Try.ntmps4
  go_wp2_with fail
  refine (C1 _ HR.out).mono ?_; rintro e w1 ⟨v1, rfl, ho1, hb1⟩
  have O1 := hide ho1
  have g := hb1
  clear ho1 hb1 C1
  go_wp2_with fail
  refine (C2 _ (HR.out.keep g)).mono ?_; rintro e w2 ⟨v5, rfl, ho5, hb2⟩
  have O1 := hide (own_keep O1.out hb2)
  have O5 := hide (World.ownsRow.mono ho5 g.size)
  have g := bch g hb2
  clear ho5 hb2
  go_wp2_with fail
  refine (C2 _ (HR.out.keep g)).mono ?_; rintro e w3 ⟨v6, rfl, ho6, hb3⟩
  have O1 := hide (own_keep O1.out hb3)
  have O5 := hide (own_keep O5.out hb3)
  have O6 := hide (World.ownsRow.mono ho6 g.size)
  have g := bch g hb3
  clear ho6 hb3 C2
  go_wp2_with fail
  refine (C3 _ _ (RP.own O5.out)).mono ?_; rintro e w4 ⟨v7, rfl, ho7, hb4⟩
  have F := hide (show ∀ gg, v7.ownBlock = some gg → (Far v1 gg ∧ Far v5 gg ∧ Far v6 gg) ∧ gg < w4.heap.size from fun gg h => ⟨⟨far_below O1.out (ho7.lt gg h).1, far_below O5.out (ho7.lt gg h).1, far_below O6.out (ho7.lt gg h).1⟩, (ho7.lt gg h).2⟩)
  have O1 := hide (own_keep O1.out hb4)
  have O5 := hide (own_keep O5.out hb4)
  have O6 := hide (own_keep O6.out hb4)
  have O7 := hide (World.ownsRow.mono ho7 g.size)
  have g := bch g hb4
  clear ho7 hb4
  go_wp2_with fail
  refine (CS _ _ _ (Rb.own O7.out) (Rb.own O1.out)).mono ?_; rintro e w5 ⟨rfl, hb5⟩
  have F := hide (show ∀ gg, v7.ownBlock = some gg → (Far v1 gg ∧ Far v5 gg ∧ Far v6 gg) ∧ gg < w5.heap.size from fun gg h => ⟨(F.out gg h).1, Nat.lt_of_lt_of_le (F.out gg h).2 hb5.size⟩)
  have O1 := hide (own_keep O1.out hb5)
  have O5 := hide (own_keep O5.out hb5)
  have O6 := hide (own_keep O6.out hb5)
  have O7 := hide (own_keep O7.out hb5)
  have g := bch g hb5
  clear hb5
  go_wp2_with fail
  refine (C3 _ _ (RP.own O5.out)).mono ?_; rintro e w6 ⟨v9, rfl, ho9, hb6⟩
  have F := hide (show ∀ gg, v7.ownBlock = some gg → Far v1 gg ∧ Far v5 gg ∧ Far v6 gg ∧ Far v9 gg from fun gg h => ⟨(F.out gg h).1.1, (F.out gg h).1.2.1, (F.out gg h).1.2.2, far_above ho9 (F.out gg h).2⟩)
  have O1 := hide (own_keep O1.out hb6)
  have O5 := hide (own_keep O5.out hb6)
  have O6 := hide (own_keep O6.out hb6)
  have O7 := hide (own_keep O7.out hb6)
  have O9 := hide (World.ownsRow.mono ho9 g.size)
  have g := bch g hb6
  clear ho9 hb6 C3
  obtain ⟨N7, hN7⟩ : ∃ n, xs.length = n := ⟨_, rfl⟩
  have HN7 := hide hN7
  obtain ⟨A7, c7, hv7⟩ : ∃ A c, v7 = .slice A N7 c := by
    obtain ⟨A, c, h⟩ := (Rb.own O7.out).len
    exact ⟨A, c, by rw [h, hN7]⟩
  subst hv7
  have n7 : (N7 : Int) ≤ 513 := by have := HX.out; omega
  clear hN7
  have HK : Hid (N7 = 0 ∧ (w6.ownsRow w.heap.size 5 1 v9 xs.length (xs.map bv) ∧ w6.ownsRow w.heap.size 5 1 v1 xs.length (xs.map bv) ∧ w6.ownsRow w.heap.size 30 2 v5 ps.length (fl encF ps) ∧ w6.ownsRow w.heap.size 30 2 v6 ps.length (fl encF ps) ∧ Below w.heap.size w w6) ∨ ∃ gg, A7 = some ⟨gg, 0, none⟩ ∧ Kp w w6 gg N7 c7 v1 v9 v5 v6 xs ps 30) := hide (by
    have h7 := O7.out
    rw [HN7.out] at h7
    obtain ⟨-, ⟨h1, h2⟩ | ⟨gg, cap, cur, h1, -⟩⟩ := h7
    · exact .inl ⟨h2, O9.out, O1.out, O5.out, O6.out, g⟩
    · injection h1 with h1 h3 h4
      subst h1 h4
      have f := F.out gg rfl
      exact .inr ⟨gg, rfl, ⟨_, by have := O7.out; rw [HN7.out] at this; exact this⟩, O1.out, O9.out, O5.out, O6.out, g, f.1, f.2.2.2, f.2.1, f.2.2.1⟩)
  clear O1 O5 O6 O7 O9 F g
  go_wp2_with fail
  go_loopg [10] N7 (fun k i wr => ∃ j : Nat, i = .int .i64 j ∧ Hid (j + k = N7) ∧ Hid (N7 = 0 ∧ (wr.ownsRow w.heap.size 5 1 v9 xs.length (xs.map bv) ∧ wr.ownsRow w.heap.size 5 1 v1 xs.length (xs.map bv) ∧ wr.ownsRow w.heap.size 30 2 v5 ps.length (fl encF ps) ∧ wr.ownsRow w.heap.size 30 2 v6 ps.length (fl encF ps) ∧ Below w.heap.size w wr) ∨ ∃ gg, A7 = some ⟨gg, 0, none⟩ ∧ Kp w wr gg N7 c7 v1 v9 v5 v6 xs ps 30))
  case atStart => exact ⟨0, rfl, hide (by omega), HK⟩
  case round =>
    clear HK
    obtain ⟨j, rfl, HJ, HK⟩ := hrel
    by_cases c : (j : Int) < N7
    · obtain ⟨gg, hA, hkp⟩ : ∃ gg, A7 = some ⟨gg, 0, none⟩ ∧ Kp w wr gg N7 c7 v1 v9 v5 v6 xs ps 30 := by
        rcases HK.out with ⟨h, -⟩ | h
        · omega
        · exact h
      subst hA
      obtain ⟨⟨u, hu⟩, hf⟩ := hkp.at (j := j) (by omega)
      have K2 := hide (hkp.set j (.int .u8 201))
      have ew : IntKind.i64.wrap ((j : Int) + 1) = (j + 1 : Nat) := by rw [IntWalk.i64_in _ (by omega)]; rfl
      clear HK hkp
      go_wp2
      go_roundg (N7 - (j + 1))
      case measure => have := HJ.out; omega
      case rel => exact ⟨j + 1, by simp, hide (by have := HJ.out; omega), hide (.inr ⟨gg, rfl, K2.out⟩)⟩
    · have hj : j = N7 := by have := HJ.out; omega
      subst hj
      have HF : Hid (wr.ownsRow w.heap.size 5 1 v9 xs.length (xs.map bv) ∧ wr.ownsRow w.heap.size 5 1 v1 xs.length (xs.map bv) ∧ wr.ownsRow w.heap.size 30 2 v5 ps.length (fl encF ps) ∧ wr.ownsRow w.heap.size 30 2 v6 ps.length (fl encF ps) ∧ Below w.heap.size w wr) := hide (by
        rcases HK.out with ⟨-, h⟩ | ⟨gg, -, h⟩
        · exact h
        · exact ⟨h.o9, h.o1, h.o5, h.o6, h.below⟩)
      clear HK c
      go_wp2_with fail
      refine (CS _ _ _ (Rb.own HF.out.1) (Rb.own HF.out.2.1)).mono ?_; rintro e w8 ⟨rfl, hb8⟩
      have P5 := hide (RP.own (own_keep HF.out.2.2.1 hb8))
      have P6 := hide (RP.own (own_keep HF.out.2.2.2.1 hb8))
      have g := hide (bch HF.out.2.2.2.2 hb8)
      clear HF hb8
      obtain ⟨N5, hN5⟩ : ∃ n, ps.length = n := ⟨_, rfl⟩
      have HN5 := hide hN5
      have n5 : (N5 : Int) ≤ 8796093022208 := by have := HL.out; omega
      obtain ⟨A5, c5, hv5⟩ : ∃ A c, v5 = .slice A N5 c := by
        obtain ⟨A, c, h⟩ := P5.out.len
        exact ⟨A, c, by rw [h, hN5]⟩
      obtain ⟨A6, c6, hv6⟩ : ∃ A c, v6 = .slice A N5 c := by
        obtain ⟨A, c, h⟩ := P6.out.len
        exact ⟨A, c, by rw [h, hN5]⟩
      subst hv5 hv6
      clear hN5
      go_wp2_with fail
      go_loopg [11] N5 (fun k i wr => ∃ j : Nat, i = .int .i64 j ∧ Hid (j + k = N5) ∧ Hid (RP encF wr (.slice A5 N5 c5) ps ∧ RP encF wr (.slice A6 N5 c6) ps ∧ Below w.heap.size w wr))
      case atStart => exact ⟨0, rfl, hide (by omega), hide ⟨P5.out, P6.out, g.out⟩⟩
      case round =>
        obtain ⟨j, rfl, HJ, HW⟩ := hrel
        by_cases c : (j : Int) < N5
        · have hj : j < ps.length := by have := HN5.out; omega
          obtain ⟨g1, o1, hA, hz, k0, k1⟩ := HW.out.1.at hj
          obtain ⟨g2, o2, hB, hz', k2, k3⟩ := HW.out.2.1.at hj
          obtain ⟨a, ha⟩ : ∃ m : Nat, ps[j].1 = m := ⟨_, rfl⟩
          obtain ⟨b, hb⟩ : ∃ m : Nat, ps[j].2 = m := ⟨_, rfl⟩
          rw [ha] at k0 k2
          rw [hb] at k1 k3
          have O := fun w => out_any a b w
          have e1 := eqUU (a := a) (b := b) (c := a) (d := b) true (by simp)
          obtain rfl : A5 = some ⟨g1, o1, none⟩ := hA _ _ (by rw [HN5.out])
          obtain rfl : A6 = some ⟨g2, o2, none⟩ := hB _ _ (by rw [HN5.out])
          have gW := HW.out.2.2
          have k0 : wr.cell? ⟨g1, o1 + j * 2, none⟩ = some (.float .f64 a) := k0
          have k1 : wr.cell? ⟨g1, o1 + j * 2 + 1, none⟩ = some (.float .f64 b) := k1
          have k2 : wr.cell? ⟨g2, o2 + j * 2, none⟩ = some (.float .f64 a) := k2
          have k3 : wr.cell? ⟨g2, o2 + j * 2 + 1, none⟩ = some (.float .f64 b) := k3
          have ew : IntKind.i64.wrap ((j : Int) + 1) = (j + 1 : Nat) := by rw [IntWalk.i64_in _ (by omega)]; rfl
          have BW : Below wr.heap.size wr wr := Below.refl _ _
          clear hA hB ha hb
          go_upto_region 17 with fail
          go_region_held3 (fun wx => wx.cell? ⟨g1, o1 + j * 2, none⟩ = some (.float .f64 a) ∧ wx.cell? ⟨g1, o1 + j * 2 + 1, none⟩ = some (.float .f64 b) ∧ wx.cell? ⟨g2, o2 + j * 2, none⟩ = some (.float .f64 a) ∧ wx.cell? ⟨g2, o2 + j * 2 + 1, none⟩ = some (.float .f64 b) ∧ g1 < wx.heap.size ∧ g2 < wx.heap.size ∧ Below w.heap.size w wx ∧ Below wr.heap.size wr wx)
            (((try dsimp only); (repeat' apply And.intro) <;> first | assumption | (simp [*]; done) | exact Below.drew (by assumption) | exact keep_cell hb1 (by first | (dsimp only; omega) | (simp; omega)) (by simp [*]) | (have := hb1.size; omega) | (have := hb1.size; simp at this; omega) | exact bch (by simp [*]) hb1 | exact bch (Below.drew (by simp [*])) hb1))
            (first | (go_at_call 15; (with_reducible refine (O _).mono ?_); rintro e w' ⟨rfl, hb1⟩))
          rename_i hh
          have gg := hide hh.2.2.2.2.2.2
          clear hh
          go_wp2
          go_roundg (N5 - (j + 1))
          case measure => have := HJ.out; omega
          case rel => exact ⟨j + 1, by simp, hide (by have := HJ.out; omega), hide ⟨HW.out.1.keep gg.out.2, HW.out.2.1.keep gg.out.2, gg.out.1⟩⟩
        · have hj : j = N5 := by have := HJ.out; omega
          subst hj
          go_wp2
          go_ret
          exact ⟨rfl, HW.out.2.2⟩

end Go.Proofs.Ytaecbapflpejmaa.packBoxes
