/- Are two lists of bytes one? The law's same, the reference's like. -/
import Derived.Test.YtaecbapflpejmaaWPkNum
namespace Go.Proofs.Ytaecbapflpejmaa
open Go.RowKit
/-- A truth that is told. -/
def TT (φ : Prop) (w : World) (e : Ending) (w' : World) : Prop := ∃ b : Bool, e = .returned (.bool b) ∧ (b = true ↔ φ) ∧ Below w.heap.size w w'
theorem TT.yes {φ : Prop} {w w' : World} {e : Ending} (h : TT φ w e w') (hp : φ) : e = .returned (.bool true) ∧ Below w.heap.size w w' := by
  obtain ⟨b, h1, h2, h3⟩ := h
  rw [h2.2 hp] at h1
  exact ⟨h1, h3⟩
theorem TT.no {φ : Prop} {w w' : World} {e : Ending} (h : TT φ w e w') (hp : ¬ φ) : e = .returned (.bool false) ∧ Below w.heap.size w w' := by
  obtain ⟨b, h1, h2, h3⟩ := h
  cases b
  · exact ⟨h1, h3⟩
  · exact absurd (h2.1 rfl) hp
theorem TT.dec {φ : Prop} [Decidable φ] {w w' : World} {e : Ending} (h : TT φ w e w') : e = .returned (.bool (decide φ)) ∧ Below w.heap.size w w' := by
  obtain ⟨b, h1, h2, h3⟩ := h
  exact ⟨by rw [h1]; congr 2; rw [Bool.eq_iff_iff, h2, decide_eq_true_iff], h3⟩

set_option maxRecDepth 20000 in
set_option maxHeartbeats 4000000 in
theorem sames_any (a b : Value) (xs ys : List Nat) (w : World) (ha : Rb w a xs) (hb : Rb w b ys) (hl : xs.length ≤ 281474976710656) : Calls Try.prog 8 #[a, b] w (TT (xs = ys) w) := by
  have HL := hide hl
  have HA := hide ha
  have HB := hide hb
  obtain ⟨A1, c1, rfl⟩ := ha.len
  obtain ⟨A2, c2, rfl⟩ := hb.len
  by_cases hlen : xs.length = ys.length
  · obtain ⟨N1, hN1⟩ : ∃ n, xs.length = n := ⟨_, rfl⟩
    have hN2 : ys.length = N1 := hlen ▸ hN1
    rw [hN1, hN2]
    have HN := hide (show xs.length = N1 ∧ ys.length = N1 from ⟨hN1, hN2⟩)
    clear hl ha hb hN1 hN2 hlen
    go_enter Try.func8, Try.ntmps8
    go_wp2_with fail
    go_loopg [5] N1 (fun k i wr => ∃ j : Nat, i = .int .i64 j ∧ Hid (j + k = N1 ∧ xs.take j = ys.take j) ∧ Hid (Below w.heap.size w wr))
    case atStart => exact ⟨0, rfl, hide ⟨by omega, rfl⟩, hide (Below.refl _ _)⟩
    case round =>
      obtain ⟨j, rfl, HJ, HW⟩ := hrel
      by_cases c : (j : Int) < N1
      · have hj : j < xs.length := by have := HN.out; omega
        have hj' : j < ys.length := by have := HN.out; omega
        obtain ⟨g, o, hA, hcell⟩ := HA.out.at hj
        obtain ⟨g', o', hB, hcell'⟩ := HB.out.at hj'
        obtain ⟨m, hm⟩ : ∃ m : Nat, xs[j] = m := ⟨_, rfl⟩
        obtain ⟨m', hm'⟩ : ∃ m : Nat, ys[j] = m := ⟨_, rfl⟩
        rw [hm] at hcell
        rw [hm'] at hcell'
        obtain rfl : A1 = some ⟨g, o, none⟩ := hA _ _ (by rw [HN.out.1])
        obtain rfl : A2 = some ⟨g', o', none⟩ := hB _ _ (by rw [HN.out.2])
        have hc : wr.cell? ⟨g, o + j, none⟩ = some (.int .u8 (m : Nat)) := keep_cell HW.out hcell.1 hcell.2
        have hc' : wr.cell? ⟨g', o' + j, none⟩ = some (.int .u8 (m' : Nat)) := keep_cell HW.out hcell'.1 hcell'.2
        have ew : IntKind.i64.wrap ((j : Int) + 1) = (j + 1 : Nat) := by rw [IntWalk.i64_in _ (by have := HL.out; have := HN.out; omega)]; rfl
        have HM := hide (show xs[j] = m ∧ ys[j] = m' from ⟨hm, hm'⟩)
        clear hcell hcell' hA hB hm hm'
        by_cases e : m = m'
        · subst e
          go_wp2_with fail
          go_quiet (fail)
          go_wp2
          go_roundg (N1 - (j + 1))
          case measure => have := HJ.out; omega
          case rel => exact ⟨j + 1, by simp, hide ⟨by have := HJ.out; omega, by rw [List.take_succ_eq_append_getElem hj, List.take_succ_eq_append_getElem hj', HM.out.1, HM.out.2, HJ.out.2]⟩, hide ⟨HW.out.os, HW.out.tape, HW.out.output, HW.out.size, HW.out.block⟩⟩
        · have t1 : (m == m') = false := beq_eq_false_iff_ne.2 e
          have t2 : ((m : Int) == (m' : Int)) = false := by rw [beq_eq_false_iff_ne]; omega
          have HE : Hid (¬ xs = ys) := hide fun h => e (by rw [← HM.out.1, ← HM.out.2]; simp only [h])
          clear e
          go_wp2_with fail
          go_quiet (fail)
          go_wp2
          go_ret
          exact ⟨false, rfl, ⟨fun h => by (cases h), fun h => absurd h HE.out⟩, below_drewN HW.out _⟩
      · have hj : j = N1 := by have := HJ.out; omega
        have HE : Hid (xs = ys) := hide (by have h := HJ.out.2; rw [List.take_of_length_le (by have := HN.out; omega), List.take_of_length_le (by have := HN.out; omega)] at h; exact h)
        subst hj
        go_wp2
        go_ret
        exact ⟨true, rfl, ⟨fun _ => HE.out, fun _ => rfl⟩, HW.out⟩
  · have HE : Hid (¬ xs = ys) := hide fun h => hlen (by rw [h])
    obtain ⟨N1, hN1⟩ : ∃ n, xs.length = n := ⟨_, rfl⟩
    obtain ⟨N2, hN2⟩ : ∃ n, ys.length = n := ⟨_, rfl⟩
    have hne : N1 ≠ N2 := by rw [← hN1, ← hN2]; exact hlen
    rw [hN1, hN2]
    have t1 : (N1 == N2) = false := beq_eq_false_iff_ne.2 hne
    have t2 : ((N1 : Int) == (N2 : Int)) = false := by rw [beq_eq_false_iff_ne]; omega
    clear hl ha hb hN1 hN2 hlen hne HA HB HL
    go_enter Try.func8, Try.ntmps8
    go_wp2
    go_ret
    exact ⟨false, rfl, ⟨fun h => by (cases h), fun h => absurd h HE.out⟩, Below.refl _ _⟩

set_option maxRecDepth 20000 in
set_option maxHeartbeats 4000000 in
theorem like_any (a b : Value) (xs ys : List Nat) (w : World) (ha : Rb w a xs) (hb : Rb w b ys) (hl : xs.length ≤ 281474976710656) : Calls Try.prog 42 #[a, b] w (TT (xs = ys) w) := by
  have HL := hide hl
  have HA := hide ha
  have HB := hide hb
  obtain ⟨A1, c1, rfl⟩ := ha.len
  obtain ⟨A2, c2, rfl⟩ := hb.len
  by_cases hlen : xs.length = ys.length
  · obtain ⟨N1, hN1⟩ : ∃ n, xs.length = n := ⟨_, rfl⟩
    have hN2 : ys.length = N1 := hlen ▸ hN1
    rw [hN1, hN2]
    have HN := hide (show xs.length = N1 ∧ ys.length = N1 from ⟨hN1, hN2⟩)
    clear hl ha hb hN1 hN2 hlen
    go_enter Try.func42, Try.ntmps42
    go_wp2_with fail
    go_loopg [5] N1 (fun k i wr => ∃ j : Nat, i = .int .i64 j ∧ Hid (j + k = N1 ∧ xs.take j = ys.take j) ∧ Hid (Below w.heap.size w wr))
    case atStart => exact ⟨0, rfl, hide ⟨by omega, rfl⟩, hide (Below.refl _ _)⟩
    case round =>
      obtain ⟨j, rfl, HJ, HW⟩ := hrel
      by_cases c : (j : Int) < N1
      · have hj : j < xs.length := by have := HN.out; omega
        have hj' : j < ys.length := by have := HN.out; omega
        obtain ⟨g, o, hA, hcell⟩ := HA.out.at hj
        obtain ⟨g', o', hB, hcell'⟩ := HB.out.at hj'
        obtain ⟨m, hm⟩ : ∃ m : Nat, xs[j] = m := ⟨_, rfl⟩
        obtain ⟨m', hm'⟩ : ∃ m : Nat, ys[j] = m := ⟨_, rfl⟩
        rw [hm] at hcell
        rw [hm'] at hcell'
        obtain rfl : A1 = some ⟨g, o, none⟩ := hA _ _ (by rw [HN.out.1])
        obtain rfl : A2 = some ⟨g', o', none⟩ := hB _ _ (by rw [HN.out.2])
        have hc : wr.cell? ⟨g, o + j, none⟩ = some (.int .u8 (m : Nat)) := keep_cell HW.out hcell.1 hcell.2
        have hc' : wr.cell? ⟨g', o' + j, none⟩ = some (.int .u8 (m' : Nat)) := keep_cell HW.out hcell'.1 hcell'.2
        have ew : IntKind.i64.wrap ((j : Int) + 1) = (j + 1 : Nat) := by rw [IntWalk.i64_in _ (by have := HL.out; have := HN.out; omega)]; rfl
        have HM := hide (show xs[j] = m ∧ ys[j] = m' from ⟨hm, hm'⟩)
        clear hcell hcell' hA hB hm hm'
        by_cases e : m = m'
        · subst e
          go_wp2_with fail
          go_quiet (fail)
          go_wp2
          go_roundg (N1 - (j + 1))
          case measure => have := HJ.out; omega
          case rel => exact ⟨j + 1, by simp, hide ⟨by have := HJ.out; omega, by rw [List.take_succ_eq_append_getElem hj, List.take_succ_eq_append_getElem hj', HM.out.1, HM.out.2, HJ.out.2]⟩, hide ⟨HW.out.os, HW.out.tape, HW.out.output, HW.out.size, HW.out.block⟩⟩
        · have t1 : (m == m') = false := beq_eq_false_iff_ne.2 e
          have t2 : ((m : Int) == (m' : Int)) = false := by rw [beq_eq_false_iff_ne]; omega
          have HE : Hid (¬ xs = ys) := hide fun h => e (by rw [← HM.out.1, ← HM.out.2]; simp only [h])
          clear e
          go_wp2_with fail
          go_quiet (fail)
          go_wp2
          go_ret
          exact ⟨false, rfl, ⟨fun h => by (cases h), fun h => absurd h HE.out⟩, below_drewN HW.out _⟩
      · have hj : j = N1 := by have := HJ.out; omega
        have HE : Hid (xs = ys) := hide (by have h := HJ.out.2; rw [List.take_of_length_le (by have := HN.out; omega), List.take_of_length_le (by have := HN.out; omega)] at h; exact h)
        subst hj
        go_wp2
        go_ret
        exact ⟨true, rfl, ⟨fun _ => HE.out, fun _ => rfl⟩, HW.out⟩
  · have HE : Hid (¬ xs = ys) := hide fun h => hlen (by rw [h])
    obtain ⟨N1, hN1⟩ : ∃ n, xs.length = n := ⟨_, rfl⟩
    obtain ⟨N2, hN2⟩ : ∃ n, ys.length = n := ⟨_, rfl⟩
    have hne : N1 ≠ N2 := by rw [← hN1, ← hN2]; exact hlen
    rw [hN1, hN2]
    have t1 : (N1 == N2) = false := beq_eq_false_iff_ne.2 hne
    have t2 : ((N1 : Int) == (N2 : Int)) = false := by rw [beq_eq_false_iff_ne]; omega
    clear hl ha hb hN1 hN2 hlen hne HA HB HL
    go_enter Try.func42, Try.ntmps42
    go_wp2
    go_ret
    exact ⟨false, rfl, ⟨fun h => by (cases h), fun h => absurd h HE.out⟩, Below.refl _ _⟩
end Go.Proofs.Ytaecbapflpejmaa
