/- Contract of the reference's Cmp on lists of words. -/
import Derived.Test.YtljnadoodbninaaWNum
namespace Go.Proofs.Ytljnadoodbninaa
open Go.RowKit
/-- How two numbers stand to each other. -/
def cmpz (a b : Nat) : Int := if a < b then -1 else if b < a then 1 else 0
theorem cmpz_lt {a b : Nat} (h : a < b) : cmpz a b = -1 := if_pos h
theorem cmpz_gt {a b : Nat} (h : b < a) : cmpz a b = 1 := by unfold cmpz; rw [if_neg (by omega), if_pos h]
theorem cmpz_eq {a b : Nat} (h : a = b) : cmpz a b = 0 := by unfold cmpz; rw [if_neg (by omega), if_neg (by omega)]
theorem nat32_lt_at {xs ys : List Nat} {j : Nat} (hx : Vg.Wd xs) (h1 : j < xs.length) (h2 : j < ys.length) (e : Vg.nat32 (xs.drop (j + 1)) = Vg.nat32 (ys.drop (j + 1))) (h : xs[j] < ys[j]) : Vg.nat32 xs < Vg.nat32 ys := by
  rw [Vg.nat32_split xs j (by omega), Vg.nat32_split ys j (by omega), Vg.nat32_drop h1, Vg.nat32_drop h2, e]
  have l := Vg.nat32_lt _ (hx.take j)
  rw [List.length_take, Nat.min_eq_left (by omega)] at l
  have m := Nat.mul_le_mul_left (Vg.P32 j) (show xs[j] + 4294967296 * Vg.nat32 (ys.drop (j + 1)) + 1 ≤ ys[j] + 4294967296 * Vg.nat32 (ys.drop (j + 1)) by omega)
  rw [Nat.mul_add, Nat.mul_one] at m
  omega
def TCm (a b : Nat) (w : World) (e : Ending) (w' : World) : Prop := e = .returned (.int .i64 (cmpz a b)) ∧ Below w.heap.size w w'

set_option maxRecDepth 20000 in
set_option maxHeartbeats 8000000 in
theorem cmp_any (a b : Value) (xs ys : List Nat) (w : World) (ha : Rw w a xs) (hb : Rw w b ys) (hl : xs.length ≤ 35184372088831) (hl2 : ys.length ≤ 35184372088831) : Calls Try.prog 85 #[a, b] w (TCm (Vg.nat32 xs) (Vg.nat32 ys) w) := by
  have HL := hide (show _ ∧ _ from ⟨hl, hl2⟩)
  have HA := hide ha
  have HB := hide hb
  obtain ⟨A1, c1, rfl⟩ := ha.len
  obtain ⟨A2, c2, rfl⟩ := hb.len
  obtain ⟨N1, hN1⟩ : ∃ n, xs.length = n := ⟨_, rfl⟩
  obtain ⟨N2, hN2⟩ : ∃ n, ys.length = n := ⟨_, rfl⟩
  rw [hN1, hN2]
  have HN := hide (show xs.length = N1 ∧ ys.length = N2 from ⟨hN1, hN2⟩)
  have W1 := fun (w' : World) (h : Below w.heap.size w w') => words_any _ xs w' (ha.keep h) hl
  have W2 := fun (w' : World) (h : Below w.heap.size w w') => words_any _ ys w' (hb.keep h) hl2
  rw [hN1] at W1
  rw [hN2] at W2
  clear hl hl2 ha hb hN1 hN2
  go_enter Try.func85, Try.ntmps85
  go_wp2_with fail
  refine (W1 _ (Below.refl _ _)).mono ?_; rintro e w1 ⟨n, rfl, hn, hb1⟩
  have G1 := hide hb1
  have HX := hide hn
  clear hb1 hn W1
  go_wp2_with fail
  refine (W2 _ G1.out).mono ?_; rintro e w2 ⟨m, rfl, hm, hb2⟩
  have G2 := hide (bch G1.out hb2)
  have HY := hide hm
  clear hb2 hm W2 G1
  rcases Nat.lt_trichotomy n m with h | h | h
  · have t1 : decide (n < m) = true := decide_eq_true (by omega)
    have R := hide (cmpz_lt (HX.out.cmp HY.out HA.out.1 h))
    clear h
    go_wp2
    go_ret
    exact ⟨by rw [R.out]; rfl, G2.out⟩
  · subst h
    have t1 : decide (n < n) = false := decide_eq_false (by omega)
    have ew0 : IntKind.i64.wrap ((n : Int) - 1) = (n : Int) - 1 := by rw [IntWalk.i64_in _ (by have := HL.out; have := HN.out; have := HX.out.1; omega)]
    go_wp2_with fail
    go_loopg [7] n (fun k i wr => ∃ I : Int, i = .int .i64 I ∧ Hid (I + 1 = k ∧ k ≤ n ∧ Vg.nat32 (xs.drop k) = Vg.nat32 (ys.drop k)) ∧ Hid (Below w.heap.size w wr))
    case atStart => exact ⟨(n : Int) - 1, rfl, hide ⟨by omega, Nat.le_refl _, by rw [(Vg.nat32_zero_iff _).2 HX.out.2.1, (Vg.nat32_zero_iff _).2 HY.out.2.1]⟩, hide G2.out⟩
    case round =>
      obtain ⟨I, rfl, HJ, HW⟩ := hrel
      by_cases c : (0 : Int) ≤ I
      · obtain ⟨j, rfl⟩ := Int.eq_ofNat_of_zero_le c
        have hj1 : j < xs.length := by have := HJ.out; have := HX.out.1; omega
        have hj2 : j < ys.length := by have := HJ.out; have := HY.out.1; omega
        have jb1 : (j : Int) < N1 := by have := HN.out; omega
        have jb2 : (j : Int) < N2 := by have := HN.out; omega
        obtain ⟨g, o, hA, hcell⟩ := HA.out.at hj1
        obtain ⟨g', o', hB, hcell'⟩ := HB.out.at hj2
        obtain ⟨x, hx⟩ : ∃ m : Nat, xs[j] = m := ⟨_, rfl⟩
        obtain ⟨y, hy⟩ : ∃ m : Nat, ys[j] = m := ⟨_, rfl⟩
        rw [hx] at hcell
        rw [hy] at hcell'
        obtain rfl : A1 = some ⟨g, o, none⟩ := hA _ _ (by rw [HN.out.1])
        obtain rfl : A2 = some ⟨g', o', none⟩ := hB _ _ (by rw [HN.out.2])
        have hc : wr.cell? ⟨g, o + j, none⟩ = some (.int .u32 (x : Nat)) := keep_cell HW.out hcell.1 hcell.2
        have hc' : wr.cell? ⟨g', o' + j, none⟩ = some (.int .u32 (y : Nat)) := keep_cell HW.out hcell'.1 hcell'.2
        have ew : IntKind.i64.wrap ((j : Int) - 1) = (j : Int) - 1 := by rw [IntWalk.i64_in _ (by have := HL.out; have := HN.out; omega)]
        have HM := hide (show xs[j] = x ∧ ys[j] = y from ⟨hx, hy⟩)
        have HE : Hid (Vg.nat32 (xs.drop (j + 1)) = Vg.nat32 (ys.drop (j + 1)) ∧ j + 1 = gk) := hide (by have h := HJ.out; have e : gk = j + 1 := (by omega); rw [e] at h; exact ⟨h.2.2, e.symm⟩)
        have HG : Hid (gk ≤ n) := hide HJ.out.2.1
        clear hcell hcell' hA hB hx hy HJ c
        rcases Nat.lt_trichotomy x y with h | h | h
        · have u1 : decide (x < y) = true := decide_eq_true (by omega)
          have R := hide (cmpz_lt (nat32_lt_at HA.out.1 hj1 hj2 HE.out.1 (by rw [HM.out.1, HM.out.2]; exact h)))
          clear h
          go_wp2_with fail
          go_quiet (fail)
          go_wp2
          go_ret
          exact ⟨by rw [R.out]; rfl, below_drewN HW.out _⟩
        · subst h
          have u1 : decide (x < x) = false := decide_eq_false (by omega)
          go_wp2_with fail
          go_quiet (fail)
          go_wp2_with fail
          go_quiet (fail)
          go_wp2
          go_roundg j
          case measure => have := HE.out; omega
          case rel =>
            refine ⟨(j : Int) - 1, rfl, hide ⟨by omega, by have := HE.out; have := HG.out; omega, ?_⟩, hide ?_⟩
            · rw [Vg.nat32_drop hj1, Vg.nat32_drop hj2, HE.out.1, HM.out.1, HM.out.2]
            · first | exact below_drewN (below_drewN HW.out _) _ | exact ⟨HW.out.os, HW.out.tape, HW.out.output, HW.out.size, HW.out.block⟩
        · have u1 : decide (x < y) = false := decide_eq_false (by omega)
          have u2 : decide (y < x) = true := decide_eq_true (by omega)
          have R := hide (cmpz_gt (nat32_lt_at HB.out.1 hj2 hj1 HE.out.1.symm (by rw [HM.out.1, HM.out.2]; exact h)))
          clear h
          go_wp2_with fail
          go_quiet (fail)
          go_wp2_with fail
          go_quiet (fail)
          go_wp2
          go_ret
          exact ⟨by rw [R.out]; rfl, by first | exact below_drewN (below_drewN HW.out _) _ | exact ⟨HW.out.os, HW.out.tape, HW.out.output, HW.out.size, HW.out.block⟩⟩
      · have R := hide (cmpz_eq (show Vg.nat32 xs = Vg.nat32 ys by
          have h := HJ.out
          rw [show gk = 0 by omega] at h
          exact h.2.2))
        clear HJ
        go_wp2
        go_ret
        exact ⟨by rw [R.out]; rfl, HW.out⟩
  · have t1 : decide (n < m) = false := decide_eq_false (by omega)
    have t2 : decide (m < n) = true := decide_eq_true (by omega)
    have R := hide (cmpz_gt (HY.out.cmp HX.out HB.out.1 h))
    clear h
    go_wp2
    go_ret
    exact ⟨by rw [R.out]; rfl, G2.out⟩
end Go.Proofs.Ytljnadoodbninaa
