/- Contracts of the program's Join. -/
import Derived.Test.YtgbjckokhonkgaaDoorWFrame
import Derived.Test.YtgbjckokhonkgaaDoorWJoinR
import Derived.Test.YtgbjckokhonkgaaDoorWTz
import Derived.Test.YtgbjckokhonkgaaDoorWHeld
import Derived.Test.YtgbjckokhonkgaaDoorMJoinP
import Derived.Deep.Cut
namespace Go.Proofs.YtgbjckokhonkgaaDoor
open Go.RowKit
theorem Tab.below {w w' : World} (h : Tab w) (hb : Below w.heap.size w w') : Tab w' := fun j hj => by
  have h0 := h j hj
  have hl : 1 < w.heap.size := by
    refine Classical.byContradiction fun c => ?_
    simp [World.cell?, Array.getElem?_eq_none (Nat.le_of_not_lt c)] at h0
  exact keep_cell hb hl h0

/-- A number and an error are told: those that R tells, and nothing that was there has changed. -/
def ToldJ64 (R : Int → Bool → Prop) (w : World) (e : Ending) (w' : World) : Prop := ∃ (b : Nat) (o : Bool) (k : Int), e = .returned (.tuple #[.float .f64 b, .int .i64 k]) ∧ R b o ∧ (o = true ∧ k = 0 ∨ o = false ∧ k = 1) ∧ Below w.heap.size w w'
theorem or_low64 (q t : Nat) (hq : q ≤ 2047) (ht : t < 4503599627370496) : bits .or .u64 ((q * 4503599627370496 : Nat) : Int) (t : Int) = ((q * 4503599627370496 + t : Nat) : Int) := by
  refine Eq.trans (u64_or_nat _ t (by omega) (by omega)) ?_
  rw [show (4503599627370496 : Nat) = 2 ^ 52 from rfl, nat_join 52 (q * 2 ^ 52) t (by simp) (by omega)]

/-- A number and an error are told: those that R tells, and nothing that was there has changed. -/
def ToldJ32 (R : Int → Bool → Prop) (w : World) (e : Ending) (w' : World) : Prop := ∃ (b : Nat) (o : Bool) (k : Int), e = .returned (.tuple #[.float .f32 b, .int .i64 k]) ∧ R b o ∧ (o = true ∧ k = 0 ∨ o = false ∧ k = 1) ∧ Below w.heap.size w w'
theorem or_low32 (q t : Nat) (hq : q ≤ 2047) (ht : t < 8388608) : bits .or .u64 ((q * 8388608 : Nat) : Int) (t : Int) = ((q * 8388608 + t : Nat) : Int) := by
  refine Eq.trans (u64_or_nat _ t (by omega) (by omega)) ?_
  rw [show (8388608 : Nat) = 2 ^ 23 from rfl, nat_join 23 (q * 2 ^ 23) t (by simp) (by omega)]

set_option maxRecDepth 20000 in
set_option maxHeartbeats 4000000 in
theorem join64 (n : Bool) (s : Nat) (x : Int) (hs : s ≤ 18446744073709551615) (_hx : -9223372036854775808 ≤ x ∧ x ≤ 9223372036854775807) (w : World) (hT : Tab w) :
    Calls Tryd.prog 16 #[.bool n, .int .u64 s, .int .i64 x] w (ToldJ64 (Vg.Jn64 n s x) w) := by
  by_cases h0 : s = 0
  · subst h0
    have HR : Hid (Vg.Jn64 n 0 x 0 true) := hide (.inl ⟨rfl, rfl, rfl⟩)
    go_enter Tryd.func16, Tryd.ntmps16
    go_wp2
    go_ret2
    exact ⟨0, true, 0, rfl, HR.out, .inl ⟨rfl, rfl⟩, Below.refl _ _⟩
  have t0 : ((s : Int) == 0) = false := by rw [beq_eq_false_iff_ne]; omega
  obtain ⟨m, hm, ho, hk⟩ := Vg.cut_two s (by omega) hs
  have HK := hide (rfl : Lib.ctz 64 s = Lib.ctz 64 s)
  have htz := fun (w : World) (hT : Tab w) => tz s (by omega) hs w hT
  generalize Lib.ctz 64 s = k at *
  have hm0 : 0 < m := by omega
  have hmle : m ≤ s := by rw [hm]; exact Nat.le_mul_of_pos_right _ (Nat.two_pow_pos _)
  obtain ⟨b0, b1, b2, b3⟩ := Vg.len_at m hm0 (by omega)
  obtain ⟨b, hl⟩ : ∃ b, Lib.bitLen m = b := ⟨_, rfl⟩
  rw [hl] at b0 b1 b2 b3
  have hno := fun c => Vg.jp_no64 (n := n) (x := x) (by omega) m k b hm ho hk b0 b1 c
  by_cases c1 : x < -1200
  · have HR := hide (hno (.inl c1))
    clear hno htz hT hm ho hk hmle b1 b2 b3
    go_enter Tryd.func16, Tryd.ntmps16
    go_wp2
    go_ret2
    exact ⟨0, false, 1, rfl, HR.out, .inr ⟨rfl, rfl⟩, Below.refl _ _⟩
  by_cases c2 : 1100 < x
  · have HR := hide (hno (.inr (.inl c2)))
    clear hno htz hT hm ho hk hmle b1 b2 b3
    go_enter Tryd.func16, Tryd.ntmps16
    go_wp2
    go_ret2
    exact ⟨0, false, 1, rfl, HR.out, .inr ⟨rfl, rfl⟩, Below.refl _ _⟩
  have e1 : (s : Int) / 2 ^ k = m := by
    have : s / 2 ^ k = m := by rw [hm]; exact Nat.mul_div_cancel _ (Nat.two_pow_pos _)
    rw [← this]; simp
  have hlen := fun (w : World) => (len_any m (by omega) (by omega) w).mono (R' := fun e w' => e = .returned (.int .i64 b) ∧ w = w') fun _ _ h => ⟨by rw [h.1, Int.toNat_natCast, hl], h.2.symm⟩
  clear hl
  by_cases d1 : 52 + 1 - (b : Int) < 0
  · have HR := hide (hno (.inr (.inr (.inl d1))))
    clear hno hm
    go_enter Tryd.func16, Tryd.ntmps16
    go_wp2_with (first | (go_at_call 22; refine (format64 _).mono ?_; rintro e w' ⟨rfl, hb1⟩; have hT1 := fun o => hT.below (hb1.alloc hb1.size o)) | (go_at_call 31; refine (htz _ (hT1 _)).mono ?_; rintro e w' ⟨rfl, rfl⟩))
    clear htz
    go_quiet ((go_at_call 32; exact quiet_left (hlen _)))
    go_wp2
    go_ret2
    exact ⟨0, false, 1, rfl, HR.out, .inr ⟨rfl, rfl⟩, below_drewN (hb1.alloc hb1.size _) _⟩
  by_cases d2 : x + k < -1074
  · have HR := hide (hno (.inr (.inr (.inr (.inl d2)))))
    clear hno hm
    go_enter Tryd.func16, Tryd.ntmps16
    go_wp2_with (first | (go_at_call 22; refine (format64 _).mono ?_; rintro e w' ⟨rfl, hb1⟩; have hT1 := fun o => hT.below (hb1.alloc hb1.size o)) | (go_at_call 31; refine (htz _ (hT1 _)).mono ?_; rintro e w' ⟨rfl, rfl⟩))
    clear htz
    go_quiet ((go_at_call 32; exact quiet_left (hlen _)))
    go_wp2
    go_ret2
    exact ⟨0, false, 1, rfl, HR.out, .inr ⟨rfl, rfl⟩, below_drewN (hb1.alloc hb1.size _) _⟩
  by_cases d3 : 971 + (52 + 1 - (b : Int)) < x + k
  · have HR := hide (hno (.inr (.inr (.inr (.inr d3)))))
    clear hno hm
    go_enter Tryd.func16, Tryd.ntmps16
    go_wp2_with (first | (go_at_call 22; refine (format64 _).mono ?_; rintro e w' ⟨rfl, hb1⟩; have hT1 := fun o => hT.below (hb1.alloc hb1.size o)) | (go_at_call 31; refine (htz _ (hT1 _)).mono ?_; rintro e w' ⟨rfl, rfl⟩))
    clear htz
    go_quiet ((go_at_call 32; exact quiet_left (hlen _)))
    go_wp2
    go_ret2
    exact ⟨0, false, 1, rfl, HR.out, .inr ⟨rfl, rfl⟩, below_drewN (hb1.alloc hb1.size _) _⟩
  obtain ⟨j, hj⟩ : ∃ j : Nat, (j : Int) = min (52 + 1 - (b : Int)) (x + k - (-1074)) := ⟨(min (52 + 1 - (b : Int)) (x + k - (-1074))).toNat, by omega⟩
  obtain ⟨g0, g1, y0, y1, hjn⟩ := Vg.jp_yes64 (n := n) (x := x) (by omega) m k b hm ho b0 b2 (by omega) (by omega) (by omega) b1 j hj
  have HJ := hide hjn
  have G1 := hide g1
  have G0 := hide g0
  have j53 : j ≤ 52 + 1 := by omega
  have hm1 : min (52 + 1 - (b : Int)) (x + k + (-(-1074))) = j := by rw [hj]; congr 1
  have hm1 : min (53 - (b : Int)) (x + k + 1074) = j := hm1
  obtain ⟨g, hg⟩ : ∃ g, m * 2 ^ j = g := ⟨_, rfl⟩
  have es : (m : Int) * 2 ^ j = g := by rw [← hg]; push_cast; rfl
  obtain ⟨y, hy⟩ : ∃ y, x + (k : Int) - j = y := ⟨_, rfl⟩
  rw [hg] at HJ G1 G0
  rw [hy] at HJ y0 y1
  have g2 : g < 2 * 4503599627370496 := G1.out
  clear hno hm hjn g1 g0 hj hg
  · go_enter Tryd.func16, Tryd.ntmps16
    go_wp2_with (first | (go_at_call 22; refine (format64 _).mono ?_; rintro e w' ⟨rfl, hb1⟩; have hT1 := fun o => hT.below (hb1.alloc hb1.size o)) | (go_at_call 31; refine (htz _ (hT1 _)).mono ?_; rintro e w' ⟨rfl, rfl⟩))
    clear htz
    go_quiet ((go_at_call 32; exact quiet_left (hlen _)))
    go_upto_region 11 with fail
    clear hlen hT1 hT
    go_upto_region 12 with fail
    go_upto_region 13 with fail
    by_cases c : 4503599627370496 ≤ g
    · obtain ⟨t, ht⟩ : ∃ t, t = g - 4503599627370496 := ⟨_, rfl⟩
      have t1 : t < 4503599627370496 := by omega
      have u1 : decide ((4503599627370496 : Int) ≤ (g : Int)) = true := decide_eq_true (by omega)
      have el := Vg.andLow64 g (by omega)
      rw [show g % 4503599627370496 = t by omega] at el
      obtain ⟨q, hq⟩ : ∃ q : Nat, (q : Int) = y + 1074 + 1 := ⟨(y + 1074 + 1).toNat, by omega⟩
      have eo := or_low64 q t (by omega) t1
      obtain ⟨v, hv⟩ : ∃ v, v = q * 4503599627370496 + t := ⟨_, rfl⟩
      rw [show ((q * 4503599627370496 : Nat) : Int) = (y + 1074 + 1) * 4503599627370496 by omega, ← hv] at eo
      rw [if_pos c, show (y - (-1074) + 1) * 4503599627370496 + (g : Int) - 4503599627370496 = (v : Int) by omega] at HJ
      have v1 : v < 9223372036854775808 := by rw [hv]; omega
      clear ht c g2 t1 hq hv
      go_upto_region 15 with fail
      cases n
      · have HR : Hid (Vg.Jn64 false s x (v : Int) true) := hide (by have h := HJ.out; rw [if_neg (by decide)] at h; exact h)
        clear HJ
        go_quiet (fail)
        go_wp2_with (first | (go_at_call 29; refine (number64 (v : Int) (by omega) (by omega) _).mono ?_; rintro e w' ⟨rfl, rfl⟩))
        go_ret2
        exact ⟨v, true, 0, rfl, HR.out, .inl ⟨rfl, rfl⟩, below_drewN (hb1.alloc hb1.size _) _⟩
      · have es2 := Vg.orSign64 v (by omega)
        obtain ⟨v2, hv2⟩ : ∃ v2, v2 = v + 9223372036854775808 := ⟨_, rfl⟩
        rw [← hv2] at es2
        have v3 : v2 ≤ 18446744073709551615 := by omega
        have HR : Hid (Vg.Jn64 true s x (v2 : Int) true) := hide (by have h := HJ.out; rw [if_pos rfl] at h; rw [show (v2 : Int) = (v : Int) + 9223372036854775808 by omega]; exact h)
        clear HJ hv2
        go_quiet (fail)
        go_wp2_with (first | (go_at_call 29; refine (number64 (v2 : Int) (by omega) (by omega) _).mono ?_; rintro e w' ⟨rfl, rfl⟩))
        go_ret2
        exact ⟨v2, true, 0, rfl, HR.out, .inl ⟨rfl, rfl⟩, below_drewN (hb1.alloc hb1.size _) _⟩
    · have u1 : decide ((4503599627370496 : Int) ≤ (g : Int)) = false := decide_eq_false (by omega)
      rw [if_neg c] at HJ
      have v1 : g < 9223372036854775808 := by omega
      clear c g2
      cases n
      · have HR : Hid (Vg.Jn64 false s x (g : Int) true) := hide (by have h := HJ.out; rw [if_neg (by decide)] at h; exact h)
        clear HJ
        skip
        go_wp2_with (first | (go_at_call 29; refine (number64 (g : Int) (by omega) (by omega) _).mono ?_; rintro e w' ⟨rfl, rfl⟩))
        go_ret2
        exact ⟨g, true, 0, rfl, HR.out, .inl ⟨rfl, rfl⟩, below_drewN (hb1.alloc hb1.size _) _⟩
      · have es2 := Vg.orSign64 g (by omega)
        obtain ⟨v2, hv2⟩ : ∃ v2, v2 = g + 9223372036854775808 := ⟨_, rfl⟩
        rw [← hv2] at es2
        have v3 : v2 ≤ 18446744073709551615 := by omega
        have HR : Hid (Vg.Jn64 true s x (v2 : Int) true) := hide (by have h := HJ.out; rw [if_pos rfl] at h; rw [show (v2 : Int) = (g : Int) + 9223372036854775808 by omega]; exact h)
        clear HJ hv2
        skip
        go_wp2_with (first | (go_at_call 29; refine (number64 (v2 : Int) (by omega) (by omega) _).mono ?_; rintro e w' ⟨rfl, rfl⟩))
        go_ret2
        exact ⟨v2, true, 0, rfl, HR.out, .inl ⟨rfl, rfl⟩, below_drewN (hb1.alloc hb1.size _) _⟩

end Go.Proofs.YtgbjckokhonkgaaDoor
