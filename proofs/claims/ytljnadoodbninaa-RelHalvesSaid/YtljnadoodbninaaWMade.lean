/- Contract of the reference's made: the pattern of a significand and an exponent. -/
import Derived.Test.YtljnadoodbninaaWBy
import Derived.Test.YtljnadoodbninaaMBit
namespace Go.Proofs.Ytljnadoodbninaa
open Go.RowKit
/-- A pattern by its sign and its rung. -/
def mk (s : Bool) (r : Nat) : Nat := if r = 0 then 0 else if s then r + 9223372036854775808 else r
set_option maxRecDepth 20000 in
set_option maxHeartbeats 4000000 in
theorem made_any (s : Bool) (g L : Nat) (x : Int) (hx : x = (L : Int) - 1074) (hg : g ≤ 9007199254740992) (hL : L ≤ 2045) (h : 4503599627370496 ≤ g ∨ L = 0) (w : World) :
    Calls Try.prog 138 #[.bool s, .int .u64 g, .int .i64 x] w fun e w' => e = .returned (.int .u64 (mk s (L * 4503599627370496 + g) : Nat)) ∧ Below w.heap.size w w' := by
  by_cases h0 : g = 0
  · subst h0
    have e : mk s (L * 4503599627370496 + 0) = 0 := by rcases h with h | h; exact absurd h (by decide); subst h; rfl
    rw [e]
    clear hx hg h e
    go_enter Try.func138, Try.ntmps138
    go_wp2
    go_ret
    exact ⟨rfl, Below.refl _ _⟩
  have t0 : ((g : Int) == 0) = false := by rw [beq_eq_false_iff_ne]; omega
  obtain ⟨R, hR⟩ : ∃ R, L * 4503599627370496 + g = R := ⟨_, rfl⟩
  rw [hR]
  obtain ⟨m, hm⟩ : ∃ m, mk s R = m := ⟨_, rfl⟩
  rw [hm]
  have HMK := hide hm
  have H0 := hide (show (x + 1074) * 4503599627370496 + g = R ∧ -1074 ≤ x ∧ x ≤ 971 ∧ g ≤ 9007199254740992 ∧ (4503599627370496 ≤ g ∨ x = -1074) ∧ g ≠ 0 from by
    refine ⟨?_, by omega, by omega, hg, by omega, h0⟩
    omega)
  clear hx hg hL h h0 hR hm
  go_enter Try.func138, Try.ntmps138
  go_wp2_with fail
  go_loopg [1, 2] (g / 9007199254740992) (fun k a b wr => ∃ (G : Nat) (X : Int), a = .int .u64 G ∧ b = .int .i64 X ∧ Hid ((X + 1074) * 4503599627370496 + G = R ∧ -1074 ≤ X ∧ X + k ≤ 972 ∧ G ≤ 9007199254740992 ∧ (4503599627370496 ≤ G ∨ X = -1074) ∧ G ≠ 0 ∧ k = G / 9007199254740992) ∧ Hid (Below w.heap.size w wr))
  case atStart => exact ⟨g, x, rfl, rfl, hide ⟨H0.out.1, H0.out.2.1, by have := H0.out; omega, H0.out.2.2.2.1, H0.out.2.2.2.2.1, H0.out.2.2.2.2.2, rfl⟩, hide (Below.refl _ _)⟩
  case round =>
    clear H0 t0
    obtain ⟨G, X, rfl, rfl, HI, HW⟩ := hrel
    by_cases c : (9007199254740992 : Int) ≤ G
    · have e1 : (G : Int) / 2 = ((4503599627370496 : Nat) : Int) := by have := HI.out; omega
      have e2 : IntKind.i64.wrap (X + 1) = X + 1 := IntWalk.i64_in _ (by have := HI.out; omega)
      have H2 := hide (show (X + 1 + 1074) * 4503599627370496 + ((4503599627370496 : Nat) : Int) = R ∧ -1074 ≤ X + 1 ∧ X + 1 + ((0 : Nat) : Int) ≤ 972 ∧ gk = 1 from by
        have h := HI.out
        have hG : G = 9007199254740992 := by omega
        exact ⟨by omega, by omega, by omega, by rw [h.2.2.2.2.2.2, hG]⟩)
      clear HI
      go_wp2
      go_roundg 0
      case measure => have := H2.out.2.2.2; omega
      case rel => exact ⟨4503599627370496, X + 1, rfl, rfl, hide ⟨H2.out.1, H2.out.2.1, H2.out.2.2.1, by decide, .inl (by decide), by decide, by decide⟩, HW⟩
    · have ec : ¬ X < -1074 := by have := HI.out; omega
      obtain ⟨q, hq⟩ : ∃ q, G % 2 = q := ⟨_, rfl⟩
      have a1 : bits .and .u64 (G : Int) 1 = (q : Int) := by
        have h := u64_and_nat G 1 (by have := HI.out; omega) (by decide)
        rw [Nat.and_one_is_mod, hq] at h
        exact h
      have H2 := hide (show (X + 1074) * 4503599627370496 + G = R ∧ -1074 ≤ X ∧ X ≤ 972 ∧ G < 9007199254740992 ∧ (4503599627370496 ≤ G ∨ X = -1074) ∧ G ≠ 0 from by have := HI.out; omega)
      clear HI
      rcases (show q = 0 ∨ q = 1 by omega) with rfl | rfl
      all_goals
        clear hq
        by_cases c2 : (G : Int) < 4503599627370496
        · have ex : decide ((-1074 : Int) < X) = false := decide_eq_false (by have := H2.out; omega)
          have b2 : decide ((G : Int) < 4503599627370496) = true := decide_eq_true c2
          have b3 : decide ((4503599627370496 : Int) ≤ G) = false := decide_eq_false (by omega)
          have H2 := hide (show _ ∧ (G : Int) < 4503599627370496 from ⟨H2.out, c2⟩)
          clear c2
          go_wp2_with fail
          go_loopg [1, 2] 0 (fun k a b wr => a = .int .u64 G ∧ b = .int .i64 X ∧ Hid (Below w.heap.size w wr))
          case atStart => exact ⟨rfl, rfl, HW⟩
          case round =>
            clear HW
            obtain ⟨rfl, rfl, HW⟩ := hrel
            obtain rfl : G = R := by have := H2.out; omega
            have HR := hide (show G ≠ 0 ∧ G ≤ 9223372036854775807 from by have := H2.out; omega)
            clear H2
            have o1 := Vg.orSign64 G HR.out.2
            cases s
            · obtain rfl : m = G := by rw [← HMK.out]; unfold mk; rw [if_neg HR.out.1]; rfl
              clear HR o1 HMK
              go_wp2
              go_ret
              exact ⟨rfl, HW.out⟩
            · have e : m = G + 9223372036854775808 := by rw [← HMK.out]; unfold mk; rw [if_neg HR.out.1]; rfl
              rw [← e] at o1
              clear HR e HMK
              go_wp2
              go_ret
              exact ⟨rfl, HW.out⟩
        · have b2 : decide ((G : Int) < 4503599627370496) = false := decide_eq_false c2
          have b3 : decide ((4503599627370496 : Int) ≤ G) = true := decide_eq_true (by omega)
          have H2 := hide (show _ ∧ ¬ (G : Int) < 4503599627370496 from ⟨H2.out, c2⟩)
          clear c2
          go_wp2_with fail
          go_loopg [1, 2] 0 (fun k a b wr => a = .int .u64 G ∧ b = .int .i64 X ∧ Hid (Below w.heap.size w wr))
          case atStart => exact ⟨rfl, rfl, HW⟩
          case round =>
            clear HW
            obtain ⟨rfl, rfl, HW⟩ := hrel
            obtain ⟨E, hE⟩ : ∃ E : Nat, X + 1075 = E := ⟨(X + 1075).toNat, by have := H2.out; omega⟩
            have u1 : IntKind.i64.wrap (X + 1075) = (E : Int) := by rw [IntWalk.i64_in _ (by have := H2.out; omega), hE]
            have u2 : IntKind.u64.wrap (E : Int) = (E : Int) := by rw [IntKind.wrap_u64]; have := H2.out; omega
            obtain ⟨P, hP⟩ : ∃ P, E * 4503599627370496 = P := ⟨_, rfl⟩
            have u3 : IntKind.u64.wrap ((E : Int) * 4503599627370496) = (P : Int) := by rw [IntKind.wrap_u64]; have := H2.out; omega
            have u3' : (E : Int) * 4503599627370496 % 18446744073709551616 = (P : Int) := by have := H2.out; omega
            obtain ⟨D, hD⟩ : ∃ D, G - 4503599627370496 = D := ⟨_, rfl⟩
            have u4 : IntKind.u64.wrap ((G : Int) - 4503599627370496) = (D : Int) := by rw [IntKind.wrap_u64]; have := H2.out; omega
            have u5 : IntKind.u64.wrap ((D : Int) + P) = (R : Int) := by rw [IntKind.wrap_u64]; have := H2.out; omega
            have HR := hide (show R ≠ 0 ∧ R ≤ 9223372036854775807 from by have := H2.out; omega)
            clear H2 hE hP hD
            have o1 := Vg.orSign64 R HR.out.2
            cases s
            · obtain rfl : m = R := by rw [← HMK.out]; unfold mk; rw [if_neg HR.out.1]; rfl
              clear HR o1 HMK
              go_wp2
              go_ret
              exact ⟨rfl, HW.out⟩
            · have e : m = R + 9223372036854775808 := by rw [← HMK.out]; unfold mk; rw [if_neg HR.out.1]; rfl
              rw [← e] at o1
              clear HR e HMK
              go_wp2
              go_ret
              exact ⟨rfl, HW.out⟩
end Go.Proofs.Ytljnadoodbninaa
