/- The contract of the law's 'awake': one meeting that the document tells. -/
import Derived.Test.YtljnadoodbninaaWKinds
namespace Go.Proofs.Ytljnadoodbninaa
open Go.RowKit
theorem rd13 : Vg.Rd 4607182418800017408 4613937818241073152 4607182418800017408 4613937818241073152 := ⟨by decide, by decide, .inl ⟨by decide, by decide, by decide, by decide, by decide, by decide, by decide⟩⟩
theorem rd24 : Vg.Rd 4611686018427387904 4616189618054758400 4611686018427387904 4616189618054758400 := ⟨by decide, by decide, .inl ⟨by decide, by decide, by decide, by decide, by decide, by decide, by decide⟩⟩
theorem rd12 : Vg.Rd 4607182418800017408 4611686018427387904 4607182418800017408 4611686018427387904 := ⟨by decide, by decide, .inl ⟨by decide, by decide, by decide, by decide, by decide, by decide, by decide⟩⟩

theorem at2 : Vg.atn true 4611686018427387904 = 4611686018427387904 := by decide
theorem at3 : Vg.atn true 4613937818241073152 = 4613937818241073152 := by decide
set_option maxRecDepth 20000 in
set_option maxHeartbeats 4000000 in
theorem awake_any (w : World) : Calls Try.prog 28 #[] w fun e w' => e = .returned (.bool true) ∧ Below w.heap.size w w' := by
  have hm : Try.prog.eqGuardType Try.prog.depth 28 = false := by kernel_rfl
  have e1 := eqI (a := 4611686018427387904) (b := 4613937818241073152) (c := 4611686018427387904) (d := 4613937818241073152) (x := true) (y := true) (by decide +kernel) (by decide +kernel)
  have B1 : ∀ w, Calls Try.prog 23 #[.agg #[.float .f64 4607182418800017408, .float .f64 4613937818241073152], .agg #[.float .f64 4611686018427387904, .float .f64 4616189618054758400]] w fun e w' => e = .returned (.agg #[.float .f64 4611686018427387904, .float .f64 4613937818241073152]) ∧ Below w.heap.size w w' := fun w =>
    (meet_any _ _ _ _ _ _ _ _ rd13 rd24 w).mono fun e w' ⟨x, y, h, hm, hb⟩ => by
      unfold Meet at hm
      obtain ⟨rfl, rfl⟩ : x = 4611686018427387904 ∧ y = 4613937818241073152 := by omega
      exact ⟨by rw [h, at2, at3], hb⟩
  have B2 : ∀ w, Calls Try.prog 40 #[.agg #[.float .f64 4607182418800017408, .float .f64 4611686018427387904], .agg #[.float .f64 4607182418800017408, .float .f64 4613937818241073152]] w fun e w' => e = .returned (.bool true) ∧ Below w.heap.size w w' := fun w =>
    (subset_any _ _ _ _ _ _ _ _ rd12 rd13 w).mono fun e w' ⟨b, h, hm, hb⟩ => by
      obtain rfl : b = true := hm.2 (by omega)
      exact ⟨h, hb⟩
  have B3 : ∀ w, Calls Try.prog 40 #[.agg #[.float .f64 4607182418800017408, .float .f64 4613937818241073152], .agg #[.float .f64 4607182418800017408, .float .f64 4611686018427387904]] w fun e w' => e = .returned (.bool false) ∧ Below w.heap.size w w' := fun w =>
    (subset_any _ _ _ _ _ _ _ _ rd13 rd12 w).mono fun e w' ⟨b, h, hm, hb⟩ => by
      obtain rfl : b = false := by
        cases b
        · rfl
        · have := hm.1 rfl; omega
      exact ⟨h, hb⟩
  have g := Below.refl w.heap.size w
  go_enter Try.func28, Try.ntmps28
  go_wp2_with (first | (go_at_call 62; refine (of_any _ _ _).mono ?_; rintro e w' ⟨rfl, hb⟩; have g := bch g hb; clear hb) | (go_at_call 23; refine (B1 _).mono ?_; rintro e w' ⟨rfl, hb⟩; have g := bch g hb; clear hb) | (go_at_call 40; first | ((with_reducible refine (B2 _).mono ?_); rintro e w' ⟨rfl, hb⟩; have g := bch g hb; clear hb) | ((with_reducible refine (B3 _).mono ?_); rintro e w' ⟨rfl, hb⟩; have g := bch g hb; clear hb)))
  go_ret
  exact ⟨rfl, g⟩
end Go.Proofs.Ytljnadoodbninaa
