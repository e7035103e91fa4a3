/- Contracts of the law's comparison of a number with a pattern. -/
import Derived.Test.YtgbjckokhonkgaaDoorWBits
namespace Go.Proofs.YtgbjckokhonkgaaDoor
open Go.RowKit

/-- A number is that of a pattern: a NaN, where that is one; else the very pattern. -/
def IsOk64 (x : Nat) (z : Int) : Prop := x ≤ 18446744073709551615 ∧ 0 ≤ z ∧ z ≤ 18446744073709551615 ∧ (Vg.nn true z.toNat = true ∧ Vg.nn true x = true ∨ Vg.nn true x = false ∧ z = x)

theorem self_ne64 (x : Nat) (hx : x ≤ 18446744073709551615) : (FloatKind.f64.format.order x x != some Ordering.eq) = Vg.nn true x := Vg.ne_self true x (by simp only [Vg.S, if_true]; omega)
theorem self_eq64 (x : Nat) (hx : x ≤ 18446744073709551615) : (FloatKind.f64.format.order x x == some Ordering.eq) = !Vg.nn true x := Vg.eq_self true x (by simp only [Vg.S, if_true]; omega)

set_option maxHeartbeats 1000000 in
theorem is_nan64 (x : Nat) (z : Nat) (hz : z ≤ 18446744073709551615) (hn : Vg.nn true z = true) (h1 : (FloatKind.f64.format.order x x != some Ordering.eq) = true) (w : World) :
    Calls Tryd.prog 9 #[.float .f64 x, .int .u64 z] w fun e w' => e = .returned (.bool true) ∧ Below w.heap.size w w' := by
  have HZ := hide hz
  have HN := hide hn
  clear hz hn
  go_enter Tryd.func9, Tryd.ntmps9
  go_wp2_with fail
  refine (isnan64 z HZ.out true HN.out _).mono ?_; rintro e w' ⟨rfl, hb1⟩
  go_wp2
  go_ret
  exact ⟨rfl, hb1⟩

set_option maxHeartbeats 1000000 in
theorem is_num64 (x : Nat) (hx : x ≤ 18446744073709551615) (hn : Vg.nn true x = false) (h1 : (FloatKind.f64.format.order x x == some Ordering.eq) = true) (w : World) :
    Calls Tryd.prog 9 #[.float .f64 x, .int .u64 x] w fun e w' => e = .returned (.bool true) ∧ Below w.heap.size w w' := by
  have hc := bits64 x
  have HN := hide hn
  clear hn
  go_enter Tryd.func9, Tryd.ntmps9
  go_wp2_with fail
  refine (isnan64 x hx false HN.out _).mono ?_; rintro e w' ⟨rfl, hb1⟩
  go_wp2
  go_ret
  exact ⟨rfl, hb1⟩

theorem is_any64 (x : Nat) (z : Int) (h : IsOk64 x z) (w : World) :
    Calls Tryd.prog 9 #[.float .f64 x, .int .u64 z] w fun e w' => e = .returned (.bool true) ∧ Below w.heap.size w w' := by
  obtain ⟨hx, h0, h1, h⟩ := h
  obtain ⟨n, rfl⟩ := Int.eq_ofNat_of_zero_le h0
  rcases h with ⟨ha, hb⟩ | ⟨ha, hb⟩
  · exact is_nan64 x n (by omega) (by simpa using ha) ((self_ne64 x hx).trans hb) w
  · obtain rfl : n = x := by omega
    exact is_num64 n hx ha (by rw [self_eq64 n hx, ha]; rfl) w

/-- A number is that of a pattern: a NaN, where that is one; else the very pattern. -/
def IsOk32 (x : Nat) (z : Int) : Prop := x ≤ 4294967295 ∧ 0 ≤ z ∧ z ≤ 4294967295 ∧ (Vg.nn false z.toNat = true ∧ Vg.nn false x = true ∨ Vg.nn false x = false ∧ z = x)

theorem self_ne32 (x : Nat) (hx : x ≤ 4294967295) : (FloatKind.f32.format.order x x != some Ordering.eq) = Vg.nn false x := Vg.ne_self false x (by simp only [Vg.S, Bool.false_eq_true, if_false]; omega)
theorem self_eq32 (x : Nat) (hx : x ≤ 4294967295) : (FloatKind.f32.format.order x x == some Ordering.eq) = !Vg.nn false x := Vg.eq_self false x (by simp only [Vg.S, Bool.false_eq_true, if_false]; omega)

end Go.Proofs.YtgbjckokhonkgaaDoor
