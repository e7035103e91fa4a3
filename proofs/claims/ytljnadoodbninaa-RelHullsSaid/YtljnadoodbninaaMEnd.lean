/- Ends stand to each other as their places do. -/
import Derived.Test.YtljnadoodbninaaMHol
namespace Vg
open Go
theorem sv_lt {p r : Int} (h : p < r) : sv p < sv r := by
  by_cases a : 0 ≤ p
  · rw [sv_pos a, sv_pos (p := r) (by omega)]
    have := val_lt FloatKind.f64.format (r := p.natAbs) (s := r.natAbs) (by omega)
    omega
  · by_cases b : 0 < r
    · rw [sv_neg (p := p) (by omega), sv_pos (p := r) (by omega)]
      have := val_lt FloatKind.f64.format (r := 0) (s := r.natAbs) (by omega)
      omega
    · rw [sv_neg (p := p) (by omega), sv_neg (p := r) (by omega)]
      have := val_lt FloatKind.f64.format (r := r.natAbs) (s := p.natAbs) (by omega)
      omega
theorem icmp_sv (p r : Int) : icmp (sv p * LP) (sv r * LP) = if p < r then -1 else if r < p then 1 else 0 := by
  have hL : (0 : Int) < LP := by have := LP_pos; omega
  unfold icmp
  rcases Int.lt_trichotomy p r with h | h | h
  · rw [if_pos h, if_pos (Int.mul_lt_mul_of_pos_right (sv_lt h) hL)]
  · subst h; rw [if_neg (by omega), if_neg (by omega), if_neg (by omega), if_neg (by omega)]
  · have k := Int.mul_lt_mul_of_pos_right (sv_lt h) hL
    rw [if_neg (by omega), if_pos k, if_neg (by omega), if_pos h]
theorem ecmp_place {p r : Int} (hp : Pl p) (hr : Pl r) : ecmp (ei p) (eZ p) LP (ei r) (eZ r) LP = if p < r then -1 else if r < p then 1 else 0 := by
  have bp := hp.bd
  have br := hr.bd
  have hPI := PI_eq
  by_cases p1 : p = PI
  · by_cases r1 : r = PI
    · subst p1 r1; unfold ecmp; rw [ei_top]; simp
    · have e : ei r < 1 := by
        by_cases r2 : r = -PI
        · rw [r2, ei_bot]; decide
        · rw [ei_mid r1 r2]; decide
      subst p1; unfold ecmp; rw [ei_top, if_neg (by omega), if_pos e, if_neg (by omega), if_pos (by omega)]
  by_cases p2 : p = -PI
  · by_cases r2 : r = -PI
    · subst p2 r2; unfold ecmp; rw [ei_bot]; simp
    · have e : -1 < ei r := by
        by_cases r1 : r = PI
        · rw [r1, ei_top]; decide
        · rw [ei_mid r1 r2]; decide
      subst p2; unfold ecmp; rw [ei_bot, if_pos e, if_pos (by omega)]
  by_cases r1 : r = PI
  · subst r1; unfold ecmp; rw [ei_top, ei_mid p1 p2, if_pos (by decide), if_pos (by omega)]
  by_cases r2 : r = -PI
  · subst r2; unfold ecmp; rw [ei_bot, ei_mid p1 p2, if_neg (by decide), if_pos (by decide), if_neg (by omega), if_pos (by omega)]
  unfold ecmp
  rw [ei_mid p1 p2, ei_mid r1 r2, eZ_mid p1 p2, eZ_mid r1 r2, if_neg (by decide), if_neg (by decide), if_pos rfl]
  exact icmp_sv p r
end Vg
