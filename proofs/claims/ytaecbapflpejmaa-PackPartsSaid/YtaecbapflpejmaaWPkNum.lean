/- Numbers and their bytes. Plain arithmetic on lists. -/
import Derived.Test.YtaecbapflpejmaaWPkList
namespace Go.Proofs.Ytaecbapflpejmaa
open Go.RowKit
/-- The number whose bytes these are, the lowest first. -/
def num : List Nat → Nat
  | [] => 0
  | b :: t => b + 256 * num t
theorem nby_cons (n v : Nat) : nby (n + 1) v = v % 256 :: nby n (v / 256) := by
  simp only [nby, List.range_succ_eq_map, List.map_cons, List.map_map, Nat.pow_zero, Nat.div_one]
  congr 1
  refine List.map_congr_left fun i _ => ?_
  show v / 256 ^ (i + 1) % 256 = v / 256 / 256 ^ i % 256
  rw [Nat.pow_succ, Nat.mul_comm, ← Nat.div_div_eq_div_mul]
theorem num_nby : ∀ n v, v < 256 ^ n → num (nby n v) = v
  | 0, v, h => by simp at h; subst h; rfl
  | n + 1, v, h => by
    rw [nby_cons, num, num_nby n (v / 256) (by rw [Nat.pow_succ] at h; omega)]; omega
theorem nby_num : ∀ xs : List Nat, (∀ b ∈ xs, b < 256) → nby xs.length (num xs) = xs
  | [], _ => rfl
  | b :: t, h => by
    have hb := h b (by simp)
    rw [List.length_cons, nby_cons, num, show (b + 256 * num t) % 256 = b by omega, show (b + 256 * num t) / 256 = num t by omega, nby_num t fun c hc => h c (by simp [hc])]
theorem num_lt : ∀ xs : List Nat, (∀ b ∈ xs, b < 256) → num xs < 256 ^ xs.length
  | [], _ => by simp [num]
  | b :: t, h => by
    have hb := h b (by simp)
    have := num_lt t fun c hc => h c (by simp [hc])
    rw [List.length_cons, Nat.pow_succ, num]; omega
theorem num_app : ∀ xs ys : List Nat, num (xs ++ ys) = num xs + 256 ^ xs.length * num ys
  | [], ys => by simp [num]
  | b :: t, ys => by
    rw [List.cons_append, num, num, num_app t ys, List.length_cons, Nat.pow_succ, Nat.mul_add, Nat.mul_comm (256 ^ t.length) 256, Nat.mul_assoc]; omega
theorem num_snoc {xs : List Nat} {i : Nat} (h : i < xs.length) : num (xs.take (i + 1)) = num (xs.take i) + xs[i] * 256 ^ i := by
  rw [List.take_succ_eq_append_getElem h, num_app, List.length_take, Nat.min_eq_left (by omega)]
  simp [num, Nat.mul_comm]
theorem num_drop {xs : List Nat} {i : Nat} (h : i < xs.length) : num (xs.drop i) = xs[i] + 256 * num (xs.drop (i + 1)) := by
  rw [List.drop_eq_getElem_cons h, num]
theorem nby_lt (n v : Nat) : ∀ b ∈ nby n v, b < 256 := by
  intro b hb
  simp only [nby, List.mem_map, List.mem_range] at hb
  obtain ⟨i, -, rfl⟩ := hb
  omega
theorem nby_inj {n u v : Nat} (hu : u < 256 ^ n) (hv : v < 256 ^ n) (h : nby n u = nby n v) : u = v := by
  rw [← num_nby n u hu, h, num_nby n v hv]
theorem or_join (v b i : Nat) (hv : v < 256 ^ i) (hi : i < 8) (hb : b < 256) : Go.bits .or .u64 (v : Int) ((b * 256 ^ i : Nat) : Int) = ((v + b * 256 ^ i : Nat) : Int) := by
  have e : (256 : Nat) ^ i = 2 ^ (8 * i) := by rw [Nat.pow_mul]
  have hp : (256 : Nat) ^ i ≤ 256 ^ 7 := Nat.pow_le_pow_right (by decide) (by omega)
  have h1 : b * 256 ^ i ≤ 255 * 256 ^ 7 := Nat.mul_le_mul (by omega) hp
  rw [show (256 : Nat) ^ 7 = 72057594037927936 from rfl] at *
  rw [u64_or_nat v (b * 256 ^ i) (by omega) (by omega), Nat.or_comm, nat_join (8 * i) _ _ (by rw [e]; simp) (by rw [← e]; exact hv), Nat.add_comm]
end Go.Proofs.Ytaecbapflpejmaa
