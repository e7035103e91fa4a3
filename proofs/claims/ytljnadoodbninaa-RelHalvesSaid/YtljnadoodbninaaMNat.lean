/- Naturals as lists of words of 32 bits, the lowest first. Plain arithmetic. -/
import Derived.Test.YtljnadoodbninaaMFp
namespace Vg

/-- The number of a list of words. -/
def nat32 : List Nat → Nat
  | [] => 0
  | b :: t => b + 4294967296 * nat32 t
/-- Are they words? -/
def Wd (xs : List Nat) : Prop := ∀ b ∈ xs, b < 4294967296
theorem Wd.at {xs : List Nat} (h : Wd xs) {i : Nat} (hi : i < xs.length) : xs[i] < 4294967296 := h _ (List.getElem_mem hi)
theorem Wd.take {xs : List Nat} (h : Wd xs) (n : Nat) : Wd (xs.take n) := fun b hb => h b (List.mem_of_mem_take hb)
theorem Wd.drop {xs : List Nat} (h : Wd xs) (n : Nat) : Wd (xs.drop n) := fun b hb => h b (List.mem_of_mem_drop hb)
theorem Wd.snoc {xs : List Nat} (h : Wd xs) {m : Nat} (hm : m < 4294967296) : Wd (xs ++ [m]) := by
  intro b hb
  rw [List.mem_append, List.mem_singleton] at hb
  rcases hb with hb | rfl
  · exact h b hb
  · exact hm
/-- 2^(32 n) -/
def P32 (n : Nat) : Nat := 2 ^ (32 * n)
theorem P32_zero : P32 0 = 1 := rfl
theorem P32_succ (n : Nat) : P32 (n + 1) = 4294967296 * P32 n := by unfold P32; rw [Nat.mul_add, Nat.pow_add, Nat.mul_comm]
theorem P32_add (n m : Nat) : P32 (n + m) = P32 n * P32 m := by unfold P32; rw [Nat.mul_add, Nat.pow_add]
theorem P32_pos (n : Nat) : 0 < P32 n := Nat.two_pow_pos _
theorem P32_mono {n m : Nat} (h : n ≤ m) : P32 n ≤ P32 m := Nat.pow_le_pow_right (by decide) (by omega)
theorem nat32_lt : ∀ xs : List Nat, Wd xs → nat32 xs < P32 xs.length
  | [], _ => by simp [nat32, P32]
  | b :: t, h => by
    have hb := h b (by simp)
    have := nat32_lt t fun c hc => h c (by simp [hc])
    rw [List.length_cons, P32_succ, nat32]; omega
theorem nat32_app : ∀ xs ys : List Nat, nat32 (xs ++ ys) = nat32 xs + P32 xs.length * nat32 ys
  | [], ys => by simp [nat32, P32]
  | b :: t, ys => by
    rw [List.cons_append, nat32, nat32, nat32_app t ys, List.length_cons, P32_succ, Nat.mul_add, Nat.mul_assoc]; omega
theorem nat32_snoc {xs : List Nat} {i : Nat} (h : i < xs.length) : nat32 (xs.take (i + 1)) = nat32 (xs.take i) + P32 i * xs[i] := by
  rw [List.take_succ_eq_append_getElem h, nat32_app, List.length_take, Nat.min_eq_left (by omega)]
  simp [nat32]
theorem nat32_drop {xs : List Nat} {i : Nat} (h : i < xs.length) : nat32 (xs.drop i) = xs[i] + 4294967296 * nat32 (xs.drop (i + 1)) := by
  rw [List.drop_eq_getElem_cons h, nat32]
theorem nat32_split (xs : List Nat) (i : Nat) (h : i ≤ xs.length) : nat32 xs = nat32 (xs.take i) + P32 i * nat32 (xs.drop i) := by
  have := nat32_app (xs.take i) (xs.drop i)
  rwa [List.take_append_drop, List.length_take, Nat.min_eq_left h] at this
theorem nat32_div (xs : List Nat) (h : Wd xs) (i : Nat) (hi : i ≤ xs.length) : nat32 xs / P32 i = nat32 (xs.drop i) := by
  have e := nat32_split xs i hi
  have l := nat32_lt _ (h.take i)
  rw [List.length_take, Nat.min_eq_left hi] at l
  rw [e, Nat.add_mul_div_left _ _ (P32_pos i), Nat.div_eq_of_lt l, Nat.zero_add]
theorem nat32_zeros : ∀ n, nat32 (List.replicate n 0) = 0
  | 0 => rfl
  | n + 1 => by rw [List.replicate_succ, nat32, nat32_zeros n]
/-- All words are nought just where the number is. -/
theorem nat32_zero_iff : ∀ xs : List Nat, nat32 xs = 0 ↔ ∀ b ∈ xs, b = 0
  | [] => by simp [nat32]
  | b :: t => by
    rw [nat32]
    have := nat32_zero_iff t
    constructor
    · intro h c hc
      rcases List.mem_cons.1 hc with rfl | hc
      · omega
      · exact this.1 (by omega) c hc
    · intro h
      rw [h b (by simp), this.2 fun c hc => h c (by simp [hc])]
/-- n words are left without the noughts at the high end. -/
def WL (xs : List Nat) (n : Nat) : Prop := n ≤ xs.length ∧ (∀ b ∈ xs.drop n, b = 0) ∧ (∀ h : n - 1 < xs.length, 0 < n → xs[n - 1] ≠ 0)
theorem WL.nat {xs : List Nat} {n : Nat} (h : WL xs n) : nat32 (xs.take n) = nat32 xs := by
  rw [nat32_split xs n h.1, (nat32_zero_iff _).2 h.2.1, Nat.mul_zero, Nat.add_zero]
theorem WL.lt {xs : List Nat} {n : Nat} (h : WL xs n) (hw : Wd xs) : nat32 xs < P32 n := by
  have := nat32_lt _ (hw.take n)
  rwa [h.nat, List.length_take, Nat.min_eq_left h.1] at this
theorem WL.le {xs : List Nat} {n : Nat} (h : WL xs n) (hn : 0 < n) : P32 (n - 1) ≤ nat32 xs := by
  have hl : n - 1 < xs.length := by have := h.1; omega
  have e := nat32_snoc hl
  have := h.2.2 hl hn
  rw [show n - 1 + 1 = n by omega, h.nat] at e
  rw [e]
  exact Nat.le_trans (Nat.le_mul_of_pos_right _ (by omega)) (Nat.le_add_left _ _)
theorem WL.zero_iff {xs : List Nat} {n : Nat} (h : WL xs n) (hw : Wd xs) : n = 0 ↔ nat32 xs = 0 := by
  constructor
  · rintro rfl
    have := h.lt hw
    rw [P32_zero] at this
    omega
  · intro e
    refine Classical.byContradiction fun c => ?_
    have := h.le (by omega)
    have := P32_pos (n - 1)
    omega
theorem WL.same {xs : List Nat} {n m : Nat} (h : WL xs n) (k : WL xs m) (hw : Wd xs) : n = m := by
  have key : ∀ a b, WL xs a → WL xs b → a ≤ b := fun a b ha hb => by
    refine Classical.byContradiction fun c => ?_
    have h1 := ha.le (by omega)
    have h2 := hb.lt hw
    have := P32_mono (show b ≤ a - 1 by omega)
    omega
  exact Nat.le_antisymm (key _ _ h k) (key _ _ k h)
theorem WL.take {xs : List Nat} {n : Nat} (h : WL xs n) : WL (xs.take n) n := by
  have e : (xs.take n).length = n := by rw [List.length_take, Nat.min_eq_left h.1]
  refine ⟨by omega, fun b hb => ?_, fun h1 h2 => ?_⟩
  · rw [List.drop_of_length_le (by omega)] at hb; cases hb
  · rw [List.getElem_take]; exact h.2.2 (by have := h.1; omega) h2
/-- Two numbers of different numbers of words. -/
theorem WL.cmp {xs ys : List Nat} {n m : Nat} (h : WL xs n) (k : WL ys m) (hx : Wd xs) (hy : n < m) : nat32 xs < nat32 ys := by
  have h1 := h.lt hx
  have h2 := k.le (by omega)
  have := P32_mono (show n ≤ m - 1 by omega)
  omega
/-- The lowest n words of a number. -/
def dg (n v : Nat) : List Nat := (List.range n).map fun i => v / P32 i % 4294967296
theorem dg_len (n v : Nat) : (dg n v).length = n := by simp [dg]
theorem dg_at (n v i : Nat) (h : i < (dg n v).length) : (dg n v)[i] = v / P32 i % 4294967296 := by simp [dg]
theorem dg_succ (n v : Nat) : dg (n + 1) v = dg n v ++ [v / P32 n % 4294967296] := by simp [dg, List.range_succ]
theorem dg_wd (n v : Nat) : Wd (dg n v) := by
  intro b hb
  simp only [dg, List.mem_map, List.mem_range] at hb
  obtain ⟨i, -, rfl⟩ := hb
  omega
theorem dg_cons (n v : Nat) : dg (n + 1) v = v % 4294967296 :: dg n (v / 4294967296) := by
  simp only [dg, List.range_succ_eq_map, List.map_cons, List.map_map, P32_zero, Nat.div_one]
  congr 1
  refine List.map_congr_left fun i _ => ?_
  show v / P32 (i + 1) % 4294967296 = v / 4294967296 / P32 i % 4294967296
  rw [P32_succ, ← Nat.div_div_eq_div_mul]
theorem nat32_dg : ∀ n v, v < P32 n → nat32 (dg n v) = v
  | 0, v, h => by rw [P32_zero] at h; simp [dg, nat32]; omega
  | n + 1, v, h => by
    rw [P32_succ] at h
    rw [dg_cons, nat32, nat32_dg n (v / 4294967296) (by omega)]; omega
theorem dg_nat32 : ∀ xs : List Nat, Wd xs → dg xs.length (nat32 xs) = xs
  | [], _ => rfl
  | b :: t, h => by
    have hb := h b (by simp)
    rw [List.length_cons, dg_cons, nat32, show (b + 4294967296 * nat32 t) % 4294967296 = b by omega, show (b + 4294967296 * nat32 t) / 4294967296 = nat32 t by omega, dg_nat32 t fun c hc => h c (by simp [hc])]
theorem dg_ext {xs : List Nat} {n v : Nat} (hl : xs.length = n) (h : ∀ i (h : i < xs.length), xs[i] = v / P32 i % 4294967296) : xs = dg n v := by
  refine List.ext_getElem (by rw [hl, dg_len]) fun i h1 h2 => ?_
  rw [h i h1, dg_at]
end Vg
