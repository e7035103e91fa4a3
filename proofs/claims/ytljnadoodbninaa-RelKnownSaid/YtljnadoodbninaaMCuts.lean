/- The cuts of the line at the ends of two intervals, in plain words: a rising list, and the places of the ends by it. -/
import Derived.Test.YtljnadoodbninaaMIv
namespace Vg
def pk (p q r s : Int) (k : Nat) : Int := if k = 0 then p else if k = 1 then q else if k = 2 then r else s
theorem pk_pl {p q r s : Int} (h : Pl p ∧ Pl q ∧ Pl r ∧ Pl s) (k : Nat) : Pl (pk p q r s k) := by
  unfold pk; (repeat' split) <;> simp [h]
/-- A number that stands above all that have been taken. -/
def cand (p q r s : Int) (L : List Int) (k : Nat) : Prop := (pk p q r s k ≠ PI ∧ pk p q r s k ≠ -PI) ∧ ∀ m ∈ L, m < pk p q r s k
structure Cut (p q r s : Int) (L : List Int) : Prop where
  inc : L.Pairwise (· < ·)
  from_ : ∀ x ∈ L, (∃ k, k < 4 ∧ pk p q r s k = x) ∧ x ≠ PI ∧ x ≠ -PI
  all : ∀ k, k < 4 → pk p q r s k ≠ PI → pk p q r s k ≠ -PI → pk p q r s k ∈ L ∨ ∀ m ∈ L, m < pk p q r s k
theorem Cut.nil (p q r s : Int) : Cut p q r s [] := ⟨.nil, by simp, by simp⟩
/-- What the inner loop has found below a bound. -/
def Sel (p q r s : Int) (L : List Int) (f : Bool) (b i : Nat) : Prop :=
  (f = true → b < i ∧ cand p q r s L b ∧ ∀ k, k < i → cand p q r s L k → pk p q r s b ≤ pk p q r s k) ∧ (f = false → ∀ k, k < i → ¬ cand p q r s L k)
theorem Sel.zero (p q r s : Int) (L : List Int) (b : Nat) : Sel p q r s L false b 0 := ⟨fun h => (by cases h), fun _ k h => (by omega)⟩
theorem Sel.skip {p q r s : Int} {L : List Int} {f : Bool} {b i : Nat} (h : Sel p q r s L f b i) (c : ¬ cand p q r s L i) : Sel p q r s L f b (i + 1) := by
  refine ⟨fun hf => ?_, fun hf k hk hc => ?_⟩
  · obtain ⟨h1, h2, h3⟩ := h.1 hf
    refine ⟨by omega, h2, fun k hk hc => ?_⟩
    by_cases e : k = i
    · subst e; exact absurd hc c
    · exact h3 k (by omega) hc
  · by_cases e : k = i
    · subst e; exact c hc
    · exact h.2 hf k (by omega) hc
theorem Sel.keep {p q r s : Int} {L : List Int} {b i : Nat} (h : Sel p q r s L true b i) (c : pk p q r s b ≤ pk p q r s i) : Sel p q r s L true b (i + 1) := by
  refine ⟨fun hf => ?_, fun hf => by cases hf⟩
  obtain ⟨h1, h2, h3⟩ := h.1 hf
  refine ⟨by omega, h2, fun k hk hc => ?_⟩
  by_cases e : k = i
  · subst e; exact c
  · exact h3 k (by omega) hc
theorem Sel.take {p q r s : Int} {L : List Int} {f : Bool} {b i : Nat} (h : Sel p q r s L f b i) (c : cand p q r s L i) (d : f = false ∨ pk p q r s i < pk p q r s b) : Sel p q r s L true i (i + 1) := by
  refine ⟨fun _ => ⟨by omega, c, fun k hk hc => ?_⟩, fun hf => by cases hf⟩
  by_cases e : k = i
  · subst e; omega
  · rcases d with d | d
    · exact absurd hc (h.2 d k (by omega))
    · cases f
      · exact absurd hc (h.2 rfl k (by omega))
      · have := (h.1 rfl).2.2 k (by omega) hc; omega
theorem Cut.more {p q r s : Int} {L : List Int} {b : Nat} (h : Cut p q r s L) (k : Sel p q r s L true b 4) : Cut p q r s (L ++ [pk p q r s b]) := by
  obtain ⟨h1, h2, h3⟩ := k.1 rfl
  refine ⟨?_, ?_, ?_⟩
  · rw [List.pairwise_append]
    exact ⟨h.inc, List.pairwise_singleton _ _, fun x hx y hy => by rw [List.mem_singleton] at hy; subst hy; exact h2.2 x hx⟩
  · intro x hx
    rw [List.mem_append, List.mem_singleton] at hx
    rcases hx with hx | rfl
    · exact h.from_ x hx
    · exact ⟨⟨b, h1, rfl⟩, h2.1⟩
  · intro j hj h5 h6
    rcases h.all j hj h5 h6 with h7 | h7
    · left; rw [List.mem_append]; exact .inl h7
    · have := h3 j hj ⟨⟨h5, h6⟩, h7⟩
      by_cases e : pk p q r s j = pk p q r s b
      · left; rw [List.mem_append, e]; exact .inr (by simp)
      · right
        intro m hm
        rw [List.mem_append, List.mem_singleton] at hm
        rcases hm with hm | rfl
        · exact h7 m hm
        · omega
/-- All numbers among the ends are there. -/
def Full (p q r s : Int) (L : List Int) : Prop := L.Pairwise (· < ·) ∧ (∀ x ∈ L, -PI < x ∧ x < PI) ∧ ∀ k, k < 4 → pk p q r s k ≠ PI → pk p q r s k ≠ -PI → pk p q r s k ∈ L
theorem Cut.bd {p q r s : Int} {L : List Int} (h : Cut p q r s L) (hP : Pl p ∧ Pl q ∧ Pl r ∧ Pl s) : ∀ x ∈ L, -PI < x ∧ x < PI := by
  intro x hx
  obtain ⟨⟨k, hk, rfl⟩, h2, h3⟩ := h.from_ x hx
  have := pk_pl hP k
  unfold Pl at this
  omega
theorem Cut.done {p q r s : Int} {L : List Int} {b : Nat} (h : Cut p q r s L) (hP : Pl p ∧ Pl q ∧ Pl r ∧ Pl s) (k : Sel p q r s L false b 4) : Full p q r s L := by
  refine ⟨h.inc, h.bd hP, fun j hj h1 h2 => ?_⟩
  rcases h.all j hj h1 h2 with h3 | h3
  · exact h3
  · exact absurd ⟨⟨h1, h2⟩, h3⟩ (k.2 rfl j hj)
theorem pk_or {p q r s x : Int} (h : ∃ k, k < 4 ∧ pk p q r s k = x) : x = p ∨ x = q ∨ x = r ∨ x = s := by
  obtain ⟨k, hk, rfl⟩ := h
  unfold pk
  (repeat' split) <;> simp
theorem Cut.four {p q r s : Int} {L : List Int} (h : Cut p q r s L) (hP : Pl p ∧ Pl q ∧ Pl r ∧ Pl s) (hl : 4 ≤ L.length) : Full p q r s L := by
  refine ⟨h.inc, h.bd hP, fun j hj h1 h2 => ?_⟩
  rcases h.all j hj h1 h2 with h3 | h3
  · exact h3
  exfalso
  match L, hl with
  | a :: b :: c :: d :: l, _ =>
    have i := h.inc
    simp only [List.pairwise_cons, List.mem_cons] at i
    have ab := i.1 b (by simp)
    have bc := i.2.1 c (by simp)
    have cd := i.2.2.1 d (by simp)
    have m1 := pk_or (h.from_ a (by simp)).1
    have m2 := pk_or (h.from_ b (by simp)).1
    have m3 := pk_or (h.from_ c (by simp)).1
    have m4 := pk_or (h.from_ d (by simp)).1
    have m5 := pk_or (p := p) (q := q) (r := r) (s := s) ⟨j, hj, rfl⟩
    have dz := h3 d (by simp)
    generalize pk p q r s j = z at *
    clear h h3 i hP h1 h2
    rcases m1 with m1 | m1 | m1 | m1 <;> rcases m2 with m2 | m2 | m2 | m2 <;> first | (exfalso; clear m3 m4 m5; omega) | (rcases m3 with m3 | m3 | m3 | m3 <;> first | (exfalso; clear m4 m5; omega) | omega)
/-- The place of an end. -/
def plc (L : List Int) (e : Int) : Int := if e = -PI then 0 else 4 * ((L.idxOf e : Nat) + 1)
theorem idx_lt : ∀ {L : List Int} {u v : Int}, L.Pairwise (· < ·) → u ∈ L → u < v → L.idxOf u < L.idxOf v
  | x :: l, u, v, h, hu, huv => by
    rw [List.pairwise_cons] at h
    rw [List.idxOf_cons, List.idxOf_cons]
    by_cases e : x = u
    · subst e
      have : (x == v) = false := by simp; omega
      simp [this]
    · have hu' : u ∈ l := by rw [List.mem_cons] at hu; rcases hu with hu | hu; exact absurd hu.symm e; exact hu
      have hx := h.1 u hu'
      have e1 : (x == u) = false := by simp; omega
      have e2 : (x == v) = false := by simp; omega
      simp only [e1, e2, cond_false]
      have := idx_lt h.2 hu' huv
      simp; omega
theorem plc_lt {L : List Int} {u v : Int} (h : L.Pairwise (· < ·)) (hb : ∀ x ∈ L, -PI < x ∧ x < PI) (hu : u = -PI ∨ u ∈ L) (hv : v ≠ -PI) (c : u < v) : plc L u < plc L v := by
  unfold plc
  rw [if_neg hv]
  rcases hu with rfl | hu
  · rw [if_pos rfl]; omega
  · have := hb u hu
    rw [if_neg (by omega)]
    have := idx_lt h hu c
    omega
/-- Rows that stand for two intervals. -/
def Rws (p q r s P Q R S n : Int) : Prop :=
  (∃ a b c d m : Int, P = 4 * a ∧ Q = 4 * b ∧ R = 4 * c ∧ S = 4 * d ∧ n = 4 * m ∧ 1 ≤ m ∧ m ≤ 5 ∧ 0 ≤ a ∧ a ≤ m ∧ 0 ≤ b ∧ b ≤ m ∧ 0 ≤ c ∧ c ≤ m ∧ 0 ≤ d ∧ d ≤ m) ∧
  ((p < q ↔ P < Q) ∧ (q < p ↔ Q < P)) ∧ ((p < r ↔ P < R) ∧ (r < p ↔ R < P)) ∧ ((p < s ↔ P < S) ∧ (s < p ↔ S < P)) ∧ ((q < r ↔ Q < R) ∧ (r < q ↔ R < Q)) ∧ ((q < s ↔ Q < S) ∧ (s < q ↔ S < Q)) ∧ ((r < s ↔ R < S) ∧ (s < r ↔ S < R)) ∧
  ((p = -PI ↔ P = 0) ∧ (p = PI ↔ P = n)) ∧ ((q = -PI ↔ Q = 0) ∧ (q = PI ↔ Q = n)) ∧ ((r = -PI ↔ R = 0) ∧ (r = PI ↔ R = n)) ∧ ((s = -PI ↔ S = 0) ∧ (s = PI ↔ S = n))
theorem plc_cmp {L : List Int} {u v : Int} (h : L.Pairwise (· < ·)) (hb : ∀ x ∈ L, -PI < x ∧ x < PI) (pu : Pl u) (pv : Pl v) (hu : u ≠ PI → u ≠ -PI → u ∈ L) (hv : v ≠ PI → v ≠ -PI → v ∈ L) : (u < v ↔ plc L u < plc L v) ∧ (v < u ↔ plc L v < plc L u) := by
  unfold Pl at pu pv
  have a : u < v → plc L u < plc L v := fun c => plc_lt h hb (by by_cases e : u = -PI; exact .inl e; exact .inr (hu (by omega) e)) (by omega) c
  have b : v < u → plc L v < plc L u := fun c => plc_lt h hb (by by_cases e : v = -PI; exact .inl e; exact .inr (hv (by omega) e)) (by omega) c
  have c : u = v → plc L u = plc L v := fun c => by rw [c]
  constructor
  · constructor
    · exact a
    · intro h; by_cases e : u = v
      · have := c e; omega
      · by_cases e2 : v < u
        · have := b e2; omega
        · omega
  · constructor
    · exact b
    · intro h; by_cases e : u = v
      · have := c e; omega
      · by_cases e2 : u < v
        · have := a e2; omega
        · omega
theorem plc_ends {L : List Int} {u : Int} (hb : ∀ x ∈ L, -PI < x ∧ x < PI) (hu : u ≠ PI → u ≠ -PI → u ∈ L) : (u = -PI ↔ plc L u = 0) ∧ (u = PI ↔ plc L u = 4 * (L.length + 1 : Int)) := by
  have hPI := PI_pos
  constructor
  · constructor
    · intro h; unfold plc; rw [if_pos h]
    · intro h; unfold plc at h; split at h
      · assumption
      · omega
  · constructor
    · intro h
      subst h
      unfold plc
      rw [if_neg (by omega), List.idxOf_eq_length (fun hm => by have := hb _ hm; omega)]
    · intro h
      unfold plc at h
      split at h
      · omega
      · by_cases e : u = PI
        · exact e
        · have := List.idxOf_lt_length_of_mem (hu e (by assumption))
          omega
theorem plc_four {L : List Int} {u : Int} (hL : L.length ≤ 4) : ∃ a : Int, plc L u = 4 * a ∧ 0 ≤ a ∧ a ≤ L.length + 1 := by
  unfold plc
  split
  · exact ⟨0, by omega, by omega, by omega⟩
  · exact ⟨_, rfl, by omega, by have := List.idxOf_le_length (a := u) (l := L); omega⟩
theorem Full.rws {p q r s : Int} {L : List Int} (h : Full p q r s L) (hP : Pl p ∧ Pl q ∧ Pl r ∧ Pl s) (hL : L.length ≤ 4) : Rws p q r s (plc L p) (plc L q) (plc L r) (plc L s) (4 * (L.length + 1 : Int)) := by
  obtain ⟨h1, h2, h3⟩ := h
  have mp := h3 0 (by decide)
  have mq := h3 1 (by decide)
  have mr := h3 2 (by decide)
  have ms := h3 3 (by decide)
  simp only [pk, if_true, show ¬ (1 : Nat) = 0 by decide, show ¬ (2 : Nat) = 0 by decide, show ¬ (3 : Nat) = 0 by decide, show ¬ (2 : Nat) = 1 by decide, show ¬ (3 : Nat) = 1 by decide, show ¬ (3 : Nat) = 2 by decide, if_false] at mp mq mr ms
  refine ⟨?_, plc_cmp h1 h2 hP.1 hP.2.1 mp mq, plc_cmp h1 h2 hP.1 hP.2.2.1 mp mr, plc_cmp h1 h2 hP.1 hP.2.2.2 mp ms, plc_cmp h1 h2 hP.2.1 hP.2.2.1 mq mr, plc_cmp h1 h2 hP.2.1 hP.2.2.2 mq ms, plc_cmp h1 h2 hP.2.2.1 hP.2.2.2 mr ms, plc_ends h2 mp, plc_ends h2 mq, plc_ends h2 mr, plc_ends h2 ms⟩
  obtain ⟨a, e1, a1, a2⟩ := plc_four (u := p) hL
  obtain ⟨b, e2, b1, b2⟩ := plc_four (u := q) hL
  obtain ⟨c, e3, c1, c2⟩ := plc_four (u := r) hL
  obtain ⟨d, e4, d1, d2⟩ := plc_four (u := s) hL
  exact ⟨a, b, c, d, L.length + 1, e1, e2, e3, e4, rfl, by omega, by omega, a1, a2, b1, b2, c1, c2, d1, d2⟩
end Vg
