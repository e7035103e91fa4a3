/- Rows of pairs of numbers: what can be read of them; what a row of one's own holds. -/
import Derived.Test.YtaecbapflpejmaaWPkNum
namespace Go.Proofs.Ytaecbapflpejmaa
open Go.RowKit
def encF (b : Nat) : Value := .float .f64 b
def encU (b : Nat) : Value := .int .u64 (b : Nat)
/-- The cells of a row of pairs. -/
def fl (enc : Nat → Value) : List (Nat × Nat) → List Value
  | [] => []
  | p :: t => enc p.1 :: enc p.2 :: fl enc t
theorem fl_len (enc : Nat → Value) : ∀ ps, (fl enc ps).length = ps.length * 2
  | [] => rfl
  | p :: t => by simp only [fl, List.length_cons, fl_len enc t]; omega
theorem fl_app (enc : Nat → Value) : ∀ ps qs, fl enc (ps ++ qs) = fl enc ps ++ fl enc qs
  | [], qs => rfl
  | p :: t, qs => by simp only [List.cons_append, fl, fl_app enc t qs]
theorem fl_at (enc : Nat → Value) : ∀ (ps : List (Nat × Nat)) (i : Nat) (h : i < ps.length), (fl enc ps)[i * 2]? = some (enc ps[i].1) ∧ (fl enc ps)[i * 2 + 1]? = some (enc ps[i].2)
  | [], i, h => by simp at h
  | p :: t, 0, h => by simp [fl]
  | p :: t, i + 1, h => by
    have := fl_at enc t i (by simpa using h)
    rw [show (i + 1) * 2 = i * 2 + 1 + 1 by omega]
    simpa [fl] using this
/-- A row of pairs that can be read. -/
def RP (enc : Nat → Value) (w : World) (v : Value) (ps : List (Nat × Nat)) : Prop :=
  (ps = [] ∧ ∃ A c, v = .slice A 0 c) ∨ ∃ g o c, v = .slice (some ⟨g, o, none⟩) ps.length c ∧ g < w.heap.size ∧ (∀ i (h : i < ps.length), w.cell? ⟨g, o + i * 2, none⟩ = some (enc ps[i].1) ∧ w.cell? ⟨g, o + (i * 2 + 1), none⟩ = some (enc ps[i].2)) ∧ ps.length ≤ c
theorem RP.keep {enc : Nat → Value} {w w' : World} {v : Value} {ps : List (Nat × Nat)} (h : RP enc w v ps) (hb : Below w.heap.size w w') : RP enc w' v ps := by
  rcases h with h | ⟨g, o, c, h1, h2, h3, h4⟩
  · exact .inl h
  · exact .inr ⟨g, o, c, h1, Nat.lt_of_lt_of_le h2 hb.size, fun i hi => ⟨keep_cell hb h2 (h3 i hi).1, keep_cell hb h2 (h3 i hi).2⟩, h4⟩
theorem RP.own {enc : Nat → Value} {w : World} {base T : Nat} {v : Value} {ps : List (Nat × Nat)} (h : w.ownsRow base T 2 v ps.length (fl enc ps)) : RP enc w v ps := by
  have hc := fun g hg => h.cells (g := g) hg
  have hl := h.lt
  obtain ⟨-, ⟨rfl, h2⟩ | ⟨g, c, cur, rfl, -, -, hnc, -⟩⟩ := h
  · exact .inl ⟨List.eq_nil_of_length_eq_zero h2, _, _, rfl⟩
  · refine .inr ⟨g, 0, c, rfl, (hl g rfl).2, fun i hi => ?_, hnc⟩
    have h1 := hc g rfl (i * 2) _ (fl_at enc ps i hi).1
    have h2 := hc g rfl (i * 2 + 1) _ (fl_at enc ps i hi).2
    have e : ∀ j, (⟨g, 0, none⟩ : Addr).add j = ⟨g, 0 + j, none⟩ := fun j => by unfold Addr.add; split <;> simp_all
    rw [e] at h1 h2
    exact ⟨h1, h2⟩
theorem RP.form {enc : Nat → Value} {w : World} {v : Value} {ps : List (Nat × Nat)} (h : RP enc w v ps) (hn : 0 < ps.length) : ∃ g o c, v = .slice (some ⟨g, o, none⟩) ps.length c ∧ g < w.heap.size ∧ (∀ i (h : i < ps.length), w.cell? ⟨g, o + i * 2, none⟩ = some (enc ps[i].1) ∧ w.cell? ⟨g, o + (i * 2 + 1), none⟩ = some (enc ps[i].2)) ∧ ps.length ≤ c := by
  rcases h with ⟨rfl, -⟩ | h
  · simp at hn
  · exact h
theorem RP.len {enc : Nat → Value} {w : World} {v : Value} {ps : List (Nat × Nat)} (h : RP enc w v ps) : ∃ A c, v = .slice A ps.length c := by
  rcases h with ⟨rfl, A, c, rfl⟩ | ⟨g, o, c, h1, -⟩
  · exact ⟨_, _, rfl⟩
  · exact ⟨_, _, h1⟩
theorem RP.at {enc : Nat → Value} {w : World} {v : Value} {ps : List (Nat × Nat)} (h : RP enc w v ps) {i : Nat} (hi : i < ps.length) : ∃ g o, (∀ A c, v = .slice A ps.length c → A = some ⟨g, o, none⟩) ∧ g < w.heap.size ∧ w.cell? ⟨g, o + i * 2, none⟩ = some (enc ps[i].1) ∧ w.cell? ⟨g, o + (i * 2 + 1), none⟩ = some (enc ps[i].2) := by
  obtain ⟨g, o, c, rfl, h2, h3, -⟩ := h.form (by omega)
  exact ⟨g, o, fun A c h => (by injection h with h; exact h.symm), h2, h3 i hi⟩
theorem infoI : (Try.prog.info? 30).map (fun i => (i.zero, i.size, i.bytes)) = some (some (.agg #[.float .f64 0, .float .f64 0]), 2, 16) := by kernel_rfl
theorem infoU : (Try.prog.info? 24).map (fun i => (i.zero, i.size, i.bytes)) = some (some (.agg #[.int .u64 0, .int .u64 0]), 2, 16) := by kernel_rfl
theorem fl_snoc (enc : Nat → Value) (ps : List (Nat × Nat)) (p : Nat × Nat) : fl enc (ps ++ [p]) = fl enc ps ++ [enc p.1, enc p.2] := by rw [fl_app]; rfl
theorem ownp_more {enc : Nat → Value} {T : Nat} {w wr w1 : World} {ps : List (Nat × Nat)} {p : Nat × Nat} {v v' : Value} (ho : wr.ownsRow w.heap.size T 2 v ps.length (fl enc ps)) (hb : Below w.heap.size w wr)
    (h' : w1.ownsRow w.heap.size T 2 v' (ps.length + 1) (fl enc ps ++ [enc p.1, enc p.2])) (hg : wr.grownBy w1 v.ownBlock) : w1.ownsRow w.heap.size T 2 v' (ps ++ [p]).length (fl enc (ps ++ [p])) ∧ Below w.heap.size w w1 := by
  refine ⟨by rw [fl_snoc, List.length_append]; exact h', hb.grown hg hb.size (fun j hj => (ho.lt j hj).1)⟩
end Go.Proofs.Ytaecbapflpejmaa
