/- A struct of many cells that is stored at once: what stays as it was. -/
import Derived.Test.YtljnadoodbninaaWBound
import Derived.Deep.MidRow
namespace Go.Proofs.Ytljnadoodbninaa
open Go.RowKit
theorem sc_size (b : Nat) : ∀ (vs : List Value) (o : Nat) (w : World), (w.setCells b o vs).heap.size = w.heap.size
  | [], _, _ => rfl
  | v :: r, _, _ => by rw [World.setCells, sc_size b r]; simp
theorem sc_below {B : Nat} {a : World} (b : Nat) (hb : B ≤ b) : ∀ (vs : List Value) (o : Nat) (w : World), Below B a w → Below B a (w.setCells b o vs)
  | [], _, _, h => h
  | v :: r, o, _, h => sc_below b hb r (o + 1) _ (h.setCell hb v)
theorem sc_other {w : World} {b o : Nat} {vs : List Value} {a : Addr} (h : a.block ≠ b) : (w.setCells b o vs).cell? a = w.cell? a := World.cell?_setCells_out b vs o w a (fun e => absurd e h)
/-- No words lie in a block's first n cells. -/
def Nw (w : World) (b n : Nat) : Prop := ∀ j, j < n → ∀ m, w.cell? ⟨b, j, none⟩ ≠ some (.int .u32 m)
/-- A block of n cells that may be written, none of them a word. -/
def Bx (w : World) (b n : Nat) : Prop := w.there b 0 n ∧ Nw w b n
theorem there_keep {w w' : World} {b o n : Nat} (hb : Below w.heap.size w w') (hl : b < w.heap.size) (h : w.there b o n) : w'.there b o n := by
  intro j hj
  obtain ⟨h1, h2⟩ := h j hj
  obtain ⟨v, hv⟩ := Option.isSome_iff_exists.1 h1
  exact ⟨by rw [keep_cell hb hl hv]; rfl, keep_free hb hl h2⟩
theorem Bx.keep {w w' : World} {b n : Nat} (hb : Below w.heap.size w w') (hl : b < w.heap.size) (h : Bx w b n) : Bx w' b n := by
  refine ⟨there_keep hb hl h.1, fun j hj m e => ?_⟩
  obtain ⟨v, hv⟩ := Option.isSome_iff_exists.1 (h.1 j hj).1
  rw [Nat.zero_add] at hv
  rw [keep_cell hb hl hv] at e
  exact h.2 j hj m (hv.trans e)
theorem Bx.drew {w : World} {b n : Nat} (h : Bx w b n) : Bx w.drew b n := h
theorem Rw.cells {w : World} {v : Value} {xs : List Nat} (h : Rw w v xs) {b n : Nat} (hn : Nw w b n) (vs : List Value) (hl : vs.length ≤ n) : Rw (w.setCells b 0 vs) v xs := by
  obtain ⟨h0, h⟩ := h
  refine ⟨h0, ?_⟩
  rcases h with h | ⟨g, o, c, h1, h2, h3, h4⟩
  · exact .inl h
  · refine .inr ⟨g, o, c, h1, by rw [sc_size]; exact h2, fun i hi => ?_, h4⟩
    rw [World.cell?_setCells_out b vs 0 w _ (fun e _ => ?_)]
    · exact h3 i hi
    · refine .inr (Classical.byContradiction fun hh => ?_)
      have e : g = b := e
      subst e
      exact hn (o + i) (by simp at hh; omega) _ (h3 i hi)
theorem Rt.cells {w : World} {v : Value} {Z : Int} {Q B : Nat} (h : Rt w v Z Q B) {b n : Nat} (hn : Nw w b n) (vs : List Value) (hl : vs.length ≤ n) : Rt (w.setCells b 0 vs) v Z Q B := by
  obtain ⟨s, A1, n1, c1, A2, n2, c2, xs, ys, h1, h2, h3, h4⟩ := h
  exact ⟨s, A1, n1, c1, A2, n2, c2, xs, ys, h1, h2.cells hn vs hl, h3.cells hn vs hl, h4⟩
theorem En.cells {w : World} {v : Value} {i Z : Int} {Q B : Nat} (h : En w v i Z Q B) {b n : Nat} (hn : Nw w b n) (vs : List Value) (hl : vs.length ≤ n) : En (w.setCells b 0 vs) v i Z Q B := by
  obtain ⟨s, A1, n1, c1, A2, n2, c2, h1, h2⟩ := h
  exact ⟨s, A1, n1, c1, A2, n2, c2, h1, h2.cells hn vs hl⟩
theorem Bx.of {w : World} {b n : Nat} (cs : List Value) (hn : cs.length = n) (hc : ∀ j (h : j < cs.length), w.cell? ⟨b, j, none⟩ = some cs[j] ∧ w.frozen? ⟨b, j, none⟩ = false) (hw : ∀ v ∈ cs, ∀ m, v ≠ .int .u32 m) : Bx w b n := by
  subst hn
  refine ⟨fun j hj => ?_, fun j hj m e => ?_⟩
  · rw [Nat.zero_add, (hc j hj).1]; exact ⟨rfl, (hc j hj).2⟩
  · rw [(hc j hj).1] at e
    exact hw _ (List.getElem_mem hj) m (Option.some.inj e)
/-- A struct's new block. -/
theorem Bx.new (w : World) (cs : Array Value) (t : TypeId) {b n : Nat} (hb : b = w.heap.size) (hn : n = cs.size) (hw : ∀ v ∈ cs.toList, ∀ m, v ≠ .int .u32 m) : Bx (w.alloc (.cells cs t)) b n := by
  subst hb hn
  have hc : ∀ j (h : j < cs.size), (w.alloc (.cells cs t)).cell? ⟨w.heap.size, j, none⟩ = some cs[j] := fun j h => by simp [go_sem, h]
  refine ⟨fun j hj => ?_, fun j hj m e => ?_⟩
  · rw [Nat.zero_add, hc j hj]; exact ⟨rfl, by simp⟩
  · rw [hc j hj] at e
    exact hw _ (by simp) m (Option.some.inj e)
/-- What is loaded of a block where a struct was stored. -/
theorem sc_load (P : Program) {w : World} {b : Nat} {ty : TypeId} {vs : List Value} {d : TypeDesc} (ht : w.there b 0 vs.length) (hu : P.underlying ty = some d) (hd : d.isRow = true) (hi : (P.info? ty).map (·.size) = some vs.length) :
    (loadVar ty ⟨b, 0, none⟩).run P (w.setCells b 0 vs) = .ok (.agg vs.toArray) (w.setCells b 0 vs) := run_loadVar_mid _ b 0 ty vs d (World.rangeAt_setCells_same w b 0 vs ht) hu hd hi
/-- The same place behind another allocation. -/
theorem alloc_two {w : World} {o o' : Obj} {a : Addr} {v : Value} (hl : a.block < w.heap.size) (h : (w.alloc o).cell? a = some v) : (w.alloc o').cell? a = some v :=
  (b_one.cell hl).trans ((b_one.cell hl).symm.trans h)
theorem alloc_below {B : Nat} {a w : World} {o o' : Obj} (hB : B ≤ w.heap.size) (hs : a.heap.size ≤ w.heap.size) (h : Below B a (w.alloc o)) : Below B a (w.alloc o') :=
  ⟨h.os, h.tape, h.output, by simp; omega, fun k hk => by
    have e1 := (b_one (w := w) (o := o)).block k (by omega)
    have e2 := (b_one (w := w) (o := o')).block k (by omega)
    rw [e2, ← e1]; exact h.block k hk⟩
/-- A new pair's cells behind a call. -/
theorem new_c {w w' : World} {u v : Value} {t : TypeId} (hb : Below (w.alloc (.cells #[u, v] t)).heap.size (w.alloc (.cells #[u, v] t)) w') :
    w'.cell? ⟨w.heap.size, 0, none⟩ = some u ∧ w'.cell? ⟨w.heap.size, 1, none⟩ = some v ∧ w'.frozen? ⟨w.heap.size, 0, none⟩ = false ∧ w'.frozen? ⟨w.heap.size, 1, none⟩ = false ∧ w.heap.size < w'.heap.size :=
  ⟨keep_cell hb (by simp) (by simp [go_sem]), keep_cell hb (by simp) (by simp [go_sem]), keep_free hb (by simp) (by simp), keep_free hb (by simp) (by simp), by have := hb.size; simp at this; omega⟩
theorem new_d {w w' : World} {u v : Value} {t : TypeId} (hb : Below (w.alloc (.cells #[u, v] t)).drew.heap.size (w.alloc (.cells #[u, v] t)).drew w') :
    w'.cell? ⟨w.heap.size, 0, none⟩ = some u ∧ w'.cell? ⟨w.heap.size, 1, none⟩ = some v ∧ w'.frozen? ⟨w.heap.size, 0, none⟩ = false ∧ w'.frozen? ⟨w.heap.size, 1, none⟩ = false ∧ w.heap.size < w'.heap.size :=
  ⟨keep_cell hb (by simp) (by simp [go_sem]), keep_cell hb (by simp) (by simp [go_sem]), keep_free hb (by simp) (by simp), keep_free hb (by simp) (by simp), by have := hb.size; simp at this; omega⟩
theorem new_k {w w' : World} {b : Nat} {u v : Value} (hb : Below w.heap.size w w')
    (h : w.cell? ⟨b, 0, none⟩ = some u ∧ w.cell? ⟨b, 1, none⟩ = some v ∧ w.frozen? ⟨b, 0, none⟩ = false ∧ w.frozen? ⟨b, 1, none⟩ = false ∧ b < w.heap.size) :
    w'.cell? ⟨b, 0, none⟩ = some u ∧ w'.cell? ⟨b, 1, none⟩ = some v ∧ w'.frozen? ⟨b, 0, none⟩ = false ∧ w'.frozen? ⟨b, 1, none⟩ = false ∧ b < w'.heap.size :=
  ⟨keep_cell hb h.2.2.2.2 h.1, keep_cell hb h.2.2.2.2 h.2.1, keep_free hb h.2.2.2.2 h.2.2.1, keep_free hb h.2.2.2.2 h.2.2.2.1, Nat.lt_of_lt_of_le h.2.2.2.2 hb.size⟩
theorem results_cell {fn : Func} {p : Tmp} {ty : TypeId} (h : fn.results = #[.cell p ty]) (tmps : Array Value) (P : Program) (w : World) (a : Addr) (v : Value) (hp : tmps.getD p undef = .pointer (some a)) (hl : (loadVar ty a).run P w = .ok v w) :
    (results fn tmps).run P w = .ok v w := by
  have hp' : tmps[p]?.getD undef = .pointer (some a) := by simpa using hp
  simp [results, h, hp', asAddr, hl]
end Go.Proofs.Ytljnadoodbninaa
