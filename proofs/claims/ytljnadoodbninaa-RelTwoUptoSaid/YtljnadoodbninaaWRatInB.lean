/- A ratio that came in, of bounded bulk. -/
import Derived.Test.YtljnadoodbninaaWRatIn
import Derived.Test.YtljnadoodbninaaRows
namespace Go.Proofs.Ytljnadoodbninaa
open Go.RowKit Go.ChangeShapes Go.WideShapes Go.ChangeAt Go.Joins
theorem bulk_one {H : Type} (d : DataW H) : 1 ≤ Rows.uptoBulk d := by
  cases d with
  | lit l => cases l <;> simp [Rows.uptoBulk]
  | nil => simp [Rows.uptoBulk]
  | ptr d => simp [Rows.uptoBulk]
  | slice elems spare => simp [Rows.uptoBulk]
  | agg parts => simp [Rows.uptoBulk]
  | iface t d => simp [Rows.uptoBulk]
  | map entries => simp [Rows.uptoBulk]
  | held h => simp [Rows.uptoBulk]
theorem bulk_len {H : Type} (l : List (DataW H)) : l.length ≤ Rows.uptoBulkAll l := by
  induction l with
  | nil => simp [Rows.uptoBulkAll]
  | cons x r ih => have := bulk_one x; simp only [Rows.uptoBulkAll, List.length_cons]; omega
theorem words_bulk {H : Type} {enc : TypeId × Value → H} {W : World} {A : Option Addr} {len cap : Nat} {n : Nat} {y : DataW H × List MemPlace} (hf : DataW.trod enc Try.prog W 0 (fun _ => true) true n 43 [.slice A len cap] = some y) : len ≤ Rows.uptoBulk y.1 := by
  rcases open_ints Try.underlying43 Try.underlying78 (by kernel_rfl) hf with ⟨hcs, hx⟩ | ⟨x, l, c, zs, hcs, _, hl, hm, hz, hx, hcell, hwz⟩
  · simp only [List.cons.injEq, Value.slice.injEq, and_true] at hcs
    omega
  · simp only [List.cons.injEq, Value.slice.injEq, and_true] at hcs
    obtain ⟨rfl, rfl, rfl⟩ := hcs
    simp only [if_true] at hz
    rw [hx]
    simp only [Rows.uptoBulk]
    have := bulk_len (lits (H := H) .u32 (zs.take len))
    simp only [lits, List.length_map, List.length_take] at this
    simp only [lits]
    omega
theorem Rw.length {w : World} {A : Option Addr} {len cap : Nat} {xs : List Nat} (h : Rw w (.slice A len cap) xs) : xs.length = len := by
  obtain ⟨A', c', e⟩ := h.len
  injection e with _ e _
  exact e.symm
set_option maxRecDepth 100000 in
theorem ratio_inB {H : Type} {enc : TypeId × Value → H} {W : World} {v : Value} {d : DataW H} {p : List MemPlace} {r : Reach} {b0 : Nat} (hv : Value.okWide Try.prog W r b0 45 v)
    (h : DataW.Trod enc Try.prog W 0 (fun _ => true) true 45 v d p) {ts : List TypeId} {ds : List (DataW H)} {j : Nat} (hsz : (DataW.weightsEach Try.prog ts ds).all (· ≤ reachBytes) = true) (hj : ts[j]? = some 45) (hd : ds[j]? = some d) (hB : Rows.uptoBulk d ≤ 1048576) :
    ∃ s A1 n1 c1 A2 n2 c2 xs ys, v = .agg #[.bool s, .slice A1 n1 c1, .slice A2 n2 c2] ∧ Rw W (.slice A1 n1 c1) xs ∧ Rw W (.slice A2 n2 c2) ys ∧ xs.length ≤ 1048576 ∧ ys.length ≤ 1048576 := by
  obtain ⟨v0, v1, v2, y0, y1, y2, n, rfl, rfl, rfl, h0, h1, h2⟩ := open_agg3 Try.underlying45 (by kernel_rfl) (by kernel_rfl) hv h
  obtain ⟨s, e0, -⟩ := DataW.trod_bool Try.underlying4 h0
  simp only [List.cons.injEq, and_true] at e0
  subst e0
  have hsz' : (DataW.weightsEach Try.prog [4, 43, 43] [y0.1, y1.1, y2.1]).all (· ≤ reachBytes) = true := by
    rw [List.all_eq_true] at hsz ⊢
    intro x hx
    refine hsz x (DataW.weights_mem_each hj hd x ?_)
    simpa [DataW.weights, Try.underlying45] using hx
  obtain ⟨A1, n1, c1, xs, rfl, R1, b1⟩ := words_in h1 hsz' (j := 1) rfl rfl
  obtain ⟨A2, n2, c2, ys, rfl, R2, b2⟩ := words_in h2 hsz' (j := 2) rfl rfl
  have k1 := words_bulk h1
  have k2 := words_bulk h2
  simp only [Rows.uptoBulk, Rows.uptoBulkAll] at hB
  have l1 := R1.length
  have l2 := R2.length
  exact ⟨s, A1, n1, c1, A2, n2, c2, xs, ys, rfl, R1, R2, by omega, by omega⟩
end Go.Proofs.Ytljnadoodbninaa
