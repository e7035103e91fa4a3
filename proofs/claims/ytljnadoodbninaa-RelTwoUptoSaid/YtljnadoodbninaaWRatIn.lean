/- What a walk is told of a ratio that came in: a sign and two lists of words. -/
import Derived.Test.YtljnadoodbninaaWPts
import Derived.Deep.Slices
import Derived.Deep.Fields
import Derived.ChangeSame
import Derived.ChangeSlices
import Derived.ChangeArms
import Derived.SizedLaws
import Derived.ProofKit
import Derived.OpenShut
import Derived.Lib.SmallJoins
namespace Go.Proofs.Ytljnadoodbninaa
open Go.RowKit Go.ChangeShapes Go.WideShapes Go.ChangeAt Go.Joins
theorem laidOut : laidOutB Try.prog = true := by kernel_rfl
theorem word_nat {n : Int} (h : (Lit.int .u32 n).wf = true) : 0 ≤ n ∧ n < 4294967296 := by
  simp [Lit.wf, IntKind.min, IntKind.max, IntKind.signed, IntKind.bits] at h; omega
theorem add_at (b off i : Nat) : (⟨b, off, none⟩ : Addr).add i = ⟨b, off + i, none⟩ := by unfold Addr.add; split <;> simp_all
theorem words_in {H : Type} {enc : TypeId × Value → H} {W : World} {v : Value} {n : Nat} {y : DataW H × List MemPlace} (hf : DataW.trod enc Try.prog W 0 (fun _ => true) true n 43 [v] = some y)
    {ts : List TypeId} {ds : List (DataW H)} {j : Nat} (hsz : (DataW.weightsEach Try.prog ts ds).all (· ≤ reachBytes) = true) (hj : ts[j]? = some 43) (hd : ds[j]? = some y.1) :
    ∃ A len cap xs, v = .slice A len cap ∧ Rw W v xs ∧ xs.length ≤ 35184372087808 := by
  rcases open_ints Try.underlying43 Try.underlying78 (by kernel_rfl) hf with ⟨hcs, hx⟩ | ⟨x, l, c, zs, hcs, _, hl, hm, hz, hx, hcell, hwz⟩
  · simp only [List.cons.injEq, and_true] at hcs
    exact ⟨_, _, _, [], hcs, by rw [hcs]; exact ⟨(fun b hb => by cases hb), .inl ⟨rfl, _, _, rfl⟩⟩, by simp⟩
  · simp only [List.cons.injEq, and_true] at hcs
    subst hcs
    simp only [if_true] at hz
    have hreach : l * 4 ≤ 140737488351232 := by
      have := sized_slice hsz hj (hd.trans (by rw [hx])) Try.underlying43
      rw [show Try.prog.bytesOf 78 = 4 by kernel_rfl] at this
      simp only [lits, List.length_map, List.length_take, List.length_drop, reachBytes] at this
      omega
    by_cases h0 : l = 0
    · subst h0
      exact ⟨_, _, _, [], rfl, ⟨(fun b hb => by cases hb), .inl ⟨rfl, _, _, rfl⟩⟩, by simp⟩
    · obtain ⟨b, off, spot⟩ := x
      have hspot : spot = none := by simpa [Addr.add] using World.cell?_spot (hcell 0 (by omega))
      subst hspot
      have hlen : ((zs.take l).map Int.toNat).length = l := by rw [List.length_map, List.length_take]; omega
      have hlt : b < W.heap.size := by
        have := World.block_lt_of_cell? W _ (hcell 0 (by omega))
        simpa [Addr.add] using this
      refine ⟨_, _, _, (zs.take l).map Int.toNat, rfl, ⟨fun m hm => ?_, .inr ⟨b, off, c, by rw [hlen], hlt, fun i hi => ?_, by rw [hlen]; exact hl⟩⟩, by rw [hlen]; omega⟩
      · obtain ⟨z, hz', rfl⟩ := List.mem_map.1 hm
        have hb := word_nat (hwz z (List.mem_of_mem_take hz'))
        omega
      · rw [hlen] at hi
        have hc := hcell i (by omega)
        have hmem : zs[i]'(by omega) ∈ zs := List.getElem_mem _
        have hb := word_nat (hwz _ hmem)
        rw [add_at] at hc
        rw [hc]
        simp only [List.getElem_map, List.getElem_take, wv]
        rw [List.getD_eq_getElem?_getD, List.getElem?_eq_getElem (by omega)]
        simp only [Option.getD_some]
        rw [Int.toNat_of_nonneg hb.1]
set_option maxRecDepth 100000 in
theorem ratio_in {H : Type} {enc : TypeId × Value → H} {W : World} {v : Value} {d : DataW H} {p : List MemPlace} {r : Reach} {b0 : Nat} (hv : Value.okWide Try.prog W r b0 45 v)
    (h : DataW.Trod enc Try.prog W 0 (fun _ => true) true 45 v d p) {ts : List TypeId} {ds : List (DataW H)} {j : Nat} (hsz : (DataW.weightsEach Try.prog ts ds).all (· ≤ reachBytes) = true) (hj : ts[j]? = some 45) (hd : ds[j]? = some d) :
    ∃ s A1 n1 c1 A2 n2 c2 xs ys, v = .agg #[.bool s, .slice A1 n1 c1, .slice A2 n2 c2] ∧ Rw W (.slice A1 n1 c1) xs ∧ Rw W (.slice A2 n2 c2) ys ∧ xs.length ≤ 35184372087808 ∧ ys.length ≤ 35184372087808 := by
  obtain ⟨v0, v1, v2, y0, y1, y2, n, rfl, rfl, rfl, h0, h1, h2⟩ := open_agg3 Try.underlying45 (by kernel_rfl) (by kernel_rfl) hv h
  obtain ⟨s, e0, -⟩ := DataW.trod_bool Try.underlying4 h0
  simp only [List.cons.injEq, and_true] at e0
  subst e0
  have hsz' : (DataW.weightsEach Try.prog [4, 43, 43] [y0.1, y1.1, y2.1]).all (· ≤ reachBytes) = true := by
    rw [List.all_eq_true] at hsz ⊢
    intro x hx
    refine hsz x (DataW.weights_mem_each hj hd x ?_)
    simpa [DataW.weights, Try.underlying45] using hx
  obtain ⟨A1, n1, c1, xs, rfl, R1, b1⟩ := words_in h1 hsz' (j := 1) rfl rfl
  obtain ⟨A2, n2, c2, ys, rfl, R2, b2⟩ := words_in h2 hsz' (j := 2) rfl rfl
  exact ⟨s, A1, n1, c1, A2, n2, c2, xs, ys, rfl, R1, R2, b1, b2⟩
end Go.Proofs.Ytljnadoodbninaa
