/- What a walk is told of a list of bytes, or of a list of pairs, that came in. -/
import Derived.Test.YtaecbapflpejmaaWPkRow
import Derived.Deep.Slices
import Derived.Deep.Fields
import Derived.ChangeSame
import Derived.ChangeSlices
import Derived.SizedLaws
import Derived.ProofKit
import Derived.OpenShut
namespace Go.Proofs.Ytaecbapflpejmaa
open Go.RowKit Go.ChangeShapes Go.WideShapes Go.ChangeAt
theorem laidOut : laidOutB Try.prog = true := by kernel_rfl
theorem byte_nat {n : Int} (h : (Lit.int .u8 n).wf = true) : 0 ≤ n ∧ n < 256 := by
  simp [Lit.wf, IntKind.min, IntKind.max, IntKind.signed, IntKind.bits] at h; omega
theorem bytes_in {H : Type} {enc : TypeId × Value → H} {W : World} {A : Option Addr} {len cap : Nat} {d : DataW H} {p : List MemPlace} (h : DataW.Trod enc Try.prog W 0 (fun _ => true) true 26 (.slice A len cap) d p)
    {ts : List TypeId} {ds : List (DataW H)} {j : Nat} (hsz : (DataW.weightsEach Try.prog ts ds).all (· ≤ reachBytes) = true) (hj : ts[j]? = some 26) (hd : ds[j]? = some d) :
    ∃ xs, Rb W (.slice A len cap) xs ∧ (∀ b ∈ xs, b < 256) ∧ xs.length ≤ 140737488351232 := by
  obtain ⟨fuel, hf⟩ := h
  rcases open_ints Try.underlying26 Try.underlying5 (by kernel_rfl) hf with ⟨hcs, hx⟩ | ⟨x, l, c, zs, hcs, _, hl, hm, hz, hx, hcell, hwz⟩
  · simp [Value.cells] at hcs
    obtain ⟨rfl, rfl, rfl⟩ := hcs
    exact ⟨[], .inl ⟨rfl, _, _, rfl⟩, by simp, by simp⟩
  · simp [Value.cells] at hcs
    obtain ⟨rfl, rfl, rfl⟩ := hcs
    simp only [if_true] at hz
    simp only [Prod.mk.injEq] at hx
    obtain ⟨rfl, rfl⟩ := hx
    have hreach : len ≤ 140737488351232 := by
      have := sized_slice hsz hj hd Try.underlying26
      rw [show Try.prog.bytesOf 5 = 1 by kernel_rfl] at this
      simp only [lits, List.length_map, List.length_take, List.length_drop, reachBytes] at this
      omega
    by_cases h0 : len = 0
    · subst h0
      exact ⟨[], .inl ⟨rfl, _, _, rfl⟩, by simp, by simp⟩
    · obtain ⟨b, off, spot⟩ := x
      have hspot : spot = none := by simpa [Addr.add] using World.cell?_spot (hcell 0 (by omega))
      subst hspot
      have hlen : ((zs.take len).map Int.toNat).length = len := by rw [List.length_map, List.length_take]; omega
      have hlt : b < W.heap.size := by
        have := World.block_lt_of_cell? W _ (hcell 0 (by omega))
        simpa [Addr.add] using this
      refine ⟨(zs.take len).map Int.toNat, .inr ⟨b, off, cap, by rw [hlen], hlt, fun i hi => ?_, by rw [hlen]; exact hl⟩, fun m hm => ?_, by rw [hlen]; exact hreach⟩
      · rw [hlen] at hi
        have hc := hcell i (by omega)
        have hmem : zs[i]'(by omega) ∈ zs := List.getElem_mem _
        have hb := byte_nat (hwz _ hmem)
        rw [add_plain] at hc
        rw [hc]
        simp only [List.getElem_map, List.getElem_take, bv]
        rw [List.getD_eq_getElem?_getD, List.getElem?_eq_getElem (by omega)]
        simp only [Option.getD_some]
        rw [Int.toNat_of_nonneg hb.1]
      · obtain ⟨z, hz', rfl⟩ := List.mem_map.1 hm
        have hb := byte_nat (hwz z (List.mem_of_mem_take hz'))
        omega
end Go.Proofs.Ytaecbapflpejmaa
