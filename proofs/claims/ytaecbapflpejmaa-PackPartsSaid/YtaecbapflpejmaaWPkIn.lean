/- What a walk is told of a list of bytes, or of a list of pairs, that came in. -/
import Derived.Test.YtaecbapflpejmaaWPkRow
import Derived.Deep.Slices
import Derived.Deep.Fields
import Derived.ChangeSame
import Derived.ChangeSlices
import Derived.SizedLaws
import Derived.ProofKit
import Derived.OpenShut
namespace Go.Proofs.Ytaecbapflpejmaa
open Go.RowKit Go.ChangeShapes Go.WideShapes Go.ChangeAt
theorem laidOut : laidOutB Try.prog = true := by kernel_rfl
theorem byte_nat {n : Int} (h : (Lit.int .u8 n).wf = true) : 0 ≤ n ∧ n < 256 := by
  simp [Lit.wf, IntKind.min, IntKind.max, IntKind.signed, IntKind.bits] at h; omega
theorem bytes_in {H : Type} {enc : TypeId × Value → H} {W : World} {A : Option Addr} {len cap : Nat} {d : DataW H} {p : List MemPlace} (h : DataW.Trod enc Try.prog W 0 (fun _ => true) true 26 (.slice A len cap) d p)
    {ts : List TypeId} {ds : List (DataW H)} {j : Nat} (hsz : (DataW.weightsEach Try.prog ts ds).all (· ≤ reachBytes) = true) (hj : ts[j]? = some 26) (hd : ds[j]? = some d) :
    ∃ xs, Rb W (.slice A len cap) xs ∧ (∀ b ∈ xs, b < 256) ∧ xs.length ≤ 140737488351232 := by
  obtain ⟨fuel, hf⟩ := h
  rcases open_ints Try.underlying26 Try.underlying5 (by kernel_rfl) hf with ⟨hcs, hx⟩ | ⟨x, l, c, zs, hcs, _, hl, hm, hz, hx, hcell, hwz⟩
  · simp [Value.cells] at hcs
    obtain ⟨rfl, rfl, rfl⟩ := hcs
    exact ⟨[], .inl ⟨rfl, _, _, rfl⟩, by simp, by simp⟩
  · simp [Value.cells] at hcs
    obtain ⟨rfl, rfl, rfl⟩ := hcs
    simp only [if_true] at hz
    simp only [Prod.mk.injEq] at hx
    obtain ⟨rfl, rfl⟩ := hx
    have hreach : len ≤ 140737488351232 := by
      have := sized_slice hsz hj hd Try.underlying26
      rw [show Try.prog.bytesOf 5 = 1 by kernel_rfl] at this
      simp only [lits, List.length_map, List.length_take, List.length_drop, reachBytes] at this
      omega
    by_cases h0 : len = 0
    · subst h0
      exact ⟨[], .inl ⟨rfl, _, _, rfl⟩, by simp, by simp⟩
    · obtain ⟨b, off, spot⟩ := x
      have hspot : spot = none := by simpa [Addr.add] using World.cell?_spot (hcell 0 (by omega))
      subst hspot
      have hlen : ((zs.take len).map Int.toNat).length = len := by rw [List.length_map, List.length_take]; omega
      have hlt : b < W.heap.size := by
        have := World.block_lt_of_cell? W _ (hcell 0 (by omega))
        simpa [Addr.add] using this
      refine ⟨(zs.take len).map Int.toNat, .inr ⟨b, off, cap, by rw [hlen], hlt, fun i hi => ?_, by rw [hlen]; exact hl⟩, fun m hm => ?_, by rw [hlen]; exact hreach⟩
      · rw [hlen] at hi
        have hc := hcell i (by omega)
        have hmem : zs[i]'(by omega) ∈ zs := List.getElem_mem _
        have hb := byte_nat (hwz _ hmem)
        rw [add_plain] at hc
        rw [hc]
        simp only [List.getElem_map, List.getElem_take, bv]
        rw [List.getD_eq_getElem?_getD, List.getElem?_eq_getElem (by omega)]
        simp only [Option.getD_some]
        rw [Int.toNat_of_nonneg hb.1]
      · obtain ⟨z, hz', rfl⟩ := List.mem_map.1 hm
        have hb := byte_nat (hwz z (List.mem_of_mem_take hz'))
        omega

section
variable {H : Type} {enc : TypeId × Value → H} {P : Program} {w : World} {base : Nat} {spare : Nat → Bool} {held : Bool}
theorem open_pairs {t e : TypeId} {fs : Array Field} {fuel : Nat} {cs : List Value} {x : DataW H × List MemPlace} (ht : P.underlying t = some (.slice e)) (he : P.underlying e = some (.struct fs))
    (hone : Deep.oneCellFields P fs = true) (hC : P.cellsOf e = fs.size) (h : DataW.trod enc P w base spare held fuel t cs = some x) :
    (cs = [.slice none 0 0] ∧ x = (.nil, [])) ∨
    ∃ (a : Addr) (len cap m : Nat) (D : Nat → DataW H), cs = [.slice (some a) len cap] ∧ len ≤ cap ∧ cap ≤ maxLen ∧ m = (if spare a.block then cap else len) ∧
      x.1 = .slice ((List.range len).map D) ((List.range (m - len)).map fun j => D (len + j)) ∧
      ∀ i, i < m → ∀ (j : Nat) (f : Field), fs[j]? = some f → ∃ (v : Value) (y : DataW H × List MemPlace) (n : Nat), w.cell? (a.add (i * fs.size + j)) = some v ∧ DataW.trod enc P w base spare held n f.type [v] = some y := by
  rcases Deep.open_slice ht h with h0 | ⟨a, len, cap, m, n, D, Pl, hcs, hb, hl, hm, hmm, hx, hi⟩
  · exact .inl h0
  · refine .inr ⟨a, len, cap, m, D, hcs, hl, hm, hmm, by rw [hx], fun i him j f hj => ?_⟩
    obtain ⟨cs', hc, ht'⟩ := hi i him
    rw [hC] at hc
    obtain ⟨ys, n', hn', hy, hlen, hyl, hf⟩ := DataW.trod_struct he ht'
    obtain ⟨_, hcl, hat⟩ := World.cells?_some hc
    obtain ⟨ho, hk⟩ := Deep.hone_of hone j f hj
    have hjl : j < fs.size := (Array.getElem?_eq_some_iff.1 hj).1
    have hcell := hat j hjl
    have hv : cs'[j]? = some (cs'[j]'(by omega)) := List.getElem?_eq_getElem (by omega)
    have h1 := hf j f hj
    rw [ho, hk] at h1
    have hone' : (cs'.drop j).take 1 = [cs'[j]'(by omega)] := by
      rw [List.drop_eq_getElem_cons (by omega)]
      rfl
    rw [hone'] at h1
    have hys : ys[j]? = some (ys[j]'(by omega)) := List.getElem?_eq_getElem (by omega)
    refine ⟨_, _, n', ?_, h1.trans hys⟩
    rw [← Deep.add_add, hcell, hv]
end
theorem u64_nat {n : Int} (h : (Lit.int .u64 n).wf = true) : 0 ≤ n ∧ n ≤ 18446744073709551615 := by
  simp [Lit.wf, IntKind.min, IntKind.max, IntKind.signed, IntKind.bits] at h; omega
theorem pairs_in {H : Type} {enc : TypeId × Value → H} {W : World} {A : Option Addr} {len cap : Nat} {d : DataW H} {p : List MemPlace} (h : DataW.Trod enc Try.prog W 0 (fun _ => true) true 34 (.slice A len cap) d p)
    {ts : List TypeId} {ds : List (DataW H)} {j : Nat} (hsz : (DataW.weightsEach Try.prog ts ds).all (· ≤ reachBytes) = true) (hj : ts[j]? = some 34) (hd : ds[j]? = some d) :
    ∃ ps, RP encU W (.slice A len cap) ps ∧ (∀ p ∈ ps, p.1 ≤ 18446744073709551615 ∧ p.2 ≤ 18446744073709551615) ∧ ps.length * 16 ≤ 140737488351232 := by
  obtain ⟨fuel, hf⟩ := h
  rcases open_pairs Try.underlying34 Try.underlying24 (by kernel_rfl) (by kernel_rfl) hf with ⟨hcs, hx⟩ | ⟨x, l, c, m, D, hcs, hl, hm, hmm, hx, hcell⟩
  · simp [Value.cells] at hcs
    obtain ⟨rfl, rfl, rfl⟩ := hcs
    exact ⟨[], .inl ⟨rfl, _, _, rfl⟩, by simp, by simp⟩
  · simp [Value.cells] at hcs
    obtain ⟨rfl, rfl, rfl⟩ := hcs
    simp only [if_true] at hmm
    subst hmm
    have hreach : len * 16 ≤ 140737488351232 := by
      simp only at hx
      have := sized_slice hsz hj (hd.trans (by rw [hx])) Try.underlying34
      rw [show Try.prog.bytesOf 24 = 16 by kernel_rfl] at this
      simp only [List.length_map, List.length_range, reachBytes] at this
      have h2 : len * 16 ≤ (len + (m - len)) * 16 := Nat.mul_le_mul_right _ (by omega)
      omega
    by_cases h0 : len = 0
    · subst h0
      exact ⟨[], .inl ⟨rfl, _, _, rfl⟩, by simp, by simp⟩
    · have c0 : ∀ i, i < len → ∃ n : Nat, n ≤ 18446744073709551615 ∧ W.cell? (x.add (i * 2)) = some (.int .u64 n) := fun i hi => by
        obtain ⟨v, y, n, h1, h2⟩ := hcell i (by omega) 0 _ rfl
        obtain ⟨z, h3, h4, h5⟩ := DataW.trod_int Try.underlying22 h2
        have hb := u64_nat h5
        refine ⟨z.toNat, by omega, ?_⟩
        rw [Int.toNat_of_nonneg hb.1]
        simp only [List.cons.injEq, and_true] at h3
        rw [← h3]; exact h1
      have c1 : ∀ i, i < len → ∃ n : Nat, n ≤ 18446744073709551615 ∧ W.cell? (x.add (i * 2 + 1)) = some (.int .u64 n) := fun i hi => by
        obtain ⟨v, y, n, h1, h2⟩ := hcell i (by omega) 1 _ rfl
        obtain ⟨z, h3, h4, h5⟩ := DataW.trod_int Try.underlying22 h2
        have hb := u64_nat h5
        refine ⟨z.toNat, by omega, ?_⟩
        rw [Int.toNat_of_nonneg hb.1]
        simp only [List.cons.injEq, and_true] at h3
        rw [← h3]; exact h1
      obtain ⟨b, off, spot⟩ := x
      obtain ⟨n0, -, hc0⟩ := c0 0 (by omega)
      have hspot : spot = none := by simpa [Addr.add] using World.cell?_spot hc0
      subst hspot
      have hlt : b < W.heap.size := by
        have := World.block_lt_of_cell? W _ hc0
        simpa [Addr.add] using this
      have key : ∀ k, k ≤ len → ∃ ps : List (Nat × Nat), ps.length = k ∧ (∀ p ∈ ps, p.1 ≤ 18446744073709551615 ∧ p.2 ≤ 18446744073709551615) ∧ ∀ i (h : i < ps.length), W.cell? ⟨b, off + i * 2, none⟩ = some (encU ps[i].1) ∧ W.cell? ⟨b, off + (i * 2 + 1), none⟩ = some (encU ps[i].2) := by
        intro k
        induction k with
        | zero => exact fun _ => ⟨[], rfl, by simp, fun i h => by simp at h⟩
        | succ k ih =>
          intro hk
          obtain ⟨ps, h1, h2, h3⟩ := ih (by omega)
          obtain ⟨x, hx1, hx2⟩ := c0 k (by omega)
          obtain ⟨y, hy1, hy2⟩ := c1 k (by omega)
          rw [add_plain] at hx2 hy2
          refine ⟨ps ++ [(x, y)], by simp [h1], fun p hp => ?_, fun i hi => ?_⟩
          · rcases List.mem_append.1 hp with h | h
            · exact h2 p h
            · simp only [List.mem_singleton] at h; subst h; exact ⟨hx1, hy1⟩
          · by_cases e : i < ps.length
            · rw [List.getElem_append_left e]; exact h3 i e
            · have : i = k := by rw [List.length_append, List.length_singleton] at hi; omega
              subst this
              rw [List.getElem_append_right (by omega)]
              simp only [h1, Nat.sub_self, List.getElem_singleton]
              exact ⟨hx2, hy2⟩
      obtain ⟨ps, h1, h2, h3⟩ := key len (Nat.le_refl _)
      exact ⟨ps, .inr ⟨b, off, _, by rw [h1], hlt, h3, by rw [h1]; exact hl⟩, h2, by rw [h1]; exact hreach⟩
end Go.Proofs.Ytaecbapflpejmaa
