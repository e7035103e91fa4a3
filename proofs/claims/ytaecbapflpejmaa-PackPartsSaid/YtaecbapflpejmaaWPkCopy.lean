/- The law's copied, marked and left. -/
import Derived.Test.YtaecbapflpejmaaWPkSame
import Derived.Test.YtaecbapflpejmaaWPkPut
namespace Go.Proofs.Ytaecbapflpejmaa
open Go.RowKit

set_option maxRecDepth 20000 in
set_option maxHeartbeats 8000000 in
theorem copied_any (a : Value) (xs : List Nat) (w : World) (ha : Rb w a xs) (hl : xs.length ≤ 140737488351232) : Calls Try.prog 22 #[a] w (TBy xs w) := by
  have HL := hide hl
  have HA := hide ha
  obtain ⟨i0, hi, hz0, hz1, hz2⟩ := info_parts infoB
  obtain ⟨A1, c1, rfl⟩ := ha.len
  obtain ⟨N1, hN1⟩ : ∃ n, xs.length = n := ⟨_, rfl⟩
  rw [hN1]
  have HN := hide (show xs.length = N1 from hN1)
  clear hl ha hN1
  go_enter Try.func22, Try.ntmps22
  go_wp2_with fail
  go_loopg [3, 4] N1 (fun k l i wr => ∃ j : Nat, i = .int .i64 j ∧ Hid (j + k = N1) ∧ Hid (wr.ownsRow w.heap.size 5 1 l (xs.take j).length ((xs.take j).map bv) ∧ Below w.heap.size w wr))
  case atStart => exact ⟨0, rfl, hide (by omega), hide ⟨own_nil0, Below.refl _ _⟩⟩
  case round =>
    obtain ⟨j, rfl, HJ, HO⟩ := hrel
    by_cases c : (j : Int) < N1
    · have hj : j < xs.length := by have := HN.out; omega
      obtain ⟨g, o, hA, hcell⟩ := HA.out.at hj
      obtain ⟨m, hm⟩ : ∃ m : Nat, xs[j] = m := ⟨_, rfl⟩
      rw [hm] at hcell
      obtain rfl : A1 = some ⟨g, o, none⟩ := hA _ _ (by rw [HN.out])
      have hc : wr.cell? ⟨g, o + j, none⟩ = some (.int .u8 (m : Nat)) := keep_cell HO.out.2 hcell.1 hcell.2
      have ew : IntKind.i64.wrap ((j : Int) + 1) = (j + 1 : Nat) := by rw [IntWalk.i64_in _ (by have := HL.out; omega)]; rfl
      have HM := hide hm
      clear hcell hA hm
      go_wp2_with (at_builtin; refine wpList_append_own _ rfl _ _ 26 rfl w.heap.size 5 i0 (.int .u8 0) 1 1 Try.underlying26 hi hz0 hz1 hz2 rfl (by decide) _ (xs.take j).length ((xs.take j).map bv) rfl (HO.out.1.alloc _) ⟨wr.heap.size, 0, none⟩ 1 1 [.int .u8 (m : Nat)] rfl rfl (by intro j u hj; rcases j with _ | j <;> simp at hj; subst hj; simp [Addr.add]) (by intro u hu; simp at hu; subst hu; rfl) (by have := HL.out; have := HN.out; rw [List.length_take]; unfold maxLen; omega) (by have := HL.out; have := HN.out; rw [List.length_take]; omega) (by have := HO.out.2.size; simp; omega) ?_; intro v' w1 hown' hgrow _)
      have R := hide (own_more HO.out.1 HO.out.2 hown' hgrow)
      clear hown' hgrow HO
      go_wp2
      go_roundg (N1 - (j + 1))
      case measure => have := HJ.out; omega
      case rel =>
        refine ⟨j + 1, by simp, hide (by have := HJ.out; omega), hide ?_⟩
        have := R.out
        rw [List.take_succ_eq_append_getElem hj, HM.out]
        exact this
    · have hj : j = N1 := by have := HJ.out; omega
      subst hj
      have HO' : Hid (wr.ownsRow w.heap.size 5 1 u3 xs.length (xs.map bv) ∧ Below w.heap.size w wr) := hide (by have h := HO.out; rw [List.take_of_length_le (by have := HN.out; omega)] at h; exact h)
      clear HO c
      go_wp2_with fail
      go_ret
      exact ⟨_, rfl, HO'.out.1, HO'.out.2⟩

def marks (n : Nat) : List Nat := List.replicate n 201
/-- A list with forty marks behind it, in new memory. -/
def TMk (xs : List Nat) (w : World) (e : Ending) (w' : World) : Prop :=
  ∃ g c, e = .returned (.tuple #[.slice (some ⟨g, 0, none⟩) xs.length c, .slice (some ⟨g, 0, none⟩) (xs.length + 40) c]) ∧ Rb w' (.slice (some ⟨g, 0, none⟩) (xs.length + 40) c) (xs ++ marks 40) ∧ Below w.heap.size w w'
theorem Rb.head {w : World} {g n m c : Nat} {xs ys : List Nat} (h : Rb w (.slice (some ⟨g, 0, none⟩) m c) (xs ++ ys)) (hn : xs.length = n) (hp : 0 < (xs ++ ys).length) : Rb w (.slice (some ⟨g, 0, none⟩) n c) xs := by
  obtain ⟨g', o, c', he, hg, hc, hl⟩ := h.form hp
  injection he with h1 h2 h3
  injection h1 with h1
  injection h1 with h4 h5 h6
  subst h4 h5 h3
  refine .inr ⟨g, 0, c, by rw [hn], hg, fun i hi => ?_, by rw [List.length_append] at hl; omega⟩
  have := hc i (by rw [List.length_append]; omega)
  rw [List.getElem_append_left hi] at this
  exact this
set_option maxRecDepth 20000 in
set_option maxHeartbeats 8000000 in
theorem marked_any (a : Value) (xs : List Nat) (w : World) (ha : Rb w a xs) (hl : xs.length ≤ 140737488351232) : Calls Try.prog 17 #[a] w (TMk xs w) := by
  have HL := hide hl
  have HA := hide ha
  have C := fun w' (h : Rb w' a xs) => copied_any a xs w' h hl
  obtain ⟨i0, hi, hz0, hz1, hz2⟩ := info_parts infoB
  clear hl ha
  go_enter Try.func17, Try.ntmps17
  go_wp2_with fail
  refine (C _ HA.out).mono ?_; rintro e w1 ⟨v1, rfl, ho, hb⟩
  have H1 := hide (show _ ∧ _ from ⟨ho, hb⟩)
  clear ho hb C
  go_wp2_with fail
  go_loopg [4, 5] 40 (fun k l i wr => ∃ j : Nat, i = .int .i64 j ∧ Hid (j + k = 40) ∧ Hid (wr.ownsRow w.heap.size 5 1 l (xs ++ marks j).length ((xs ++ marks j).map bv) ∧ Below w.heap.size w wr))
  case atStart => exact ⟨0, rfl, hide rfl, hide (by have h := H1.out; simpa [marks] using h)⟩
  case round =>
    obtain ⟨j, rfl, HJ, HO⟩ := hrel
    by_cases c : (j : Int) < 40
    · have ew : IntKind.i64.wrap ((j : Int) + 1) = (j + 1 : Nat) := by rw [IntWalk.i64_in _ (by omega)]; rfl
      have HC := hide c
      go_wp2_with (at_builtin; refine wpList_append_own _ rfl _ _ 26 rfl w.heap.size 5 i0 (.int .u8 0) 1 1 Try.underlying26 hi hz0 hz1 hz2 rfl (by decide) _ (xs ++ marks j).length ((xs ++ marks j).map bv) rfl (HO.out.1.alloc _) ⟨wr.heap.size, 0, none⟩ 1 1 [.int .u8 (201)] rfl rfl (by intro j u hj; rcases j with _ | j <;> simp at hj; subst hj; simp [Addr.add]) (by intro u hu; simp at hu; subst hu; rfl) (by have := HL.out; have := HC.out; simp [marks]; unfold maxLen; omega) (by have := HL.out; have := HC.out; simp [marks]; omega) (by have := HO.out.2.size; simp; omega) ?_; intro v' w1 hown' hgrow _)
      have R := hide (own_more (m := 201) HO.out.1 HO.out.2 hown' hgrow)
      clear hown' hgrow HO
      go_wp2
      go_roundg (40 - (j + 1))
      case measure => have := HJ.out; omega
      case rel =>
        refine ⟨j + 1, by simp, hide (by have := HJ.out; omega), hide ?_⟩
        have := R.out
        rw [List.append_assoc] at this
        rw [show marks (j + 1) = marks j ++ [201] by simp [marks, List.replicate_succ']]
        exact this
    · have hj : j = 40 := by have := HJ.out; omega
      subst hj
      have hlen : (xs ++ marks 40).length = xs.length + 40 := by simp [marks]
      obtain ⟨g, cap, hv⟩ : ∃ g cap, u4 = .slice (some ⟨g, 0, none⟩) (xs.length + 40) cap := by
        obtain ⟨-, ⟨h1, h2⟩ | ⟨g, cap, cur, h1, -⟩⟩ := HO.out.1
        · omega
        · exact ⟨g, cap, by rw [h1, hlen]⟩
      subst hv
      have R := hide (Rb.own HO.out.1)
      have gB := hide HO.out.2
      have hcap : (((xs.length : Nat) : Int) + 40) ≤ cap := by
        obtain ⟨-, ⟨h1, h2⟩ | ⟨g, cap, cur, h1, -, -, h2, -⟩⟩ := HO.out.1
        · omega
        · injection h1 with h1 h3 h4; omega
      obtain ⟨N, hN⟩ : ∃ n, xs.length = n := ⟨_, rfl⟩
      have HN := hide hN
      have hNl : (N : Int) ≤ 140737488351232 := by have := HL.out; omega
      rw [hN] at hcap R ⊢
      clear HO c hN hlen
      go_wp2_with fail
      go_ret2
      exact ⟨g, cap, by rw [HN.out]; rfl, by rw [HN.out]; exact R.out, gB.out⟩
end Go.Proofs.Ytaecbapflpejmaa
