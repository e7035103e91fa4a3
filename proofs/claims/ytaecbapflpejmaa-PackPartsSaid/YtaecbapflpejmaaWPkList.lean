/- Lists of bytes: what can be read of a slice; the reference's number and joined; the law's same. -/
import Derived.Test.YtaecbapflpejmaaWIv
import Derived.Deep.LoopGhost
import Derived.BigQuiet
import Derived.Deep.QuietTactic
namespace Go.Proofs.Ytaecbapflpejmaa
open Go.RowKit

theorem infoB : (Try.prog.info? 5).map (fun i => (i.zero, i.size, i.bytes)) = some (some (.int .u8 0), 1, 1) := by kernel_rfl
def bv (b : Nat) : Value := .int .u8 b
/-- A slice that can be read: its bytes. -/
def Rb (w : World) (v : Value) (xs : List Nat) : Prop :=
  (xs = [] ∧ ∃ A c, v = .slice A 0 c) ∨ ∃ g o c, v = .slice (some ⟨g, o, none⟩) xs.length c ∧ g < w.heap.size ∧ (∀ i (h : i < xs.length), w.cell? ⟨g, o + i, none⟩ = some (bv xs[i])) ∧ xs.length ≤ c
theorem Rb.keep {w w' : World} {v : Value} {xs : List Nat} (h : Rb w v xs) (hb : Below w.heap.size w w') : Rb w' v xs := by
  rcases h with h | ⟨g, o, c, h1, h2, h3, h4⟩
  · exact .inl h
  · exact .inr ⟨g, o, c, h1, Nat.lt_of_lt_of_le h2 hb.size, fun i hi => keep_cell hb h2 (h3 i hi), h4⟩
theorem Rb.own {w : World} {base : Nat} {v : Value} {xs : List Nat} (h : w.ownsRow base 5 1 v xs.length (xs.map bv)) : Rb w v xs := by
  have hc := fun g hg => h.cells (g := g) hg
  have hl := h.lt
  obtain ⟨-, ⟨rfl, h2⟩ | ⟨g, c, cur, rfl, -, -, hnc, -⟩⟩ := h
  · exact .inl ⟨List.eq_nil_of_length_eq_zero h2, _, _, rfl⟩
  · refine .inr ⟨g, 0, c, rfl, (hl g rfl).2, fun i hi => ?_, hnc⟩
    have := hc g rfl i (bv xs[i]) (by simp [hi])
    rw [← this, Nat.zero_add]
    unfold Addr.add
    split <;> simp_all
theorem Rb.at {w : World} {v : Value} {xs : List Nat} (h : Rb w v xs) {i : Nat} (hi : i < xs.length) : ∃ g o, (∀ A c, v = .slice A xs.length c → A = some ⟨g, o, none⟩) ∧ g < w.heap.size ∧ w.cell? ⟨g, o + i, none⟩ = some (bv xs[i]) := by
  rcases h with ⟨rfl, -⟩ | ⟨g, o, c, rfl, h2, h3, -⟩
  · simp at hi
  · exact ⟨g, o, fun A c h => (by injection h with h; exact h.symm), h2, h3 i hi⟩
theorem Rb.form {w : World} {v : Value} {xs : List Nat} (h : Rb w v xs) (hn : 0 < xs.length) : ∃ g o c, v = .slice (some ⟨g, o, none⟩) xs.length c ∧ g < w.heap.size ∧ (∀ i (h : i < xs.length), w.cell? ⟨g, o + i, none⟩ = some (bv xs[i])) ∧ xs.length ≤ c := by
  rcases h with ⟨rfl, -⟩ | h
  · simp at hn
  · exact h
/-- A part of what can be read. -/
theorem Rb.part {w : World} {g o c n m k : Nat} {xs : List Nat} (hg : g < w.heap.size) (hc : ∀ i (h : i < xs.length), w.cell? ⟨g, o + i, none⟩ = some (bv xs[i])) (hk : k ≤ c) (hn : n = ((xs.drop m).take k).length) : Rb w (.slice (some ⟨g, o + m, none⟩) n c) ((xs.drop m).take k) := by
  refine .inr ⟨g, o + m, c, by rw [hn], hg, fun i hi => ?_, by rw [List.length_take]; omega⟩
  simp only [List.length_take, List.length_drop] at hi
  rw [List.getElem_take, List.getElem_drop, ← hc (m + i) (by omega), Nat.add_assoc]
theorem Rb.len {w : World} {v : Value} {xs : List Nat} (h : Rb w v xs) : ∃ A c, v = .slice A xs.length c := by
  rcases h with ⟨rfl, A, c, rfl⟩ | ⟨g, o, c, h1, -⟩
  · exact ⟨_, _, rfl⟩
  · exact ⟨_, _, h1⟩
/-- A list of bytes in new memory that is told. -/
def TBy (xs : List Nat) (w : World) (e : Ending) (w' : World) : Prop := ∃ v, e = .returned v ∧ w'.ownsRow w.heap.size 5 1 v xs.length (xs.map bv) ∧ Below w.heap.size w w'
/-- A number's first bytes, the lowest first. -/
def nby (n v : Nat) : List Nat := (List.range n).map fun i => v / 256 ^ i % 256
theorem nby_succ (n v : Nat) : nby (n + 1) v = nby n v ++ [v / 256 ^ n % 256] := by simp [nby, List.range_succ]
theorem nby_len (n v : Nat) : (nby n v).length = n := by simp [nby]
theorem own_more {w wr w1 : World} {xs : List Nat} {v v' : Value} {m : Nat} {o : Obj} (ho : wr.ownsRow w.heap.size 5 1 v xs.length (xs.map bv)) (hb : Below w.heap.size w wr)
    (h' : w1.ownsRow w.heap.size 5 1 v' (xs.length + 1) (xs.map bv ++ [bv m])) (hg : (wr.alloc o).grownBy w1 v.ownBlock) : w1.ownsRow w.heap.size 5 1 v' (xs ++ [m]).length ((xs ++ [m]).map bv) ∧ Below w.heap.size w w1 := by
  refine ⟨by simpa using h', (hb.alloc hb.size o).grown hg (by have := hb.size; simp; omega) (fun j hj => (ho.lt j hj).1)⟩
theorem own_nil0 {w wr : World} : wr.ownsRow w.heap.size 5 1 (.slice none 0 0) ([] : List Nat).length (([] : List Nat).map bv) := World.ownsRow_nil _ _ _ _
theorem u8_of (m : Nat) : IntKind.u8.wrap ((m % 256 : Nat) : Int) = ((m % 256 : Nat) : Int) := by
  rw [IntKind.wrap_u8]; omega

set_option maxRecDepth 20000 in
set_option maxHeartbeats 4000000 in
theorem rnumber_any (v : Nat) (hv : v ≤ 18446744073709551615) (w : World) : Calls Try.prog 39 #[.int .u64 v] w (TBy (nby 8 v) w) := by
  have HV := hide hv
  clear hv
  obtain ⟨i0, hi, hz0, hz1, hz2⟩ := info_parts infoB
  go_enter Try.func39, Try.ntmps39
  go_wp2_with fail
  go_loopg [0, 3, 4] 8 (fun k n l i wr => ∃ (j u : Nat), n = .int .u64 u ∧ i = .int .i64 j ∧ Hid (j + k = 8 ∧ u = v / 256 ^ j) ∧ Hid (wr.ownsRow w.heap.size 5 1 l (nby j v).length ((nby j v).map bv) ∧ Below w.heap.size w wr))
  case atStart => exact ⟨0, v, rfl, rfl, hide ⟨rfl, by simp⟩, hide ⟨own_nil0, Below.refl _ _⟩⟩
  case round =>
    obtain ⟨j, u, rfl, rfl, HJ, HO⟩ := hrel
    by_cases c : (j : Int) < 8
    · have ew : IntKind.i64.wrap ((j : Int) + 1) = (j + 1 : Nat) := by rw [IntWalk.i64_in _ (by omega)]; rfl
      have hu : u ≤ 18446744073709551615 := by have h1 := HJ.out.2; have h2 := HV.out; rw [h1]; exact Nat.le_trans (Nat.div_le_self _ _) h2
      obtain ⟨m, hm⟩ : ∃ m : Nat, u % 256 = m := ⟨_, rfl⟩
      obtain ⟨q, hq⟩ : ∃ q : Nat, u / 256 = q := ⟨_, rfl⟩
      have e1 : IntKind.u64.wrap ((u : Int).tmod 256) = (m : Int) := by rw [IntKind.wrap_u64, Int.tmod_eq_emod_of_nonneg (by omega)]; omega
      have e1' : (u : Int).tmod 256 = (m : Int) := by rw [Int.tmod_eq_emod_of_nonneg (by omega)]; omega
      have e2 : IntKind.u8.wrap (m : Int) = (m : Int) := by rw [IntKind.wrap_u8]; omega
      have e3 : IntKind.u64.wrap ((u : Int).tdiv 256) = (q : Int) := by rw [IntKind.wrap_u64, Int.tdiv_eq_ediv_of_nonneg (by omega)]; omega
      have e3' : (u : Int).tdiv 256 = (q : Int) := by rw [Int.tdiv_eq_ediv_of_nonneg (by omega)]; omega
      have e4 : IntKind.u64.wrap (q : Int) = (q : Int) := by rw [IntKind.wrap_u64]; omega
      have HQ := hide (show _ ∧ _ from ⟨hm, hq⟩)
      clear hm hq hu
      go_wp2_with (at_builtin; refine wpList_append_own _ rfl _ _ 26 rfl w.heap.size 5 i0 (.int .u8 0) 1 1 Try.underlying26 hi hz0 hz1 hz2 rfl (by decide) _ (nby j v).length ((nby j v).map bv) rfl (HO.out.1.alloc _) ⟨wr.heap.size, 0, none⟩ 1 1 [.int .u8 (m : Nat)] rfl rfl (by intro j u hj; rcases j with _ | j <;> simp at hj; subst hj; simp [Addr.add]) (by intro u hu; simp at hu; subst hu; rfl) (by rw [nby_len]; unfold maxLen; omega) (by rw [nby_len]; omega) (by have := HO.out.2.size; simp; omega) ?_; intro v' w1 hown' hgrow _)
      have R := hide (own_more HO.out.1 HO.out.2 hown' hgrow)
      clear hown' hgrow HO
      go_wp2
      go_roundg (7 - j)
      case measure => have := HJ.out; omega
      case rel =>
        have hj := HJ.out.2
        have hq := HQ.out
        refine ⟨j + 1, q, rfl, by simp, hide ⟨by have := HJ.out; omega, by rw [← hq.2, hj, Nat.div_div_eq_div_mul, Nat.pow_succ]⟩, hide ?_⟩
        have := R.out
        rw [nby_succ, ← hj, hq.1]
        exact this
    · have hj : j = 8 := by have := HJ.out; omega
      subst hj
      go_wp2
      go_ret
      exact ⟨_, rfl, HO.out.1, HO.out.2⟩

set_option maxRecDepth 20000 in
set_option maxHeartbeats 8000000 in
theorem joined_any (a b : Value) (xs ys : List Nat) (w : World) (ha : Rb w a xs) (hb : Rb w b ys) (hl : xs.length + ys.length ≤ 4096) : Calls Try.prog 28 #[a, b] w (TBy (xs ++ ys) w) := by
  have HL := hide hl
  have HA := hide ha
  have HB := hide hb
  obtain ⟨i0, hi, hz0, hz1, hz2⟩ := info_parts infoB
  obtain ⟨A1, c1, rfl⟩ := ha.len
  obtain ⟨A2, c2, rfl⟩ := hb.len
  obtain ⟨N1, hN1⟩ : ∃ n, xs.length = n := ⟨_, rfl⟩
  obtain ⟨N2, hN2⟩ : ∃ n, ys.length = n := ⟨_, rfl⟩
  rw [hN1, hN2]
  have HN := hide (show xs.length = N1 ∧ ys.length = N2 from ⟨hN1, hN2⟩)
  clear hl ha hb hN1 hN2
  go_enter Try.func28, Try.ntmps28
  go_wp2_with fail
  go_loopg [5, 6] N1 (fun k l i wr => ∃ j : Nat, i = .int .i64 j ∧ Hid (j + k = N1) ∧ Hid (wr.ownsRow w.heap.size 5 1 l (xs.take j).length ((xs.take j).map bv) ∧ Below w.heap.size w wr))
  case atStart => exact ⟨0, rfl, hide (by omega), hide ⟨own_nil0, Below.refl _ _⟩⟩
  case round =>
    obtain ⟨j, rfl, HJ, HO⟩ := hrel
    by_cases c : (j : Int) < N1
    · have hj : j < xs.length := by have := HN.out; omega
      obtain ⟨g, o, hA, hcell⟩ := HA.out.at hj
      obtain ⟨m, hm⟩ : ∃ m : Nat, xs[j] = m := ⟨_, rfl⟩
      rw [hm] at hcell
      obtain rfl : A1 = some ⟨g, o, none⟩ := hA _ _ rfl
      have hc : wr.cell? ⟨g, o + j, none⟩ = some (.int .u8 (m : Nat)) := keep_cell HO.out.2 hcell.1 hcell.2
      have ew : IntKind.i64.wrap ((j : Int) + 1) = (j + 1 : Nat) := by rw [IntWalk.i64_in _ (by have := HL.out; omega)]; rfl
      have HM := hide hm
      clear hcell hA hm
      go_wp2_with (at_builtin; refine wpList_append_own _ rfl _ _ 26 rfl w.heap.size 5 i0 (.int .u8 0) 1 1 Try.underlying26 hi hz0 hz1 hz2 rfl (by decide) _ (xs.take j).length ((xs.take j).map bv) rfl (HO.out.1.alloc _) ⟨wr.heap.size, 0, none⟩ 1 1 [.int .u8 (m : Nat)] rfl rfl (by intro j u hj; rcases j with _ | j <;> simp at hj; subst hj; simp [Addr.add]) (by intro u hu; simp at hu; subst hu; rfl) (by have := HL.out; have := HN.out; rw [List.length_take]; unfold maxLen; omega) (by have := HL.out; have := HN.out; rw [List.length_take]; omega) (by have := HO.out.2.size; simp; omega) ?_; intro v' w1 hown' hgrow _)
      have R := hide (own_more HO.out.1 HO.out.2 hown' hgrow)
      clear hown' hgrow HO
      go_wp2
      go_roundg (N1 - (j + 1))
      case measure => have := HJ.out; omega
      case rel =>
        refine ⟨j + 1, by simp, hide (by have := HJ.out; omega), hide ?_⟩
        have := R.out
        rw [List.take_succ_eq_append_getElem hj, HM.out]
        exact this
    · have hj : j = N1 := by have := HJ.out; omega
      subst hj
      have HO' : Hid (wr.ownsRow w.heap.size 5 1 u5 xs.length (xs.map bv) ∧ Below w.heap.size w wr) := hide (by have h := HO.out; rw [List.take_of_length_le (by have := HN.out; omega)] at h; exact h)
      clear HO c
      go_wp2_with fail
      obtain ⟨W1, rfl⟩ : ∃ W1, W1 = wr := ⟨_, rfl⟩
      go_loopg [5, 7] N2 (fun k l i wr => ∃ t : Nat, i = .int .i64 t ∧ Hid (t + k = N2) ∧ Hid (wr.ownsRow w.heap.size 5 1 l (xs ++ ys.take t).length ((xs ++ ys.take t).map bv) ∧ Below w.heap.size w wr))
      case atStart => exact ⟨0, rfl, hide (by omega), hide (by have h := HO'.out; simpa using h)⟩
      case round =>
        obtain ⟨t, rfl, HT, HO⟩ := hrel
        by_cases c : (t : Int) < N2
        · have ht : t < ys.length := by have := HN.out; omega
          obtain ⟨g, o, hA, hcell⟩ := HB.out.at ht
          obtain ⟨m, hm⟩ : ∃ m : Nat, ys[t] = m := ⟨_, rfl⟩
          rw [hm] at hcell
          obtain rfl : A2 = some ⟨g, o, none⟩ := hA _ _ rfl
          have hc : wr.cell? ⟨g, o + t, none⟩ = some (.int .u8 (m : Nat)) := keep_cell HO.out.2 hcell.1 hcell.2
          have ew : IntKind.i64.wrap ((t : Int) + 1) = (t + 1 : Nat) := by rw [IntWalk.i64_in _ (by have := HL.out; omega)]; rfl
          have HM := hide hm
          have hll : (xs ++ ys.take t).length ≤ 4096 := by have := HL.out; rw [List.length_append, List.length_take]; omega
          have HLL := hide hll
          clear hcell hA hm hll
          go_wp2_with (at_builtin; refine wpList_append_own _ rfl _ _ 26 rfl w.heap.size 5 i0 (.int .u8 0) 1 1 Try.underlying26 hi hz0 hz1 hz2 rfl (by decide) _ (xs ++ ys.take t).length ((xs ++ ys.take t).map bv) rfl (HO.out.1.alloc _) ⟨wr.heap.size, 0, none⟩ 1 1 [.int .u8 (m : Nat)] rfl rfl (by intro j u hj; rcases j with _ | j <;> simp at hj; subst hj; simp [Addr.add]) (by intro u hu; simp at hu; subst hu; rfl) (by have := HLL.out; unfold maxLen; omega) (by have := HLL.out; omega) (by have := HO.out.2.size; simp; omega) ?_; intro v' w1 hown' hgrow _)
          have R := hide (own_more HO.out.1 HO.out.2 hown' hgrow)
          clear hown' hgrow HO
          go_wp2
          go_roundg (N2 - (t + 1))
          case measure => have := HT.out; omega
          case rel =>
            refine ⟨t + 1, by simp, hide (by have := HT.out; omega), hide ?_⟩
            have := R.out
            rw [List.take_succ_eq_append_getElem ht, HM.out, ← List.append_assoc]
            exact this
        · have htt : t = N2 := by have := HT.out; omega
          subst htt
          have HO2 : Hid (wr.ownsRow w.heap.size 5 1 u5 (xs ++ ys).length ((xs ++ ys).map bv) ∧ Below w.heap.size w wr) := hide (by have h := HO.out; rw [List.take_of_length_le (by have := HN.out; omega)] at h; exact h)
          clear HO
          go_wp2
          go_ret
          exact ⟨_, rfl, HO2.out.1, HO2.out.2⟩
set_option maxRecDepth 20000 in
set_option maxHeartbeats 4000000 in
theorem same_any (a b : Value) (xs : List Nat) (w : World) (ha : Rb w a xs) (hb : Rb w b xs) (hl : xs.length ≤ 4096) : Calls Try.prog 8 #[a, b] w fun e w' => e = .returned (.bool true) ∧ Below w.heap.size w w' := by
  have HL := hide hl
  have HA := hide ha
  have HB := hide hb
  obtain ⟨A1, c1, rfl⟩ := ha.len
  obtain ⟨A2, c2, rfl⟩ := hb.len
  obtain ⟨N1, hN1⟩ : ∃ n, xs.length = n := ⟨_, rfl⟩
  rw [hN1]
  have HN := hide hN1
  clear hl ha hb hN1
  go_enter Try.func8, Try.ntmps8
  go_wp2_with fail
  go_loopg [5] N1 (fun k i wr => ∃ j : Nat, i = .int .i64 j ∧ Hid (j + k = N1) ∧ Hid (Below w.heap.size w wr))
  case atStart => exact ⟨0, rfl, hide (by omega), hide (Below.refl _ _)⟩
  case round =>
    obtain ⟨j, rfl, HJ, HW⟩ := hrel
    by_cases c : (j : Int) < N1
    · have hj : j < xs.length := by have := HN.out; omega
      obtain ⟨g, o, hA, hcell⟩ := HA.out.at hj
      obtain ⟨g', o', hB, hcell'⟩ := HB.out.at hj
      obtain ⟨m, hm⟩ : ∃ m : Nat, xs[j] = m := ⟨_, rfl⟩
      rw [hm] at hcell hcell'
      obtain rfl : A1 = some ⟨g, o, none⟩ := hA _ _ rfl
      obtain rfl : A2 = some ⟨g', o', none⟩ := hB _ _ rfl
      have hc : wr.cell? ⟨g, o + j, none⟩ = some (.int .u8 (m : Nat)) := keep_cell HW.out hcell.1 hcell.2
      have hc' : wr.cell? ⟨g', o' + j, none⟩ = some (.int .u8 (m : Nat)) := keep_cell HW.out hcell'.1 hcell'.2
      have ew : IntKind.i64.wrap ((j : Int) + 1) = (j + 1 : Nat) := by rw [IntWalk.i64_in _ (by have := HL.out; omega)]; rfl
      clear hcell hcell' hA hB hm
      go_wp2_with fail
      go_quiet (fail)
      go_wp2
      go_roundg (N1 - (j + 1))
      case measure => have := HJ.out; omega
      case rel => exact ⟨j + 1, by simp, hide (by have := HJ.out; omega), hide ⟨HW.out.os, HW.out.tape, HW.out.output, HW.out.size, HW.out.block⟩⟩
    · have hj : j = N1 := by have := HJ.out; omega
      subst hj
      go_wp2
      go_ret
      exact ⟨rfl, HW.out⟩
end Go.Proofs.Ytaecbapflpejmaa
