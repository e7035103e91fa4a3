/- Lists of words of 32 bits: what can be read of a slice; the reference's words, Norm. -/
import Derived.Test.YtljnadoodbninaaWIv
import Derived.Test.YtljnadoodbninaaMNat
import Derived.Deep.LoopGhost
import Derived.Deep.Cut
import Derived.BigQuiet
import Derived.Deep.QuietTactic
namespace Go.Proofs.Ytljnadoodbninaa
open Go.RowKit

theorem info32 : (Try.prog.info? 78).map (fun i => (i.zero, i.size, i.bytes)) = some (some (.int .u32 0), 1, 4) := by kernel_rfl
def wv (b : Nat) : Value := .int .u32 b
/-- A slice that can be read: its words. -/
def Rw (w : World) (v : Value) (xs : List Nat) : Prop :=
  Vg.Wd xs ∧ ((xs = [] ∧ ∃ A c, v = .slice A 0 c) ∨ ∃ g o c, v = .slice (some ⟨g, o, none⟩) xs.length c ∧ g < w.heap.size ∧ (∀ i (h : i < xs.length), w.cell? ⟨g, o + i, none⟩ = some (wv xs[i])) ∧ xs.length ≤ c)
theorem Rw.keep {w w' : World} {v : Value} {xs : List Nat} (h : Rw w v xs) (hb : Below w.heap.size w w') : Rw w' v xs := by
  obtain ⟨h0, h⟩ := h
  refine ⟨h0, ?_⟩
  rcases h with h | ⟨g, o, c, h1, h2, h3, h4⟩
  · exact .inl h
  · exact .inr ⟨g, o, c, h1, Nat.lt_of_lt_of_le h2 hb.size, fun i hi => keep_cell hb h2 (h3 i hi), h4⟩
theorem Rw.own {w : World} {base : Nat} {v : Value} {xs : List Nat} (hw : Vg.Wd xs) (h : w.ownsRow base 78 1 v xs.length (xs.map wv)) : Rw w v xs := by
  refine ⟨hw, ?_⟩
  have hc := fun g hg => h.cells (g := g) hg
  have hl := h.lt
  obtain ⟨-, ⟨rfl, h2⟩ | ⟨g, c, cur, rfl, -, -, hnc, -⟩⟩ := h
  · exact .inl ⟨List.eq_nil_of_length_eq_zero h2, _, _, rfl⟩
  · refine .inr ⟨g, 0, c, rfl, (hl g rfl).2, fun i hi => ?_, hnc⟩
    have := hc g rfl i (wv xs[i]) (by simp [hi])
    rw [← this, Nat.zero_add]
    unfold Addr.add
    split <;> simp_all
theorem Rw.at {w : World} {v : Value} {xs : List Nat} (h : Rw w v xs) {i : Nat} (hi : i < xs.length) : ∃ g o, (∀ A c, v = .slice A xs.length c → A = some ⟨g, o, none⟩) ∧ g < w.heap.size ∧ w.cell? ⟨g, o + i, none⟩ = some (wv xs[i]) := by
  obtain ⟨-, ⟨rfl, -⟩ | ⟨g, o, c, rfl, h2, h3, -⟩⟩ := h
  · simp at hi
  · exact ⟨g, o, fun A c h => (by injection h with h; exact h.symm), h2, h3 i hi⟩
theorem Rw.len {w : World} {v : Value} {xs : List Nat} (h : Rw w v xs) : ∃ A c, v = .slice A xs.length c := by
  obtain ⟨-, ⟨rfl, A, c, rfl⟩ | ⟨g, o, c, h1, -⟩⟩ := h
  · exact ⟨_, _, rfl⟩
  · exact ⟨_, _, h1⟩
theorem own_more32 {w wr w1 : World} {xs : List Nat} {v v' : Value} {m : Nat} {o : Obj} (ho : wr.ownsRow w.heap.size 78 1 v xs.length (xs.map wv)) (hb : Below w.heap.size w wr)
    (h' : w1.ownsRow w.heap.size 78 1 v' (xs.length + 1) (xs.map wv ++ [wv m])) (hg : (wr.alloc o).grownBy w1 v.ownBlock) : w1.ownsRow w.heap.size 78 1 v' (xs ++ [m]).length ((xs ++ [m]).map wv) ∧ Below w.heap.size w w1 := by
  refine ⟨by simpa using h', (hb.alloc hb.size o).grown hg (by have := hb.size; simp; omega) (fun j hj => (ho.lt j hj).1)⟩
theorem own_nil32 {w wr : World} : wr.ownsRow w.heap.size 78 1 (.slice none 0 0) ([] : List Nat).length (([] : List Nat).map wv) := World.ownsRow_nil _ _ _ _
/-- A number in new memory, without noughts at its high end, of at most B words. -/
def TNa (N B : Nat) (w : World) (e : Ending) (w' : World) : Prop :=
  ∃ v ys, e = .returned v ∧ Rw w' v ys ∧ Vg.nat32 ys = N ∧ Vg.WL ys ys.length ∧ ys.length ≤ B ∧ Below w.heap.size w w'
/-- How many words a number has. -/
def TWl (xs : List Nat) (w : World) (e : Ending) (w' : World) : Prop := ∃ n : Nat, e = .returned (.int .i64 n) ∧ Vg.WL xs n ∧ Below w.heap.size w w'
theorem wl_step {xs : List Nat} {j : Nat} (hj : j < xs.length) (h : ∀ b ∈ xs.drop (j + 1), b = 0) (h0 : xs[j] = 0) : ∀ b ∈ xs.drop j, b = 0 := by
  rw [List.drop_eq_getElem_cons hj]
  intro b hb
  rcases List.mem_cons.1 hb with rfl | hb
  · exact h0
  · exact h b hb

set_option maxRecDepth 20000 in
set_option maxHeartbeats 4000000 in
theorem words_any (a : Value) (xs : List Nat) (w : World) (ha : Rw w a xs) (hl : xs.length ≤ 35184372088831) : Calls Try.prog 109 #[a] w (TWl xs w) := by
  have HL := hide hl
  have HA := hide ha
  obtain ⟨A1, c1, rfl⟩ := ha.len
  obtain ⟨N1, hN1⟩ : ∃ n, xs.length = n := ⟨_, rfl⟩
  rw [hN1]
  have HN := hide (show xs.length = N1 from hN1)
  clear hl ha hN1
  go_enter Try.func109, Try.ntmps109
  go_wp2_with fail
  go_loopg [3] N1 (fun k i wr => ∃ K : Nat, i = .int .i64 K ∧ Hid (K = k ∧ K ≤ N1 ∧ ∀ b ∈ xs.drop K, b = 0) ∧ Hid (Below w.heap.size w wr))
  case atStart => exact ⟨N1, rfl, hide ⟨rfl, Nat.le_refl _, fun b hb => by rw [List.drop_of_length_le (by have := HN.out; omega)] at hb; cases hb⟩, hide (Below.refl _ _)⟩
  case round =>
    obtain ⟨K, rfl, HJ, HW⟩ := hrel
    by_cases c : (0 : Int) < K
    · obtain ⟨j, hjK⟩ : ∃ j, K = j + 1 := ⟨K - 1, by omega⟩
      have hjl : j < N1 := by have := HJ.out.2.1; omega
      have hj : j < xs.length := by have := HN.out; omega
      obtain ⟨g, o, hA, hcell⟩ := HA.out.at hj
      obtain ⟨m, hm⟩ : ∃ m : Nat, xs[j] = m := ⟨_, rfl⟩
      rw [hm] at hcell
      obtain rfl : A1 = some ⟨g, o, none⟩ := hA _ _ (by rw [HN.out])
      have hc : wr.cell? ⟨g, o + j, none⟩ = some (.int .u32 (m : Nat)) := keep_cell HW.out hcell.1 hcell.2
      have ew : IntKind.i64.wrap ((K : Int) - 1) = (j : Nat) := by rw [IntWalk.i64_in _ (by have := HL.out; have := HN.out; omega)]; omega
      have hjl' : (j : Int) < N1 := by omega
      have HM := hide (show xs[j] = m ∧ K = j + 1 ∧ j < N1 from ⟨hm, hjK, hjl⟩)
      clear hcell hA hm hjK hjl
      by_cases e : m = 0
      · subst e
        have R : Hid (j ≤ N1 ∧ (∀ b ∈ xs.drop j, b = 0) ∧ j + 1 = gk) := hide (by
          obtain ⟨m1, m2, m3⟩ := HM.out
          refine ⟨by omega, wl_step (by have := HN.out; omega) (by rw [← m2]; exact HJ.out.2.2) m1, by have := HJ.out.1; omega⟩)
        clear HM HJ
        go_wp2
        go_roundg j
        case measure => have := R.out; omega
        case rel => exact ⟨j, rfl, hide ⟨rfl, R.out.1, R.out.2.1⟩, HW⟩
      · have t1 : ((m : Int) == 0) = false := by rw [beq_eq_false_iff_ne]; omega
        have R : Hid (Vg.WL xs K) := hide (by
          obtain ⟨m1, m2, m3⟩ := HM.out
          refine ⟨by have := HN.out; omega, HJ.out.2.2, fun h1 h2 => ?_⟩
          have : K - 1 = j := by omega
          simp only [this]
          omega)
        clear HM HJ e
        go_wp2
        go_ret
        exact ⟨_, rfl, R.out, HW.out⟩
    · have h0 : K = 0 := by omega
      subst h0
      have R : Hid (Vg.WL xs 0) := hide ⟨Nat.zero_le _, HJ.out.2.2, fun _ h => absurd h (by decide)⟩
      clear HJ c
      go_wp2
      go_ret
      exact ⟨_, rfl, R.out, HW.out⟩

set_option maxRecDepth 20000 in
set_option maxHeartbeats 4000000 in
theorem norm_any (a : Value) (xs : List Nat) (w : World) (ha : Rw w a xs) (hl : xs.length ≤ 35184372088831) : Calls Try.prog 38 #[a] w (TNa (Vg.nat32 xs) xs.length w) := by
  obtain ⟨i0, hi, hz0, hz1, hz2⟩ := info_parts info32
  have HL := hide hl
  have HA := hide ha
  obtain ⟨A1, c1, rfl⟩ := ha.len
  obtain ⟨N1, hN1⟩ : ∃ n, xs.length = n := ⟨_, rfl⟩
  rw [hN1]
  have HN := hide (show xs.length = N1 from hN1)
  clear hl ha hN1
  go_enter Try.func38, Try.ntmps38
  go_wp2_with fail
  go_loopg [3] N1 (fun k i wr => ∃ K : Nat, i = .int .i64 K ∧ Hid (K = k ∧ K ≤ N1 ∧ ∀ b ∈ xs.drop K, b = 0) ∧ Hid (Below w.heap.size w wr))
  case atStart => exact ⟨N1, rfl, hide ⟨rfl, Nat.le_refl _, fun b hb => by rw [List.drop_of_length_le (by have := HN.out; omega)] at hb; cases hb⟩, hide (Below.refl _ _)⟩
  case round =>
    obtain ⟨K, rfl, HJ, HW⟩ := hrel
    by_cases c : (0 : Int) < K
    · obtain ⟨j, hjK⟩ : ∃ j, K = j + 1 := ⟨K - 1, by omega⟩
      have hjl : j < N1 := by have := HJ.out.2.1; omega
      have hj : j < xs.length := by have := HN.out; omega
      obtain ⟨g, o, hA, hcell⟩ := HA.out.at hj
      obtain ⟨m, hm⟩ : ∃ m : Nat, xs[j] = m := ⟨_, rfl⟩
      rw [hm] at hcell
      obtain rfl : A1 = some ⟨g, o, none⟩ := hA _ _ (by rw [HN.out])
      have hc : wr.cell? ⟨g, o + j, none⟩ = some (.int .u32 (m : Nat)) := keep_cell HW.out hcell.1 hcell.2
      have ew : IntKind.i64.wrap ((K : Int) - 1) = (j : Nat) := by rw [IntWalk.i64_in _ (by have := HL.out; have := HN.out; omega)]; omega
      have hjl' : (j : Int) < N1 := by omega
      have HM := hide (show xs[j] = m ∧ K = j + 1 ∧ j < N1 from ⟨hm, hjK, hjl⟩)
      have AX : Hid (∀ g' o', some (⟨g, o, none⟩ : Addr) = some ⟨g', o', none⟩ → g = g' ∧ o = o') := hide (fun g' o' h => by injection h with h; injection h with h1 h2; exact ⟨h1, h2⟩)
      clear hcell hA hm hjK hjl
      by_cases e : m = 0
      · subst e
        have R : Hid (j ≤ N1 ∧ (∀ b ∈ xs.drop j, b = 0) ∧ j + 1 = gk) := hide (by
          obtain ⟨m1, m2, m3⟩ := HM.out
          refine ⟨by omega, wl_step (by have := HN.out; omega) (by rw [← m2]; exact HJ.out.2.2) m1, by have := HJ.out.1; omega⟩)
        clear HM HJ
        go_wp2
        go_roundg j
        case measure => have := R.out; omega
        case rel => exact ⟨j, rfl, hide ⟨rfl, R.out.1, R.out.2.1⟩, HW⟩
      · have t1 : ((m : Int) == 0) = false := by rw [beq_eq_false_iff_ne]; omega
        have R : Hid (Vg.WL xs K) := hide (by
          obtain ⟨m1, m2, m3⟩ := HM.out
          refine ⟨by have := HN.out; omega, HJ.out.2.2, fun h1 h2 => ?_⟩
          have : K - 1 = j := by omega
          simp only [this]
          omega)
        clear HM HJ e
        have hk1 : (K : Nat) ≤ N1 := by have := R.out.1; have := HN.out; omega
        go_wp2_with fail
        go_loopg [4, 5] K (fun k l i wr => ∃ j : Nat, i = .int .i64 j ∧ Hid (j + k = K) ∧ Hid (wr.ownsRow w.heap.size 78 1 l (xs.take j).length ((xs.take j).map wv) ∧ Below w.heap.size w wr))
        case atStart => exact ⟨0, rfl, hide (by omega), hide ⟨own_nil32, HW.out⟩⟩
        case round =>
          clear HW
          obtain ⟨j, rfl, HJ, HO⟩ := hrel
          by_cases c : (j : Int) < (K : Nat)
          · have hj : j < xs.length := by have := HN.out; omega
            obtain ⟨g, o, hA, hcell⟩ := HA.out.at hj
            obtain ⟨m, hm⟩ : ∃ m : Nat, xs[j] = m := ⟨_, rfl⟩
            rw [hm] at hcell
            obtain ⟨rfl, rfl⟩ := AX.out g o (hA _ _ (by rw [HN.out]))
            have e3 : some (⟨g, o, none⟩ : Addr) = some ⟨g, o, none⟩ := rfl
            have hc : wr.cell? ⟨g, o + j, none⟩ = some (.int .u32 (m : Nat)) := keep_cell HO.out.2 hcell.1 hcell.2
            have ew : IntKind.i64.wrap ((j : Int) + 1) = (j + 1 : Nat) := by rw [IntWalk.i64_in _ (by have := HL.out; have := HN.out; omega)]; rfl
            have hjN : (j : Int) < N1 := by omega
            have HM := hide hm
            clear hcell hA hm
            go_wp2_with (at_builtin; refine wpList_append_own _ rfl _ _ 43 rfl w.heap.size 78 i0 (.int .u32 0) 1 4 Try.underlying43 hi hz0 hz1 hz2 rfl (by decide) _ (xs.take j).length ((xs.take j).map wv) rfl (HO.out.1.alloc _) ⟨wr.heap.size, 0, none⟩ 1 1 [.int .u32 (m : Nat)] rfl rfl (by intro j u hj; rcases j with _ | j <;> simp at hj; subst hj; simp [Addr.add]) (by intro u hu; simp at hu; subst hu; rfl) (by have := HL.out; have := HN.out; rw [List.length_take]; unfold maxLen; omega) (by have := HL.out; have := HN.out; rw [List.length_take]; omega) (by have := HO.out.2.size; simp; omega) ?_; intro v' w1 hown' hgrow _)
            have R2 := hide (own_more32 HO.out.1 HO.out.2 hown' hgrow)
            clear hown' hgrow HO
            go_wp2
            go_roundg (K - (j + 1))
            case measure => have := HJ.out; omega
            case rel =>
              refine ⟨j + 1, by simp, hide (by have := HJ.out; omega), hide ?_⟩
              have := R2.out
              rw [List.take_succ_eq_append_getElem hj, HM.out]
              exact this
          · have hj : j = K := by have := HJ.out; omega
            have HE := hide hj
            go_wp2_with fail
            go_ret
            obtain rfl := HE.out
            exact ⟨_, xs.take _, rfl, Rw.own (HA.out.1.take _) HO.out.1, R.out.nat, by rw [List.length_take, Nat.min_eq_left R.out.1]; exact R.out.take, by rw [List.length_take]; omega, HO.out.2⟩
    · have h0 : K = 0 := by omega
      subst h0
      have R : Hid (Vg.WL xs 0) := hide ⟨Nat.zero_le _, HJ.out.2.2, fun _ h => absurd h (by decide)⟩
      clear HJ c
      have hk1 : (0 : Nat) ≤ N1 := by have := R.out.1; have := HN.out; omega
      go_wp2_with fail
      go_loopg [4, 5] 0 (fun k l i wr => ∃ j : Nat, i = .int .i64 j ∧ Hid (j + k = 0) ∧ Hid (wr.ownsRow w.heap.size 78 1 l (xs.take j).length ((xs.take j).map wv) ∧ Below w.heap.size w wr))
      case atStart => exact ⟨0, rfl, hide (by omega), hide ⟨own_nil32, HW.out⟩⟩
      case round =>
        clear HW
        obtain ⟨j, rfl, HJ, HO⟩ := hrel
        by_cases c : (j : Int) < (0 : Nat)
        · exact absurd c (by omega)
        · have hj : j = 0 := by have := HJ.out; omega
          have HE := hide hj
          go_wp2_with fail
          go_ret
          obtain rfl := HE.out
          exact ⟨_, xs.take _, rfl, Rw.own (HA.out.1.take _) HO.out.1, R.out.nat, by rw [List.length_take, Nat.min_eq_left R.out.1]; exact R.out.take, by rw [List.length_take]; omega, HO.out.2⟩
end Go.Proofs.Ytljnadoodbninaa
