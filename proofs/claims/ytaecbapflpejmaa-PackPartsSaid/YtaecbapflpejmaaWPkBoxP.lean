/- The program's GetBox. -/
import Derived.Test.YtaecbapflpejmaaWPkRow
import Derived.Test.YtaecbapflpejmaaWPkGetP
import Derived.Deep.Onto
namespace Go.Proofs.Ytaecbapflpejmaa
open Go.RowKit
/-- The bytes of the i-th interval of a box. -/
def chk (xs : List Nat) (i : Nat) : List Nat := (xs.drop (1 + 16 * i)).take 16
/-- The first k intervals of a box. -/
def bxs (xs : List Nat) (k : Nat) : List (Nat × Nat) := (List.range k).map fun i => (gLo (chk xs i), gHi (chk xs i))
theorem bxs_succ (xs : List Nat) (k : Nat) : bxs xs (k + 1) = bxs xs k ++ [(gLo (chk xs k), gHi (chk xs k))] := by simp [bxs, List.range_succ]
theorem bxs_len (xs : List Nat) (k : Nat) : (bxs xs k).length = k := by simp [bxs]
/-- Do the bytes begin with how many intervals there are? -/
def bHd (xs : List Nat) : Prop := 0 < xs.length ∧ xs.headD 0 ≤ 32 ∧ xs.length = 1 + 16 * xs.headD 0
instance (xs : List Nat) : Decidable (bHd xs) := inferInstanceAs (Decidable (_ ∧ _))
/-- Are these the bytes of a box? -/
def bOk (xs : List Nat) : Bool := decide (bHd xs) && (List.range (xs.headD 0)).all fun i => gOk (chk xs i)
/-- What is read of a box's bytes. -/
def bRd (xs : List Nat) : List (Nat × Nat) := if bOk xs then bxs xs (xs.headD 0) else []
theorem bRd_le (xs : List Nat) : (bRd xs).length ≤ 32 := by
  unfold bRd
  by_cases h : bOk xs = true
  · rw [if_pos h, bxs_len]
    unfold bOk at h
    rw [Bool.and_eq_true, decide_eq_true_iff] at h
    exact h.1.2.1
  · rw [if_neg h]; simp
def TBox (T : Nat) (enc : Nat → Value) (xs : List Nat) (w : World) (e : Ending) (w' : World) : Prop :=
  ∃ v, e = .returned (.tuple #[v, .int .i64 (if bOk xs then 0 else 130)]) ∧ w'.ownsRow w.heap.size T 2 v (bRd xs).length (fl enc (bRd xs)) ∧ Below w.heap.size w w'
theorem TBox.no {T : Nat} {enc : Nat → Value} {xs : List Nat} {w w' : World} (h : bOk xs = false) (hb : Below w.heap.size w w') : TBox T enc xs w (.returned (.tuple #[.slice none 0 0, .int .i64 130])) w' := by
  refine ⟨.slice none 0 0, by rw [h]; rfl, ?_, hb⟩
  unfold bRd; rw [h]
  exact World.ownsRow_nil _ _ _ _
theorem TBox.yes {T : Nat} {enc : Nat → Value} {xs : List Nat} {w w' : World} {v : Value} {k : Nat} (h : bHd xs) (hk : xs.headD 0 = k) (hall : ∀ i, i < k → gOk (chk xs i) = true) (ho : w'.ownsRow w.heap.size T 2 v (bxs xs k).length (fl enc (bxs xs k))) (hb : Below w.heap.size w w') : TBox T enc xs w (.returned (.tuple #[v, .int .i64 0])) w' := by
  subst hk
  have e : bOk xs = true := by
    unfold bOk
    rw [Bool.and_eq_true, decide_eq_true_iff, List.all_eq_true]
    exact ⟨h, fun i hi => hall i (List.mem_range.1 hi)⟩
  refine ⟨v, by rw [e]; rfl, ?_, hb⟩
  unfold bRd; rw [if_pos e]
  exact ho
theorem bOk_bad {xs : List Nat} {i : Nat} (hi : i < xs.headD 0) (h : gOk (chk xs i) = false) : bOk xs = false := by
  rw [← Bool.not_eq_true]
  intro h'
  unfold bOk at h'
  rw [Bool.and_eq_true, List.all_eq_true] at h'
  rw [h'.2 i (List.mem_range.2 hi)] at h; cases h
theorem bOk_hd {xs : List Nat} (h : ¬ bHd xs) : bOk xs = false := by unfold bOk; rw [decide_eq_false h]; rfl
theorem chk_lt {xs : List Nat} (hb : ∀ b ∈ xs, b < 256) (i : Nat) : ∀ b ∈ chk xs i, b < 256 := fun b h => hb b (List.mem_of_mem_drop (List.mem_of_mem_take h))
theorem hd_cell {w : World} {g o : Nat} {xs : List Nat} (hn : 0 < xs.length) (hc : ∀ i (h : i < xs.length), w.cell? ⟨g, o + i, none⟩ = some (bv xs[i])) : w.cell? ⟨g, o, none⟩ = some (.int .u8 (xs.headD 0 : Nat)) := by
  have := hc 0 hn
  rw [Nat.add_zero] at this
  rw [this]
  cases xs
  · simp at hn
  · rfl
theorem own_keep {w w' : World} {base T k : Nat} {v : Value} {n : Nat} {xs : List Value} (h : w.ownsRow base T k v n xs) (hb : Below w.heap.size w w') : w'.ownsRow base T k v n xs :=
  h.kept (row := none) ⟨hb.os, hb.tape, hb.output, hb.size, fun k hk _ => hb.block k hk⟩ (by cases hv : v.ownBlock <;> simp)
set_option maxRecDepth 20000 in
set_option maxHeartbeats 8000000 in
theorem getBox_any (v : Value) (xs : List Nat) (w : World) (hR : Rb w v xs) (hb : ∀ b ∈ xs, b < 256) (hl : xs.length ≤ 281474976710656) : Calls Try.prog 18 #[v] w (TBox 30 encF xs w) := by
  have hst := sto
  have HB := hide hb
  by_cases hn : 0 < xs.length
  · obtain ⟨g, o, c, rfl, hg, hc, hcap⟩ := hR.form hn
    have h0 := hd_cell hn hc
    have hm : xs.headD 0 < 256 := by
      cases xs
      · simp at hn
      · exact hb _ (by simp)
    have HC := hide hc
    have HG := hide hg
    obtain ⟨m, em⟩ : ∃ m, xs.headD 0 = m := ⟨_, rfl⟩
    obtain ⟨N, eN⟩ : ∃ n, xs.length = n := ⟨_, rfl⟩
    have HM := hide (show _ ∧ _ from ⟨em, eN⟩)
    rw [em] at h0 hm
    rw [eN] at hn hl hcap ⊢
    have n0 : (N == 0) = false := beq_eq_false_iff_ne.2 (by omega)
    have n0' : ((N : Int) == 0) = false := by rw [beq_eq_false_iff_ne]; omega
    have n1 : (0 : Int) < (N : Int) := by omega
    clear hR hb hg hc em eN
    by_cases h1 : 32 < m
    · have E := hide (bOk_hd (xs := xs) (fun h => by have := h.2.1; rw [HM.out.1] at this; omega))
      have t1 : decide ((32 : Int) < (m : Int)) = true := decide_eq_true (by omega)
      go_enter Try.func18, Try.ntmps18
      go_wp2_with fail
      go_ret2
      exact TBox.no E.out (Below.refl _ _)
    · have t1 : decide ((32 : Int) < (m : Int)) = false := decide_eq_false (by omega)
      by_cases h2 : N = 1 + 16 * m
      · have t2 : ((N : Int) == 1 + 16 * (m : Int)) = true := by rw [beq_iff_eq]; omega
        have t3 : ((N : Int) != 1 + 16 * (m : Int)) = false := by rw [bne_eq_false_iff_eq]; omega
        have m1 : (m : Int) ≤ 32 := by omega
        obtain ⟨i0, hi, hz0, hz1, hz2⟩ := info_parts infoI
        obtain ⟨W1, hmk, hown, hgr⟩ := run_make_own (P := Try.prog) w w.heap.size 37 30 i0 _ 2 Try.underlying37 hi hz0 hz1 .i64 .i64 m (by rw [hz2]; omega) (by unfold maxLen; omega) (Nat.le_refl _)
        have H1 : Hid (W1.ownsRow w.heap.size 30 2 (.slice (some ⟨w.heap.size, 0, none⟩) 0 m) (bxs xs 0).length (fl encF (bxs xs 0)) ∧ Below w.heap.size w W1) := hide ⟨hown, (Below.refl _ _).grown hgr (Nat.le_refl _) (fun j hj => by cases hj)⟩
        have HH := hide (show bHd xs ∧ N = 1 + 16 * m ∧ N ≤ c from ⟨⟨by rw [HM.out.2]; exact hn, by rw [HM.out.1]; omega, by rw [HM.out.1, HM.out.2]; exact h2⟩, h2, hcap⟩)
        have HI := hide (show _ ∧ _ ∧ _ ∧ _ from ⟨hi, hz0, hz1, hz2⟩)
        clear hown hgr h2 h1 hi hz0 hz1 hz2 hl
        go_enter Try.func18, Try.ntmps18
        go_wp2_with fail
        all_goals
          go_loopg [4, 5] m (fun k box rest wr => ∃ (j : Nat) (A : Option Addr) (n C : Nat), rest = .slice A n C ∧ Hid (j + k = m ∧ n = 16 * k ∧ (0 < k → A = some ⟨g, o + (1 + 16 * j), none⟩ ∧ 16 * k ≤ C) ∧ ∀ i, i < j → gOk (chk xs i) = true) ∧
            Hid (wr.ownsRow w.heap.size 30 2 box (bxs xs j).length (fl encF (bxs xs j)) ∧ Below w.heap.size w wr))
          case atStart => exact ⟨0, _, _, _, rfl, hide ⟨by omega, by have := HH.out.2; omega, fun h => ⟨by first | rfl | (exfalso; have := HH.out.2; omega), by have := HH.out.2; omega⟩, fun i hi => by omega⟩, H1⟩
          case round =>
            obtain ⟨j, A, n, C, rfl, HJ, HO⟩ := hrel
            cases gk with
            | zero =>
              obtain rfl : n = 0 := by have := HJ.out.2.1; omega
              obtain rfl : j = m := by have := HJ.out.1; omega
              go_wp2_with fail
              go_ret2
              exact TBox.yes HH.out.1 HM.out.1 HJ.out.2.2.2 HO.out.1 HO.out.2
            | succ t =>
              obtain ⟨rfl, hC⟩ := HJ.out.2.2.1 (by omega)
              have hnn := HJ.out.2.1
              have x1 : (16 : Int) ≤ (C : Int) := by omega
              have x2 : (16 : Int) ≤ (n : Int) := by omega
              have x3 : (0 : Int) < (n : Int) := by omega
              have x4 : decide ((0 : Int) < (n : Int)) = true := decide_eq_true x3
              have x5 : decide (0 < n) = true := decide_eq_true (by omega)
              have hjm : j < m := by have := HJ.out.1; omega
              have HX := hide (show j < m ∧ n = 16 * (t + 1) ∧ 16 * (t + 1) ≤ C from ⟨hjm, hnn, hC⟩)
              have hck : (chk xs j).length = 16 := by
                unfold chk
                rw [List.length_take, List.length_drop, HM.out.2]
                have := HH.out.2
                omega
              have G := (get_any (.slice (some ⟨g, o + (1 + 16 * j), none⟩) 16 16) (chk xs j) wr ((Rb.part HG.out HC.out (by omega) hck.symm).keep HO.out.2) (chk_lt HB.out j))
              clear hnn hC hjm hck
              cases hok : gOk (chk xs j)
              · have G := G.mono (fun _ _ h => h.no hok)
                have E := hide (bOk_bad (xs := xs) (by rw [HM.out.1]; exact HX.out.1) hok)
                clear hok
                go_wp2_with fail
                refine G.mono ?_; rintro e w2 ⟨rfl, hb2⟩
                have gb := bch HO.out.2 hb2
                clear hb2 G
                go_wp2_with fail
                go_ret2
                exact TBox.no E.out (gb.alloc gb.size _)
              · have G := G.mono (fun _ _ h => h.yes hok)
                have HK := hide hok
                clear hok
                obtain ⟨L, hL⟩ : ∃ L, gLo (chk xs j) = L := ⟨_, rfl⟩
                obtain ⟨H, hH⟩ : ∃ H, gHi (chk xs j) = H := ⟨_, rfl⟩
                have HLH := hide (show _ ∧ _ from ⟨hL, hH⟩)
                rw [hL, hH] at G
                clear hL hH
                have HJ' : Hid (j + (t + 1) = m ∧ ∀ i, i < j + 1 → gOk (chk xs i) = true) := hide ⟨HJ.out.1, fun i hi => by
                  by_cases e : i = j
                  · rw [e]; exact HK.out
                  · exact HJ.out.2.2.2 i (by omega)⟩
                go_wp2_with fail
                refine G.mono ?_; rintro e w2 ⟨rfl, hb2⟩
                have OK := hide (own_keep HO.out.1 hb2)
                have gb := bch HO.out.2 hb2
                clear hb2 G
                go_wp2_with (at_builtin; refine wpList_append_own _ rfl _ _ 37 rfl w.heap.size 30 i0 _ 2 16 Try.underlying37 HI.out.1 HI.out.2.1 HI.out.2.2.1 HI.out.2.2.2 rfl (by decide) _ (bxs xs j).length (fl encF (bxs xs j)) rfl ((OK.out.alloc _).alloc _) ⟨w2.heap.size + 1, 0, none⟩ 1 1 [.float .f64 L, .float .f64 H] rfl rfl (by intro j u hj; rcases j with _ | _ | j <;> simp at hj <;> subst hj <;> simp [Addr.add, go_sem]) (by intro u hu; simp at hu; rcases hu with rfl | rfl <;> rfl) (by rw [bxs_len]; unfold maxLen; have := HX.out.1; omega) (by rw [bxs_len]; have := HX.out.1; omega) (by have := gb.size; simp; omega) ?_; intro v' w5 hown' hgrow _)
                all_goals
                  have R := hide (ownp_more (p := (L, H)) ((OK.out.alloc _).alloc _) ((gb.alloc gb.size _).alloc (by have := gb.size; simp; omega) _) hown' hgrow)
                  clear hown' hgrow HO OK gb
                  go_wp2
                  go_roundg t
                  case measure => omega
                  case rel =>
                    refine ⟨j + 1, _, _, _, rfl, hide ⟨by have := HJ'.out.1; omega, by have := HX.out; omega, fun h => ⟨?_, by have := HX.out; omega⟩, HJ'.out.2⟩, hide ?_⟩
                    · first | (exfalso; have := HX.out; omega) | (congr 2; done) | (congr 2; omega)
                    · rw [bxs_succ, HLH.out.1, HLH.out.2]; exact R.out
      · have E := hide (bOk_hd (xs := xs) (fun h => by have := h.2.2; rw [HM.out.1, HM.out.2] at this; omega))
        have t2 : ((N : Int) == 1 + 16 * (m : Int)) = false := by rw [beq_eq_false_iff_ne]; omega
        have t3 : ((N : Int) != 1 + 16 * (m : Int)) = true := by rw [bne_iff_ne]; omega
        have m1 : (m : Int) ≤ 32 := by omega
        clear h2 h1
        go_enter Try.func18, Try.ntmps18
        go_wp2_with fail
        go_ret2
        exact TBox.no E.out (Below.refl _ _)
  · obtain rfl : xs = [] := List.eq_nil_of_length_eq_zero (by omega)
    obtain ⟨A, c, rfl⟩ := hR.len
    have E := hide (bOk_hd (xs := ([] : List Nat)) (fun h => by have := h.1; simp at this))
    clear hR hb hn hl HB
    rw [List.length_nil]
    go_enter Try.func18, Try.ntmps18
    go_wp2_with fail
    go_ret2
    exact TBox.no E.out (Below.refl _ _)
end Go.Proofs.Ytaecbapflpejmaa
