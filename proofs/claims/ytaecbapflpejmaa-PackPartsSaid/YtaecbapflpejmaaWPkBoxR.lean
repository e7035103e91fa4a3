/- The reference's GetBox. -/
import Derived.Test.YtaecbapflpejmaaWPkBoxP
import Derived.Test.YtaecbapflpejmaaWPkGetR
namespace Go.Proofs.Ytaecbapflpejmaa
open Go.RowKit
set_option maxRecDepth 20000 in
set_option maxHeartbeats 8000000 in
theorem rgetBox_any (v : Value) (xs : List Nat) (w : World) (hR : Rb w v xs) (hb : ∀ b ∈ xs, b < 256) (hl : xs.length ≤ 281474976710656) : Calls Try.prog 16 #[v] w (TBox 24 encU xs w) := by
  have HB := hide hb
  by_cases hn : 0 < xs.length
  · obtain ⟨g, o, c, rfl, hg, hc, hcap⟩ := hR.form hn
    have h0 := hd_cell hn hc
    have hm : xs.headD 0 < 256 := by
      cases xs
      · simp at hn
      · exact hb _ (by simp)
    have HC := hide hc
    have HG := hide hg
    obtain ⟨m, em⟩ : ∃ m, xs.headD 0 = m := ⟨_, rfl⟩
    obtain ⟨N, eN⟩ : ∃ n, xs.length = n := ⟨_, rfl⟩
    have HM := hide (show _ ∧ _ from ⟨em, eN⟩)
    rw [em] at h0 hm
    rw [eN] at hn hl hcap ⊢
    have n0 : (N == 0) = false := beq_eq_false_iff_ne.2 (by omega)
    have n0' : ((N : Int) == 0) = false := by rw [beq_eq_false_iff_ne]; omega
    have n1 : (0 : Int) < (N : Int) := by omega
    clear hR hb hg hc em eN
    by_cases h1 : 32 < m
    · have E := hide (bOk_hd (xs := xs) (fun h => by have := h.2.1; rw [HM.out.1] at this; omega))
      have t1 : decide ((32 : Int) < (m : Int)) = true := decide_eq_true (by omega)
      go_enter Try.func16, Try.ntmps16
      go_wp2_with fail
      go_ret2
      exact TBox.no E.out (Below.refl _ _)
    · have t1 : decide ((32 : Int) < (m : Int)) = false := decide_eq_false (by omega)
      by_cases h2 : N = 1 + 16 * m
      · have t2 : ((N : Int) == 1 + 16 * (m : Int)) = true := by rw [beq_iff_eq]; omega
        have t3 : ((N : Int) != 1 + 16 * (m : Int)) = false := by rw [bne_eq_false_iff_eq]; omega
        have m1 : (m : Int) ≤ 32 := by omega
        obtain ⟨i0, hi, hz0, hz1, hz2⟩ := info_parts infoU
        have HH := hide (show bHd xs ∧ N = 1 + 16 * m ∧ N ≤ c from ⟨⟨by rw [HM.out.2]; exact hn, by rw [HM.out.1]; omega, by rw [HM.out.1, HM.out.2]; exact h2⟩, h2, hcap⟩)
        have HI := hide (show _ ∧ _ ∧ _ ∧ _ from ⟨hi, hz0, hz1, hz2⟩)
        clear h2 h1 hi hz0 hz1 hz2 hl
        go_enter Try.func16, Try.ntmps16
        go_wp2_with fail
        go_loopg [4, 5] m (fun k box i wr => ∃ (j : Nat), i = .int .i64 j ∧ Hid (j + k = m ∧ ∀ i, i < j → gOk (chk xs i) = true) ∧
            Hid (wr.ownsRow w.heap.size 24 2 box (bxs xs j).length (fl encU (bxs xs j)) ∧ Below w.heap.size w wr))
        case atStart => exact ⟨0, rfl, hide ⟨by omega, fun i hi => by omega⟩, hide ⟨World.ownsRow_nil _ _ _ _, Below.refl _ _⟩⟩
        case round =>
          obtain ⟨j, rfl, HJ, HO⟩ := hrel
          have hc0 : wr.cell? ⟨g, o, none⟩ = some (.int .u8 (m : Nat)) := keep_cell HO.out.2 HG.out h0
          cases gk with
          | zero =>
            obtain rfl : j = m := by have := HJ.out.1; omega
            go_wp2_with fail
            go_ret2
            exact TBox.yes HH.out.1 HM.out.1 HJ.out.2 HO.out.1 HO.out.2
          | succ t =>
            have hjm : j < m := by have := HJ.out.1; omega
            have x1 : ((1 : Int) + 16 * (j : Int)) ≤ 17 + 16 * (j : Int) := by omega
            have x2 : ((17 : Int) + 16 * (j : Int)) ≤ (c : Int) := by have := HH.out.2; omega
            have x3 : ((17 : Int) + 16 * (j : Int)) ≤ (N : Int) := by have := HH.out.2; omega
            have x4 : decide ((j : Int) < (m : Int)) = true := decide_eq_true (by omega)
            have j1 : (j : Int) ≤ 31 := by omega
            have HX := hide (show j < m ∧ 17 + 16 * j ≤ c from ⟨hjm, by have := HH.out.2; omega⟩)
            have hck : (chk xs j).length = 16 := by
              unfold chk
              rw [List.length_take, List.length_drop, HM.out.2]
              have := HH.out.2
              omega
            have G := rget_any (.slice (some ⟨g, o + (1 + 16 * j), none⟩) (17 + 16 * j - (1 + 16 * j)) (c - (1 + 16 * j))) (chk xs j) wr ((Rb.part HG.out HC.out (by have := HX.out; omega) (by rw [show (xs.drop (1 + 16 * j)).take 16 = chk xs j from rfl, hck]; omega)).keep HO.out.2) (chk_lt HB.out j)
            have x5 : decide (j < m) = true := decide_eq_true hjm
            have x6 : ¬ c = 1 + 16 * j := by have := HX.out; omega
            have ew : IntKind.i64.wrap ((j : Int) + 1) = (j + 1 : Nat) := by rw [IntWalk.i64_in _ (by omega)]; rfl
            clear hjm hck
            cases hok : gOk (chk xs j)
            · have G := G.mono (fun _ _ h => h.no hok)
              have E := hide (bOk_bad (xs := xs) (by rw [HM.out.1]; exact HX.out.1) hok)
              clear hok
              go_wp2_with fail
              refine G.mono ?_; rintro e w2 ⟨rfl, hb2⟩
              have gb := bch HO.out.2 hb2
              clear hb2 G
              go_wp2_with fail
              go_ret2
              exact TBox.no E.out (gb.alloc gb.size _)
            · have G := G.mono (fun _ _ h => h.yes hok)
              have HK := hide hok
              clear hok
              obtain ⟨L, hL⟩ : ∃ L, gLo (chk xs j) = L := ⟨_, rfl⟩
              obtain ⟨H, hH⟩ : ∃ H, gHi (chk xs j) = H := ⟨_, rfl⟩
              have HLH := hide (show _ ∧ _ from ⟨hL, hH⟩)
              rw [hL, hH] at G
              clear hL hH
              have HJ' : Hid (j + (t + 1) = m ∧ ∀ i, i < j + 1 → gOk (chk xs i) = true) := hide ⟨HJ.out.1, fun i hi => by
                by_cases e : i = j
                · rw [e]; exact HK.out
                · exact HJ.out.2 i (by omega)⟩
              go_wp2_with fail
              refine G.mono ?_; rintro e w2 ⟨rfl, hb2⟩
              have OK := hide (own_keep HO.out.1 hb2)
              have gb := bch HO.out.2 hb2
              clear hb2 G
              go_wp2_with (at_builtin; refine wpList_append_own _ rfl _ _ 34 rfl w.heap.size 24 i0 _ 2 16 Try.underlying34 HI.out.1 HI.out.2.1 HI.out.2.2.1 HI.out.2.2.2 rfl (by decide) _ (bxs xs j).length (fl encU (bxs xs j)) rfl ((OK.out.alloc _).alloc _) ⟨w2.heap.size + 1, 0, none⟩ 1 1 [.int .u64 (L : Nat), .int .u64 (H : Nat)] rfl rfl (by intro j u hj; rcases j with _ | _ | j <;> simp at hj <;> subst hj <;> simp [Addr.add, go_sem]) (by intro u hu; simp at hu; rcases hu with rfl | rfl <;> rfl) (by rw [bxs_len]; unfold maxLen; have := HX.out.1; omega) (by rw [bxs_len]; have := HX.out.1; omega) (by have := gb.size; simp; omega) ?_; intro v' w5 hown' hgrow _)
              all_goals
                have R := hide (ownp_more (p := (L, H)) ((OK.out.alloc _).alloc _) ((gb.alloc gb.size _).alloc (by have := gb.size; simp; omega) _) hown' hgrow)
                clear hown' hgrow HO OK gb
                go_wp2
                go_roundg t
                case measure => omega
                case rel =>
                  refine ⟨j + 1, by simp, hide ⟨by have := HJ'.out.1; omega, HJ'.out.2⟩, hide ?_⟩
                  rw [bxs_succ, HLH.out.1, HLH.out.2]; exact R.out
      · have E := hide (bOk_hd (xs := xs) (fun h => by have := h.2.2; rw [HM.out.1, HM.out.2] at this; omega))
        have t2 : ((N : Int) == 1 + 16 * (m : Int)) = false := by rw [beq_eq_false_iff_ne]; omega
        have t3 : ((N : Int) != 1 + 16 * (m : Int)) = true := by rw [bne_iff_ne]; omega
        have m1 : (m : Int) ≤ 32 := by omega
        clear h2 h1
        go_enter Try.func16, Try.ntmps16
        go_wp2_with fail
        go_ret2
        exact TBox.no E.out (Below.refl _ _)
  · obtain rfl : xs = [] := List.eq_nil_of_length_eq_zero (by omega)
    obtain ⟨A, c, rfl⟩ := hR.len
    have E := hide (bOk_hd (xs := ([] : List Nat)) (fun h => by have := h.1; simp at this))
    clear hR hb hn hl HB
    rw [List.length_nil]
    go_enter Try.func16, Try.ntmps16
    go_wp2_with fail
    go_ret2
    exact TBox.no E.out (Below.refl _ _)
end Go.Proofs.Ytaecbapflpejmaa
