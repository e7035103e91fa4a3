/- The program's PutBox. -/
import Derived.Test.YtaecbapflpejmaaWPkBoxPut
namespace Go.Proofs.Ytaecbapflpejmaa
open Go.RowKit
theorem splice_fill {L : List Value} {o : Nat} {a cs : List Value} (h1 : L.take o = a) (h2 : o + cs.length ≤ L.length) : (splice L o cs).take (o + cs.length) = a ++ cs := by
  have ha : a.length = o := by rw [← h1, List.length_take]; omega
  unfold splice
  rw [h1, ← List.append_assoc, List.take_append_of_le_length (by rw [List.length_append]; omega)]
  exact List.take_of_length_le (by rw [List.length_append]; omega)
set_option maxRecDepth 20000 in
set_option maxHeartbeats 8000000 in
theorem putBox_any (v : Value) (ps : List (Nat × Nat)) (w : World) (hR : RP encF w v ps) (hw : ∀ p ∈ ps, p.1 ≤ 18446744073709551615 ∧ p.2 ≤ 18446744073709551615) (hl : ps.length ≤ 281474976710656) : Calls Try.prog 14 #[v] w (TPB ps w) := by
  have hst := sto
  have HA := hide hR
  have HW := hide hw
  obtain ⟨A1, c1, rfl⟩ := hR.len
  obtain ⟨N1, hN1⟩ : ∃ n, ps.length = n := ⟨_, rfl⟩
  rw [hN1] at hl ⊢
  have HN := hide hN1
  have n1 : (N1 : Int) ≤ 281474976710656 := by omega
  clear hR hN1 hw hl
  by_cases h32 : 32 < N1
  · have t1 : decide ((32 : Int) < (N1 : Int)) = true := decide_eq_true (by omega)
    have t2 : decide (32 < N1) = true := decide_eq_true h32
    have H32 := hide (show 32 < ps.length by rw [HN.out]; exact h32)
    clear h32
    go_enter Try.func14, Try.ntmps14
    go_wp2_with fail
    go_ret2
    exact TPB.long H32.out (Below.refl _ _)
  · have t1 : decide ((32 : Int) < (N1 : Int)) = false := decide_eq_false (by omega)
    have t2 : decide (32 < N1) = false := decide_eq_false h32
    have m1 : (N1 : Int) ≤ 32 := by omega
    have ec : IntKind.u8.wrap (N1 : Int) = (N1 : Int) := by rw [IntKind.wrap_u8]; omega
    have H32 := hide (show ¬ 32 < ps.length by rw [HN.out]; exact h32)
    have hmk := run_make_row' (P := Try.prog) 26 5 (.int .u8 0) 1 Try.underlying26 infoB rfl .i64 .i64 (1 + 16 * N1) (by omega) (by omega) w
    rw [show ((1 + 16 * N1 : Nat) : Int) = 1 + 16 * (N1 : Int) by omega] at hmk
    have hZl := toList_madeCells_one (.int .u8 0) (1 + 16 * N1)
    obtain ⟨NB, hNB⟩ : ∃ n, 1 + 16 * N1 = n := ⟨_, rfl⟩
    rw [hNB] at hmk hZl
    have HNB := hide hNB
    have b1 : ((1 : Int) ≤ (NB : Int)) := by omega
    obtain ⟨Z, hZ⟩ : ∃ Z, madeCells #[Value.int .u8 0] NB = Z := ⟨_, rfl⟩
    rw [hZ] at hmk hZl
    have hh := heap_alloc_new w (.cells Z 5)
    have hc : (w.alloc (.cells Z 5)).cell? ⟨w.heap.size, 0, none⟩ = some (.int .u8 0) := by
      rw [cell_of_row _ w.heap.size 0 Z 5 (0, 0) hh, ← Array.getElem?_toList, hZl, List.getElem?_replicate, if_pos (by omega)]
    have hf : (w.alloc (.cells Z 5)).frozen? ⟨w.heap.size, 0, none⟩ = false := frozen_of_row _ w.heap.size 0 Z 5 hh
    have g0 : Below w.heap.size w (w.alloc (.cells Z 5)) := b_one
    generalize w.alloc (.cells Z 5) = W1 at *
    have hh2 := heap_setCell_same W1 w.heap.size 0 Z 5 (.int .u8 (N1 : Int)) hh
    have gs := g0.setCell (p := ⟨w.heap.size, 0, none⟩) (Nat.le_refl _) (.int .u8 (N1 : Int))
    have H0 : Hid ((W1.setCell ⟨w.heap.size, 0, none⟩ (.int .u8 (N1 : Int))).heap[w.heap.size]? = some (.cells (Z.toList.set 0 (.int .u8 (N1 : Int))).toArray 5 (0, 0)) ∧ (Z.toList.set 0 (.int .u8 (N1 : Int))).length = NB ∧ (Z.toList.set 0 (.int .u8 (N1 : Int))).take (1 + 16 * 0) = (N1 :: pbs (ps.take 0)).map bv) := hide ⟨by
        rw [hh2, ← Array.toList_setIfInBounds], by rw [List.length_set, hZl, List.length_replicate], by
        rw [hZl]
        obtain ⟨q, hq⟩ : ∃ q, NB = q + 1 := ⟨NB - 1, by omega⟩
        rw [hq, List.replicate_succ]; rfl⟩
    have G0 := hide gs
    clear h32 hh hh2 hZ hZl hNB gs g0
    go_enter Try.func14, Try.ntmps14
    go_wp2_with fail
    go_loopg [23] N1 (fun k i wr => ∃ (j : Nat) (L : List Value), i = .int .i64 j ∧ Hid (j + k = N1) ∧ Hid (wr.heap[w.heap.size]? = some (.cells L.toArray 5 (0, 0)) ∧ L.length = NB ∧ L.take (1 + 16 * j) = (N1 :: pbs (ps.take j)).map bv) ∧ Hid (Below w.heap.size w wr))
    case atStart => exact ⟨0, _, rfl, hide (by omega), H0, G0⟩
    case round =>
      obtain ⟨j, L, rfl, HJ, HO, HG⟩ := hrel
      by_cases c : (j : Int) < N1
      · have hj : j < ps.length := by have := HN.out; omega
        obtain ⟨g, o, hA, hz, k0, k1⟩ := HA.out.at hj
        have hwj := HW.out ps[j] (List.getElem_mem hj)
        have hrd := rdq_of ps[j] hwj.1 hwj.2
        obtain ⟨p, hp⟩ : ∃ p, (rdq ps[j]).1 = p := ⟨_, rfl⟩
        obtain ⟨q, hq⟩ : ∃ q, (rdq ps[j]).2 = q := ⟨_, rfl⟩
        have hys : pby ps[j] = nby 8 (Vg.atn true p) ++ nby 8 (Vg.atn true q) := by unfold pby; rw [hp, hq]
        rw [hp, hq] at hrd
        obtain ⟨a, ha⟩ : ∃ m : Nat, ps[j].1 = m := ⟨_, rfl⟩
        obtain ⟨b, hb⟩ : ∃ m : Nat, ps[j].2 = m := ⟨_, rfl⟩
        rw [ha, hb] at hrd
        have C1 := fun w => read_any a b p q hrd w
        have C2 := fun w => put_any (Vg.atn true p) (Vg.atn true q) (Vg.atn_le hrd.iv.lo) (Vg.atn_le hrd.iv.hi) w
        rw [ha] at k0
        rw [hb] at k1
        have HY := hide hys
        obtain rfl : A1 = some ⟨g, o, none⟩ := hA _ _ (by rw [HN.out])
        have gW := HG.out
        have k0 : wr.cell? ⟨g, o + j * 2, none⟩ = some (.float .f64 a) := keep_cell gW hz k0
        have k1 : wr.cell? ⟨g, o + j * 2 + 1, none⟩ = some (.float .f64 b) := keep_cell gW hz k1
        have ew : IntKind.i64.wrap ((j : Int) + 1) = (j + 1 : Nat) := by rw [IntWalk.i64_in _ (by omega)]; rfl
        have ew1 : IntKind.i64.wrap (16 * (j : Int)) = 16 * (j : Int) := IntWalk.i64_in _ (by omega)
        have ew2 : IntKind.i64.wrap (1 + 16 * (j : Int)) = 1 + 16 * (j : Int) := IntWalk.i64_in _ (by omega)
        have x1 : (0 : Int) ≤ 1 + 16 * (j : Int) := by omega
        have x2 : 1 + 16 * (j : Int) ≤ (NB : Int) := by have := HNB.out; omega
        have x3 : ¬ NB = 1 + 16 * j := by have := HNB.out; omega
        have xt : (1 + 16 * (j : Int)).toNat = 1 + 16 * j := by omega
        have HX := hide (show 1 + 16 * j + 16 ≤ NB by have := HNB.out; omega)
        have hgh := hide HO.out.1
        have zb : w.heap.size < wr.heap.size := by
          have := HO.out.1
          rcases Nat.lt_or_ge w.heap.size wr.heap.size with h | h
          · exact h
          · rw [Array.getElem?_eq_none h] at this; cases this
        clear hA ha hb hz hys hwj hrd hp hq
        go_wp2_with fail
        refine (C1 _).mono ?_; rintro e w2 ⟨rfl, hb2⟩
        have gb := bch (b_alloc gW _) hb2
        have hgh : Hid (w2.heap[w.heap.size]? = some (.cells L.toArray 5 (0, 0))) := hide ((hb2.block _ (by simp; omega)).trans ((Below.heap_alloc _ _ _ zb).trans hgh.out))
        have zb : w.heap.size < w2.heap.size := by have := hb2.size; simp at this; omega
        clear hb2 gW k0 k1 C1
        go_wp2_with fail
        refine (C2 _).mono ?_; rintro e w3 ⟨cf, hcf, rfl, hb3⟩
        have gb := bch gb hb3
        have hgh : Hid (w3.heap[w.heap.size]? = some (.cells L.toArray 5 (0, 0))) := hide ((hb3.block _ zb).trans hgh.out)
        have zb : w.heap.size < w3.heap.size := Nat.lt_of_lt_of_le zb hb3.size
        have HC := hide hcf
        clear hb3 C2 hcf
        go_upto_region 9 with fail
        have sc : Hid (∀ i, i < 16 → (w3.alloc (.cells #[.int .u8 (cf 0 : Nat), .int .u8 (cf 1 : Nat), .int .u8 (cf 2 : Nat), .int .u8 (cf 3 : Nat), .int .u8 (cf 4 : Nat), .int .u8 (cf 5 : Nat), .int .u8 (cf 6 : Nat), .int .u8 (cf 7 : Nat), .int .u8 (cf 8 : Nat), .int .u8 (cf 9 : Nat), .int .u8 (cf 10 : Nat), .int .u8 (cf 11 : Nat), .int .u8 (cf 12 : Nat), .int .u8 (cf 13 : Nat), .int .u8 (cf 14 : Nat), .int .u8 (cf 15 : Nat)] 56)).cell? ⟨w3.heap.size, i, none⟩ = some (.int .u8 (cf i : Nat))) := hide (by
          intro i hi
          obtain rfl | rfl | rfl | rfl | rfl | rfl | rfl | rfl | rfl | rfl | rfl | rfl | rfl | rfl | rfl | rfl : i = 0 ∨ i = 1 ∨ i = 2 ∨ i = 3 ∨ i = 4 ∨ i = 5 ∨ i = 6 ∨ i = 7 ∨ i = 8 ∨ i = 9 ∨ i = 10 ∨ i = 11 ∨ i = 12 ∨ i = 13 ∨ i = 14 ∨ i = 15 := by omega
          all_goals simp [go_sem])
        have hgh : Hid ((w3.alloc (.cells #[.int .u8 (cf 0 : Nat), .int .u8 (cf 1 : Nat), .int .u8 (cf 2 : Nat), .int .u8 (cf 3 : Nat), .int .u8 (cf 4 : Nat), .int .u8 (cf 5 : Nat), .int .u8 (cf 6 : Nat), .int .u8 (cf 7 : Nat), .int .u8 (cf 8 : Nat), .int .u8 (cf 9 : Nat), .int .u8 (cf 10 : Nat), .int .u8 (cf 11 : Nat), .int .u8 (cf 12 : Nat), .int .u8 (cf 13 : Nat), .int .u8 (cf 14 : Nat), .int .u8 (cf 15 : Nat)] 56)).heap[w.heap.size]? = some (.cells L.toArray 5 (0, 0))) := hide ((Below.heap_alloc _ _ _ zb).trans hgh.out)
        have gb := b_alloc gb (.cells #[.int .u8 (cf 0 : Nat), .int .u8 (cf 1 : Nat), .int .u8 (cf 2 : Nat), .int .u8 (cf 3 : Nat), .int .u8 (cf 4 : Nat), .int .u8 (cf 5 : Nat), .int .u8 (cf 6 : Nat), .int .u8 (cf 7 : Nat), .int .u8 (cf 8 : Nat), .int .u8 (cf 9 : Nat), .int .u8 (cf 10 : Nat), .int .u8 (cf 11 : Nat), .int .u8 (cf 12 : Nat), .int .u8 (cf 13 : Nat), .int .u8 (cf 14 : Nat), .int .u8 (cf 15 : Nat)] 56)
        obtain ⟨cs, hcs⟩ : ∃ cs, ((List.range 16).map fun i => Value.int .u8 (cf i : Nat)) = cs := ⟨_, rfl⟩
        have HS := hide hcs
        have hl : cs.length = 16 := by rw [← hcs]; simp
        have HL := hide hl
        have hbz : Hid (w3.heap.size < (w3.alloc (.cells #[.int .u8 (cf 0 : Nat), .int .u8 (cf 1 : Nat), .int .u8 (cf 2 : Nat), .int .u8 (cf 3 : Nat), .int .u8 (cf 4 : Nat), .int .u8 (cf 5 : Nat), .int .u8 (cf 6 : Nat), .int .u8 (cf 7 : Nat), .int .u8 (cf 8 : Nat), .int .u8 (cf 9 : Nat), .int .u8 (cf 10 : Nat), .int .u8 (cf 11 : Nat), .int .u8 (cf 12 : Nat), .int .u8 (cf 13 : Nat), .int .u8 (cf 14 : Nat), .int .u8 (cf 15 : Nat)] 56)).heap.size) := hide (by simp)
        clear hcs hl zb
        generalize w3.alloc (.cells #[.int .u8 (cf 0 : Nat), .int .u8 (cf 1 : Nat), .int .u8 (cf 2 : Nat), .int .u8 (cf 3 : Nat), .int .u8 (cf 4 : Nat), .int .u8 (cf 5 : Nat), .int .u8 (cf 6 : Nat), .int .u8 (cf 7 : Nat), .int .u8 (cf 8 : Nat), .int .u8 (cf 9 : Nat), .int .u8 (cf 10 : Nat), .int .u8 (cf 11 : Nat), .int .u8 (cf 12 : Nat), .int .u8 (cf 13 : Nat), .int .u8 (cf 14 : Nat), .int .u8 (cf 15 : Nat)] 56) = w4 at *
        generalize w3.heap.size = B4 at *
        go_region_law (refine step_copy_splice rfl (.tmp 35) (.tmp 36) 26 26 rfl 5 Try.underlying26 (by kernel_rfl) _ _ _ _ _ _ rfl rfl w.heap.size (1 + 16 * j) L 5 hgh.out cs (by rw [HL.out]; exact (Nat.min_eq_left (by have := HX.out; omega)).symm) (fun _ => ⟨rfl, _, rfl, fun j v hj => src16 HS.out sc.out hj⟩) (by have := HX.out; have := HO.out.2.1; have := HL.out; omega) (ones16 HS.out) w.heap.size w gb.drew (Nat.le_refl _) ?_; intro w5 hg5 hb5)
        all_goals
          have R5 := hide (show _ ∧ _ from ⟨hg5.out, hb5⟩)
          clear hg5 hb5
          go_wp2
          go_roundg (N1 - (j + 1))
          case measure => have := HJ.out; omega
          case rel =>
            refine ⟨j + 1, splice L (1 + 16 * j) cs, by simp, hide (by have := HJ.out; omega), hide ⟨R5.out.1, ?_, ?_⟩, hide R5.out.2⟩
            · rw [length_splice L _ cs (by have := HX.out; have := HO.out.2.1; have := HL.out; omega)]; exact HO.out.2.1
            · have h := splice_fill (cs := cs) HO.out.2.2 (by have := HX.out; have := HO.out.2.1; have := HL.out; omega)
              rw [HL.out, show 1 + 16 * j + 16 = 1 + 16 * (j + 1) by omega] at h
              rw [h, List.take_succ_eq_append_getElem hj, pbs_snoc, ← HS.out, ← bytes16 HC.out, HY.out]
              simp
      · have hj : j = N1 := by have := HJ.out; omega
        subst hj
        have HO' : Hid (wr.ownsRow w.heap.size 5 1 (.slice (some ⟨w.heap.size, 0, none⟩) NB NB) (ps.length :: pbs ps).length ((ps.length :: pbs ps).map bv) ∧ Below w.heap.size w wr) := hide (by
          have h := HO.out
          have hn := HN.out
          have hb := HNB.out
          have hpl := pbs_len ps
          have ht : ps.take j = ps := List.take_of_length_le (by omega)
          rw [ht] at h
          have e : (ps.length :: pbs ps).length = NB := by rw [List.length_cons, hpl]; omega
          rw [e, hn]
          refine ⟨⟨by rw [List.length_map, ← hn, e, Nat.mul_one], .inr ⟨w.heap.size, NB, L.toArray, rfl, Nat.le_refl _, h.1, Nat.le_refl _, by unfold maxLen; omega, by simpa using h.2.1, ?_⟩⟩, HG.out⟩
          rw [Nat.mul_one, ← h.2.2]
          show L.take NB = _
          rw [← hb])
        clear HO c
        go_wp2_with fail
        go_ret2
        exact TPB.mk H32.out HO'.out.1 HO'.out.2
end Go.Proofs.Ytaecbapflpejmaa
