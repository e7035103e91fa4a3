/- Contracts of the reference's place and rows. -/
import Derived.Test.YtljnadoodbninaaWRefCuts
import Derived.Test.YtljnadoodbninaaKRelKinds
namespace Go.Proofs.Ytljnadoodbninaa
open Go.RowKit

theorem idx_hit {L : List Int} {u : Int} {i : Nat} (h : L.idxOf u = i + (L.drop i).idxOf u) (hi : i < L.length) (e : L[i] = u) : L.idxOf u = i := by
  rw [h, List.drop_eq_getElem_cons hi, List.idxOf_cons, e]; simp
theorem idx_miss {L : List Int} {u : Int} {i : Nat} (h : L.idxOf u = i + (L.drop i).idxOf u) (hi : i < L.length) (e : L[i] ≠ u) : L.idxOf u = (i + 1) + (L.drop (i + 1)).idxOf u := by
  have e' : (L[i] == u) = false := by simpa using e
  rw [h, List.drop_eq_getElem_cons hi, List.idxOf_cons, e']; simp; omega
theorem idx_end {L : List Int} {u : Int} {i : Nat} (h : L.idxOf u = i + (L.drop i).idxOf u) (hi : ¬ i < L.length) (hj : i ≤ L.length) : L.idxOf u = L.length := by
  rw [h, List.drop_eq_nil_of_le (by omega)]; simp; omega
theorem minus_eq {u : Int} (hu : Vg.Pl u) : (((Vg.atn true u : Nat) : Int) == 18442240474082181120) = decide (u = -Vg.PI) := by
  rw [← bot_int, Bool.eq_iff_iff, beq_iff_eq, decide_eq_true_iff]
  exact ⟨fun h => Vg.atn_inj hu Vg.pl_bot (by omega), fun h => by rw [h]⟩
theorem own_some {w : World} {base g n c : Nat} {L : List Int} (h : w.ownsRow base 22 1 (.slice (some ⟨g, 0, none⟩) n c) L.length (L.map pv)) (i : Nat) (hi : i < L.length) : w.cell? ⟨g, i, none⟩ = some (pv L[i]) := by
  have := h.cells (g := g) rfl i (pv L[i]) (by simp [hi])
  rw [← this]
  unfold Addr.add
  split <;> simp_all
set_option maxRecDepth 20000 in
set_option maxHeartbeats 4000000 in
theorem place_any (u : Int) (hu : Vg.Pl u) (L : List Int) (hL : ∀ x ∈ L, Vg.Pl x) (hl : L.length ≤ 4) (v : Value) (base : Nat) (w : World) (ho : w.ownsRow base 22 1 v L.length (L.map pv)) :
    Calls Try.prog 106 #[.int .u64 (Vg.atn true u : Nat), v] w fun e w' => e = .returned (.int .i64 (Vg.plc L u)) ∧ w = w' := by
  have hm := minus_eq hu
  by_cases h : u = -Vg.PI
  · have e : Vg.plc L u = 0 := if_pos h
    rw [e]
    rw [decide_eq_true h] at hm
    clear e h ho hL hl hu
    go_enter Try.func106, Try.ntmps106
    go_wp2
    go_ret
    exact ⟨rfl, rfl⟩
  · have e : Vg.plc L u = 4 * ((L.idxOf u : Nat) + 1) := if_neg h
    rw [decide_eq_false h] at hm
    have HO := hide ho
    obtain ⟨-, ⟨rfl, h0⟩ | ⟨g, c, cur, rfl, -⟩⟩ := ho
    · have e2 : Vg.plc L u = 4 := by rw [e, List.eq_nil_of_length_eq_zero h0]; rfl
      rw [e2]
      clear e2 e h hL hl HO h0 hu
      go_enter Try.func106, Try.ntmps106
      go_wp2_with fail
      go_loopg [5] 1 (fun k p wr => p = .int .i64 0 ∧ wr = w)
      case atStart => exact ⟨rfl, rfl⟩
      case round =>
        obtain ⟨rfl, rfl⟩ := hrel
        go_wp2
        go_ret
        exact ⟨rfl, rfl⟩
    · have HU := hide hu
      have HL := hide hL
      have E := hide e
      obtain ⟨N, hN⟩ : ∃ N, L.length = N := ⟨_, rfl⟩
      rw [hN] at hl ⊢
      have HN := hide (show L.length = N ∧ N ≤ 4 from ⟨hN, hl⟩)
      obtain ⟨XU, hX⟩ : ∃ n, Vg.atn true u = n := ⟨_, rfl⟩
      rw [hX] at hm ⊢
      have HX := hide hX
      clear e h hL hl hN hX hu
      go_enter Try.func106, Try.ntmps106
      go_wp2_with fail
      go_loopg [5] N (fun k p wr => ∃ i : Nat, p = .int .i64 i ∧ Hid (i + k = N ∧ L.idxOf u = i + (L.drop i).idxOf u) ∧ wr = w)
      case atStart => exact ⟨0, rfl, hide ⟨by omega, by simp⟩, rfl⟩
      case round =>
        obtain ⟨i, rfl, HI, rfl⟩ := hrel
        have ew : IntKind.i64.wrap ((i : Int) + 1) = (i + 1 : Nat) := by rw [IntWalk.i64_in _ (by have := HI.out; have := HN.out; omega)]; rfl
        by_cases c1 : (i : Int) < N
        · have hi : i < L.length := by have := HN.out; omega
          obtain ⟨y, hy⟩ : ∃ y, L[i] = y := ⟨_, rfl⟩
          have hc := own_some HO.out i hi
          rw [hy, pv] at hc
          have Y := hide hy
          have py : Vg.Pl y := HL.out y (by rw [← hy]; exact List.getElem_mem hi)
          have hq : (((Vg.atn true y : Nat) : Int) == (XU : Int)) = decide (y = u) := by
            rw [Bool.eq_iff_iff, beq_iff_eq, decide_eq_true_iff]
            constructor
            · intro h; exact Vg.atn_inj py HU.out (by rw [HX.out]; omega)
            · intro h; rw [h, HX.out]
          by_cases cy : y = u
          · have F := hide (idx_hit HI.out.2 hi (Y.out.trans cy))
            rw [decide_eq_true cy] at hq
            clear cy hy py
            go_wp2
            go_ret
            refine ⟨?_, rfl⟩
            rw [E.out, F.out]
            simp
            have := HI.out
            have := HN.out
            unfold wrap64
            omega
          · have F := hide (idx_miss HI.out.2 hi (by rw [Y.out]; exact cy))
            rw [decide_eq_false cy] at hq
            clear cy hy py
            go_wp2
            go_roundg (N - (i + 1))
            case measure => have := HI.out; omega
            case rel => exact ⟨i + 1, by simp, hide ⟨by have := HI.out; omega, F.out⟩, rfl⟩
        · have F := hide (idx_end HI.out.2 (by have := HN.out; omega) (by have := HI.out; have := HN.out; omega))
          go_wp2
          go_ret
          refine ⟨?_, rfl⟩
          rw [E.out, F.out, HN.out.1]
          simp
          have := HN.out
          unfold wrap64
          omega

theorem own_keep {w w' : World} {base n : Nat} {v : Value} {xs : List Value} (h : w.ownsRow base 22 1 v n xs) (k : Below w.heap.size w w') : w'.ownsRow base 22 1 v n xs := by
  obtain ⟨h1, h2 | ⟨g, c, cur, h3, h4, h5, h6⟩⟩ := h
  · exact ⟨h1, .inl h2⟩
  · refine ⟨h1, .inr ⟨g, c, cur, h3, h4, ?_, h6⟩⟩
    rw [k.block g (by rw [Array.getElem?_eq_some_iff] at h5; exact h5.1)]
    exact h5
theorem own_len {w : World} {base n : Nat} {v : Value} {xs : List Value} (h : w.ownsRow base 22 1 v n xs) : ∃ A c, v = .slice A n c := by
  obtain ⟨-, ⟨h2, h3⟩ | ⟨g, c, cur, h3, -⟩⟩ := h
  · exact ⟨_, _, by rw [h2, h3]⟩
  · exact ⟨_, _, h3⟩
theorem set_b {w0 w : World} {n k : Nat} {v : Value} (h : Below w0.heap.size w0 w) (hn : w0.heap.size ≤ n) : Below w0.heap.size w0 (w.setCell ⟨n, k, none⟩ v) := h.setCell hn v
theorem alloc_b {w0 w : World} {o : Obj} (h : Below w0.heap.size w0 w) : Below w0.heap.size w0 (w.alloc o) := h.alloc h.size o
/-- What rows tells. -/
def TRows (p q r s : Int) (w : World) (e : Ending) (w' : World) : Prop :=
  ∃ P Q R S n N M, e = .returned (.tuple #[.agg #[.bool N, .int .i64 P, .int .i64 Q], .agg #[.bool M, .int .i64 R, .int .i64 S], .int .i64 n]) ∧ Vg.Rws p q r s P Q R S n ∧ Fact N (q < p) ∧ Fact M (s < r) ∧ Below w.heap.size w w'
set_option maxRecDepth 20000 in
set_option maxHeartbeats 8000000 in
theorem rows_any (a b c d : Nat) (p q r s : Int) (hx : Vg.Rd a b p q) (hy : Vg.Rd c d r s) (w : World) :
    Calls Try.prog 80 #[.agg #[.int .u64 a, .int .u64 b], .agg #[.int .u64 c, .int .u64 d]] w (TRows p q r s w) := by
  have HX := hide hx
  have HY := hide hy
  clear hx hy
  go_enter Try.func80, Try.ntmps80
  go_upto_region 1 with fail
  have b0 : Below w.heap.size w ((((w.alloc (.cells #[.int .u64 a, .int .u64 b] 24)).alloc (.cells #[.int .u64 c, .int .u64 d] 24)).alloc (.cells #[.bool false, .int .i64 0, .int .i64 0] 81)).alloc (.cells #[.bool false, .int .i64 0, .int .i64 0] 81)) := b_three.alloc (by simp; omega) _
  generalize hW : ((((w.alloc (.cells #[.int .u64 a, .int .u64 b] 24)).alloc (.cells #[.int .u64 c, .int .u64 d] 24)).alloc (.cells #[.bool false, .int .i64 0, .int .i64 0] 81)).alloc (.cells #[.bool false, .int .i64 0, .int .i64 0] 81)) = W0 at *
  have c0 : W0.cell? ⟨w.heap.size, 0, none⟩ = some (.int .u64 a) := by subst hW; simp [go_sem]
  have c1 : W0.cell? ⟨w.heap.size, 1, none⟩ = some (.int .u64 b) := by subst hW; simp [go_sem]
  have c2 : W0.cell? ⟨w.heap.size + 1, 0, none⟩ = some (.int .u64 c) := by subst hW; simp [go_sem]
  have c3 : W0.cell? ⟨w.heap.size + 1, 1, none⟩ = some (.int .u64 d) := by subst hW; simp [go_sem]
  have rc0 : W0.cell? ⟨w.heap.size + 1 + 1, 0, none⟩ = some (.bool false) := by subst hW; simp [go_sem]
  have rf0 : W0.frozen? ⟨w.heap.size + 1 + 1, 0, none⟩ = false := by subst hW; simp [go_sem]
  have rc1 : W0.cell? ⟨w.heap.size + 1 + 1, 1, none⟩ = some (.int .i64 0) := by subst hW; simp [go_sem]
  have rf1 : W0.frozen? ⟨w.heap.size + 1 + 1, 1, none⟩ = false := by subst hW; simp [go_sem]
  have rc2 : W0.cell? ⟨w.heap.size + 1 + 1, 2, none⟩ = some (.int .i64 0) := by subst hW; simp [go_sem]
  have rf2 : W0.frozen? ⟨w.heap.size + 1 + 1, 2, none⟩ = false := by subst hW; simp [go_sem]
  have sc0 : W0.cell? ⟨w.heap.size + 1 + 1 + 1, 0, none⟩ = some (.bool false) := by subst hW; simp [go_sem]
  have sf0 : W0.frozen? ⟨w.heap.size + 1 + 1 + 1, 0, none⟩ = false := by subst hW; simp [go_sem]
  have sc1 : W0.cell? ⟨w.heap.size + 1 + 1 + 1, 1, none⟩ = some (.int .i64 0) := by subst hW; simp [go_sem]
  have sf1 : W0.frozen? ⟨w.heap.size + 1 + 1 + 1, 1, none⟩ = false := by subst hW; simp [go_sem]
  have sc2 : W0.cell? ⟨w.heap.size + 1 + 1 + 1, 2, none⟩ = some (.int .i64 0) := by subst hW; simp [go_sem]
  have sf2 : W0.frozen? ⟨w.heap.size + 1 + 1 + 1, 2, none⟩ = false := by subst hW; simp [go_sem]
  have sz : W0.heap.size = w.heap.size + 4 := by subst hW; simp
  clear hW
  go_cut [7] (fun v wx => Below W0.heap.size W0 wx ∧ ∃ B0 : Nat, v = .pointer (some ⟨B0, 0, none⟩) ∧ wx.cell? ⟨B0, 0, none⟩ = some (.int .u64 (Vg.atn true p : Nat)) ∧ wx.cell? ⟨B0, 1, none⟩ = some (.int .u64 (Vg.atn true q : Nat)) ∧ B0 < wx.heap.size)
  case first =>
    go_wp2_with fail
    refine (rread_any a b p q HX.out _).mono ?_; rintro e w2 ⟨rfl, hb⟩
    go_wp2_with fail
    go_meet
    refine ⟨alloc_b hb, _, rfl, ?_, ?_, ?_⟩
    all_goals (simp [go_sem]; done)
  case rest =>
  obtain ⟨g, B0, rfl, k00, k01, z0⟩ := hcut
  go_upto_region 2 with fail
  go_cut [8] (fun v wx => Below W0.heap.size W0 wx ∧ wx.cell? ⟨B0, 0, none⟩ = some (.int .u64 (Vg.atn true p : Nat)) ∧ wx.cell? ⟨B0, 1, none⟩ = some (.int .u64 (Vg.atn true q : Nat)) ∧ B0 < wx.heap.size ∧ ∃ B1 : Nat, v = .pointer (some ⟨B1, 0, none⟩) ∧ wx.cell? ⟨B1, 0, none⟩ = some (.int .u64 (Vg.atn true r : Nat)) ∧ wx.cell? ⟨B1, 1, none⟩ = some (.int .u64 (Vg.atn true s : Nat)) ∧ B1 < wx.heap.size)
  case first =>
    have c2' := keep_cell g (by rw [sz]; simp) c2
    have c3' := keep_cell g (by rw [sz]; simp) c3
    go_wp2_with fail
    refine (rread_any c d r s HY.out _).mono ?_; rintro e w2 ⟨rfl, hb⟩
    have k00 := keep_cell hb z0 k00
    have k01 := keep_cell hb z0 k01
    have z0 := Nat.lt_of_lt_of_le z0 hb.size
    have g := bch g hb
    clear c2' c3' hb
    go_wp2_with fail
    go_meet
    refine ⟨alloc_b g, ?_, ?_, ?_, _, rfl, ?_, ?_, ?_⟩
    all_goals first | exact keep_cell b_one (by dsimp only <;> omega) (by assumption) | (simp [go_sem, *]; done) | (simp; omega)
  case rest =>
  clear g k00 k01 z0
  obtain ⟨g, k00, k01, z0, B1, rfl, k10, k11, z1⟩ := hcut
  have PP := hide (show Vg.Pl p ∧ Vg.Pl q ∧ Vg.Pl r ∧ Vg.Pl s from ⟨HX.out.iv.lo, HX.out.iv.hi, HY.out.iv.lo, HY.out.iv.hi⟩)
  go_upto_region 3 with fail
  go_cut [9] (fun v wx => Below W0.heap.size W0 wx ∧ wx.cell? ⟨B0, 0, none⟩ = some (.int .u64 (Vg.atn true p : Nat)) ∧ wx.cell? ⟨B0, 1, none⟩ = some (.int .u64 (Vg.atn true q : Nat)) ∧ B0 < wx.heap.size ∧ wx.cell? ⟨B1, 0, none⟩ = some (.int .u64 (Vg.atn true r : Nat)) ∧ wx.cell? ⟨B1, 1, none⟩ = some (.int .u64 (Vg.atn true s : Nat)) ∧ B1 < wx.heap.size ∧ ∃ (L : List Int) (base : Nat), Hid (L.length ≤ 4 ∧ Vg.Full p q r s L) ∧ Hid (wx.ownsRow base 22 1 v L.length (L.map pv)))
  case first =>
    go_wp2_with fail
    refine (cuts_any p q r s PP.out _).mono ?_; rintro e w2 ⟨L, v, rfl, hown, hl, hf, hb⟩
    have k00 := keep_cell hb z0 k00
    have k01 := keep_cell hb z0 k01
    have k10 := keep_cell hb z1 k10
    have k11 := keep_cell hb z1 k11
    have z0 := Nat.lt_of_lt_of_le z0 hb.size
    have z1 := Nat.lt_of_lt_of_le z1 hb.size
    have g := bch g hb
    have HO := hide hown
    have HF := hide (show _ ∧ _ from ⟨hl, hf⟩)
    clear hb hown hl hf
    go_wp2_with fail
    go_meet
    exact ⟨g, k00, k01, z0, k10, k11, z1, _, _, HF, HO⟩
  case rest =>
  clear g k00 k01 z0 k10 k11 z1
  obtain ⟨g, k00, k01, z0, k10, k11, z1, L, base, HF, HO⟩ := hcut
  obtain ⟨N, gN⟩ := bool_of (q < p)
  obtain ⟨M, gM⟩ := bool_of (s < r)
  have GN : Fact N _ := gN
  have GM : Fact M _ := gM
  have HL4 := hide (show (∀ x ∈ L, Vg.Pl x) ∧ True from ⟨fun x hx => by have := HF.out.2.2.1 x hx; unfold Vg.Pl; omega, trivial⟩)
  have E1 := relKinds.eqU (a := Vg.atn true p) (b := Vg.atn true q) (c := Vg.atn true Vg.PI) (d := Vg.atn true (-Vg.PI)) N (by
    rw [gN, relKinds.pat_eq PP.out.1 PP.out.2.1 Vg.pl_top Vg.pl_bot]
    have i := HX.out.iv
    have := Vg.PI_pos
    unfold Vg.Iv at i
    constructor <;> intro h <;> omega)
  have E2 := relKinds.eqU (a := Vg.atn true r) (b := Vg.atn true s) (c := Vg.atn true Vg.PI) (d := Vg.atn true (-Vg.PI)) M (by
    rw [gM, relKinds.pat_eq PP.out.2.2.1 PP.out.2.2.2 Vg.pl_top Vg.pl_bot]
    have i := HY.out.iv
    have := Vg.PI_pos
    unfold Vg.Iv at i
    constructor <;> intro h <;> omega)
  have hm1 : Try.prog.eqGuardType Try.prog.depth 24 = false := by kernel_rfl
  clear gN gM
  go_upto_region 4 with fail
  obtain ⟨W, rfl⟩ : ∃ W, W = wc := ⟨_, rfl⟩
  have KS : Hid (∀ wx, Below W.heap.size W wx → Below W.heap.size W wx ∧ wx.cell? ⟨B0, 0, none⟩ = some (.int .u64 (Vg.atn true p : Nat)) ∧ wx.cell? ⟨B0, 1, none⟩ = some (.int .u64 (Vg.atn true q : Nat))) := hide fun wx h => ⟨h, keep_cell h z0 k00, keep_cell h z0 k01⟩
  go_cut [10] (fun v wx => Below W.heap.size W wx ∧ ∃ R0 : Nat, v = .pointer (some ⟨R0, 0, none⟩) ∧ wx.cell? ⟨R0, 0, none⟩ = some (.bool N) ∧ wx.cell? ⟨R0, 1, none⟩ = some (.int .i64 (Vg.plc L p)) ∧ wx.cell? ⟨R0, 2, none⟩ = some (.int .i64 (Vg.plc L q)) ∧ R0 < wx.heap.size ∧ W.heap.size ≤ R0)
  case first =>
    go_wp2_with fail
    go_region_held3 (fun wx => Below W.heap.size W wx ∧ wx.cell? ⟨B0, 0, none⟩ = some (.int .u64 (Vg.atn true p : Nat)) ∧ wx.cell? ⟨B0, 1, none⟩ = some (.int .u64 (Vg.atn true q : Nat)))
      (((try dsimp only); refine KS.out _ ?_; first | assumption | exact b_drew | (simp [*]; done) | exact bch (And.left (by assumption)) hb1 | exact alloc_b (And.left (by assumption)) | exact alloc_b (bch b_drew hb1) | exact set_b (set_b (set_b (And.left (by assumption)) (by first | (simp; done) | (have := hb1.size; simp at this ⊢; omega)) ) (by first | (simp; done) | (have := hb1.size; simp at this ⊢; omega))) (by first | (simp; done) | (have := hb1.size; simp at this ⊢; omega))))
      (first | (go_at_call 106; first | ((with_reducible refine (place_any p PP.out.1 L HL4.out.1 HF.out.1 u9 base _ (own_keep HO.out (And.left (by assumption)))).mono ?_); rintro e w' ⟨rfl, rfl⟩) | ((with_reducible refine (place_any q PP.out.2.1 L HL4.out.1 HF.out.1 u9 base _ (own_keep HO.out (And.left (by assumption)))).mono ?_); rintro e w' ⟨rfl, rfl⟩)) | (go_at_call 32; first | ((with_reducible refine (rempty_any (World.alloc _ _)).mono ?_); rintro e w' ⟨rfl, hb1⟩; have n0 : w'.cell? ⟨W.heap.size, 0, none⟩ = some (.bool false) := keep_cell hb1 (by simp) (by simp [go_sem]); have n1 : w'.cell? ⟨W.heap.size, 1, none⟩ = some (.int .i64 0) := keep_cell hb1 (by simp) (by simp [go_sem]); have n2 : w'.cell? ⟨W.heap.size, 2, none⟩ = some (.int .i64 0) := keep_cell hb1 (by simp) (by simp [go_sem]); have f0 : w'.frozen? ⟨W.heap.size, 0, none⟩ = false := keep_free hb1 (by simp) (by simp [go_sem]); have f1 : w'.frozen? ⟨W.heap.size, 1, none⟩ = false := keep_free hb1 (by simp) (by simp [go_sem]); have f2 : w'.frozen? ⟨W.heap.size, 2, none⟩ = false := keep_free hb1 (by simp) (by simp [go_sem])) | ((with_reducible refine (rempty_any (World.drew (World.alloc _ _))).mono ?_); rintro e w' ⟨rfl, hb1⟩; have n0 : w'.cell? ⟨W.heap.size, 0, none⟩ = some (.bool false) := keep_cell hb1 (by simp) (by simp [go_sem]); have n1 : w'.cell? ⟨W.heap.size, 1, none⟩ = some (.int .i64 0) := keep_cell hb1 (by simp) (by simp [go_sem]); have n2 : w'.cell? ⟨W.heap.size, 2, none⟩ = some (.int .i64 0) := keep_cell hb1 (by simp) (by simp [go_sem]); have f0 : w'.frozen? ⟨W.heap.size, 0, none⟩ = false := keep_free hb1 (by simp) (by simp [go_sem]); have f1 : w'.frozen? ⟨W.heap.size, 1, none⟩ = false := keep_free hb1 (by simp) (by simp [go_sem]); have f2 : w'.frozen? ⟨W.heap.size, 2, none⟩ = false := keep_free hb1 (by simp) (by simp [go_sem])) | ((with_reducible refine (rempty_any _).mono ?_); rintro e w' ⟨rfl, hb1⟩)))
    all_goals
      rename_i hh
      have HB := hh.1
      go_wp2_with fail
      go_meet
      refine ⟨HB, _, rfl, ?_, ?_, ?_, ?_, ?_⟩
      all_goals first | (simp [go_sem, *]; done) | (have := hb1.size; simp at this ⊢; omega)
  case rest =>
  obtain ⟨hB, R0, rfl, r00, r01, r02, zr, yr⟩ := hcut
  have yr0 : w.heap.size + 4 ≤ R0 := by have := g.size; omega
  have g := bch g hB
  have k10 := keep_cell hB z1 k10
  have k11 := keep_cell hB z1 k11
  have z1 := Nat.lt_of_lt_of_le z1 hB.size
  have HO := hide (own_keep HO.out hB)
  clear k00 k01 z0 KS hB
  go_upto_region 5 with fail
  obtain ⟨W2, rfl⟩ : ∃ W2, W2 = wc := ⟨_, rfl⟩
  have KS : Hid (∀ wx, Below W2.heap.size W2 wx → Below W2.heap.size W2 wx ∧ wx.cell? ⟨B1, 0, none⟩ = some (.int .u64 (Vg.atn true r : Nat)) ∧ wx.cell? ⟨B1, 1, none⟩ = some (.int .u64 (Vg.atn true s : Nat))) := hide fun wx h => ⟨h, keep_cell h z1 k10, keep_cell h z1 k11⟩
  go_cut [11] (fun v wx => Below W2.heap.size W2 wx ∧ ∃ R1 : Nat, v = .pointer (some ⟨R1, 0, none⟩) ∧ wx.cell? ⟨R1, 0, none⟩ = some (.bool M) ∧ wx.cell? ⟨R1, 1, none⟩ = some (.int .i64 (Vg.plc L r)) ∧ wx.cell? ⟨R1, 2, none⟩ = some (.int .i64 (Vg.plc L s)) ∧ R1 < wx.heap.size ∧ W2.heap.size ≤ R1)
  case first =>
    go_wp2_with fail
    go_region_held3 (fun wx => Below W2.heap.size W2 wx ∧ wx.cell? ⟨B1, 0, none⟩ = some (.int .u64 (Vg.atn true r : Nat)) ∧ wx.cell? ⟨B1, 1, none⟩ = some (.int .u64 (Vg.atn true s : Nat)))
      (((try dsimp only); refine KS.out _ ?_; first | assumption | exact b_drew | (simp [*]; done) | exact bch (And.left (by assumption)) hb1 | exact alloc_b (And.left (by assumption)) | exact alloc_b (bch b_drew hb1) | exact set_b (set_b (set_b (And.left (by assumption)) (by first | (simp; done) | (have := hb1.size; simp at this ⊢; omega)) ) (by first | (simp; done) | (have := hb1.size; simp at this ⊢; omega))) (by first | (simp; done) | (have := hb1.size; simp at this ⊢; omega))))
      (first | (go_at_call 106; first | ((with_reducible refine (place_any r PP.out.2.2.1 L HL4.out.1 HF.out.1 u9 base _ (own_keep HO.out (And.left (by assumption)))).mono ?_); rintro e w' ⟨rfl, rfl⟩) | ((with_reducible refine (place_any s PP.out.2.2.2 L HL4.out.1 HF.out.1 u9 base _ (own_keep HO.out (And.left (by assumption)))).mono ?_); rintro e w' ⟨rfl, rfl⟩)) | (go_at_call 32; first | ((with_reducible refine (rempty_any (World.alloc _ _)).mono ?_); rintro e w' ⟨rfl, hb1⟩; have n0 : w'.cell? ⟨W2.heap.size, 0, none⟩ = some (.bool false) := keep_cell hb1 (by simp) (by simp [go_sem]); have n1 : w'.cell? ⟨W2.heap.size, 1, none⟩ = some (.int .i64 0) := keep_cell hb1 (by simp) (by simp [go_sem]); have n2 : w'.cell? ⟨W2.heap.size, 2, none⟩ = some (.int .i64 0) := keep_cell hb1 (by simp) (by simp [go_sem]); have f0 : w'.frozen? ⟨W2.heap.size, 0, none⟩ = false := keep_free hb1 (by simp) (by simp [go_sem]); have f1 : w'.frozen? ⟨W2.heap.size, 1, none⟩ = false := keep_free hb1 (by simp) (by simp [go_sem]); have f2 : w'.frozen? ⟨W2.heap.size, 2, none⟩ = false := keep_free hb1 (by simp) (by simp [go_sem])) | ((with_reducible refine (rempty_any (World.drew (World.alloc _ _))).mono ?_); rintro e w' ⟨rfl, hb1⟩; have n0 : w'.cell? ⟨W2.heap.size, 0, none⟩ = some (.bool false) := keep_cell hb1 (by simp) (by simp [go_sem]); have n1 : w'.cell? ⟨W2.heap.size, 1, none⟩ = some (.int .i64 0) := keep_cell hb1 (by simp) (by simp [go_sem]); have n2 : w'.cell? ⟨W2.heap.size, 2, none⟩ = some (.int .i64 0) := keep_cell hb1 (by simp) (by simp [go_sem]); have f0 : w'.frozen? ⟨W2.heap.size, 0, none⟩ = false := keep_free hb1 (by simp) (by simp [go_sem]); have f1 : w'.frozen? ⟨W2.heap.size, 1, none⟩ = false := keep_free hb1 (by simp) (by simp [go_sem]); have f2 : w'.frozen? ⟨W2.heap.size, 2, none⟩ = false := keep_free hb1 (by simp) (by simp [go_sem])) | ((with_reducible refine (rempty_any _).mono ?_); rintro e w' ⟨rfl, hb1⟩)))
    all_goals
      rename_i hh
      have HB := hh.1
      go_wp2_with fail
      go_meet
      refine ⟨HB, _, rfl, ?_, ?_, ?_, ?_, ?_⟩
      all_goals first | (simp [go_sem, *]; done) | (have := hb1.size; simp at this ⊢; omega)
  case rest =>
  obtain ⟨hB, R1, rfl, r10, r11, r12, zs, ys⟩ := hcut
  have ys0 : w.heap.size + 4 ≤ R1 := by have := g.size; omega
  have g := bch g hB
  have r00 := keep_cell hB zr r00
  have r01 := keep_cell hB zr r01
  have r02 := keep_cell hB zr r02
  have HO := hide (own_keep HO.out hB)
  have rc0 := keep_cell g (by rw [sz]; simp) rc0
  have rc1 := keep_cell g (by rw [sz]; simp) rc1
  have rc2 := keep_cell g (by rw [sz]; simp) rc2
  have sc0 := keep_cell g (by rw [sz]; simp) sc0
  have sc1 := keep_cell g (by rw [sz]; simp) sc1
  have sc2 := keep_cell g (by rw [sz]; simp) sc2
  have rf0 := keep_free g (by rw [sz]; simp) rf0
  have rf1 := keep_free g (by rw [sz]; simp) rf1
  have rf2 := keep_free g (by rw [sz]; simp) rf2
  have sf0 := keep_free g (by rw [sz]; simp) sf0
  have sf1 := keep_free g (by rw [sz]; simp) sf1
  have sf2 := keep_free g (by rw [sz]; simp) sf2
  have bb : Below w.heap.size w wc := b0.trans (g.mono (by omega))
  obtain ⟨A, cc, rfl⟩ := own_len HO.out
  have RW := hide (HF.out.2.rws PP.out HF.out.1)
  obtain ⟨N4, h4⟩ : ∃ n, L.length = n := ⟨_, rfl⟩
  have e1 : IntKind.i64.wrap ((N4 : Int) + 1) = (N4 : Int) + 1 := IntWalk.i64_in _ (by have := HF.out.1; omega)
  have e2 : IntKind.i64.wrap (4 * ((N4 : Int) + 1)) = 4 * ((N4 : Int) + 1) := IntWalk.i64_in _ (by have := HF.out.1; omega)
  have e3 : wrap64 (4 * ((N4 : Int) + 1)) = 4 * ((N4 : Int) + 1) := by have := HF.out.1; unfold wrap64; omega
  rw [h4] at RW ⊢
  have H4 := hide h4
  have y0 : w.heap.size + 4 ≤ R0 := by have := yr0; omega
  have y1 := ys0
  clear k10 k11 z1 KS hB h4
  go_upto_region 6 with fail
  go_wp2_with fail
  go_region
  go_wp2_with fail
  exact bodyPost_ret (v := .tuple #[.agg #[.bool N, .int .i64 (Vg.plc L p), .int .i64 (Vg.plc L q)], .agg #[.bool M, .int .i64 (Vg.plc L r), .int .i64 (Vg.plc L s)], .int .i64 (4 * ((N4 : Int) + 1))])
    (by simp [results, Try.results80, go_sem, *]) rfl ⟨_, _, _, _, _, _, _, rfl, RW.out, GN, GM, ((((((bb.setCell (by dsimp only; omega) _).setCell (by dsimp only; omega) _).setCell (by dsimp only; omega) _).setCell (by dsimp only; omega) _).setCell (by dsimp only; omega) _).setCell (by dsimp only; omega) _).drew⟩
end Go.Proofs.Ytljnadoodbninaa
