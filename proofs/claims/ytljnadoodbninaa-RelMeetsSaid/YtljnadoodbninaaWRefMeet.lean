/- Contract of the reference's Intersect. -/
import Derived.Test.YtljnadoodbninaaWRefRels
import Derived.Test.YtljnadoodbninaaWMeet
namespace Go.Proofs.Ytljnadoodbninaa
open Go.RowKit
/-- An interval of two patterns that is told. -/
def TIU (R : Int → Int → Prop) (w : World) (e : Ending) (w' : World) : Prop := ∃ x y : Int, e = .returned (.agg #[.int .u64 (Vg.atn true x : Nat), .int .u64 (Vg.atn true y : Nat)]) ∧ R x y ∧ Below w.heap.size w w'
set_option maxRecDepth 20000 in
set_option maxHeartbeats 8000000 in
theorem rmeet_any (a b c d : Nat) (p q r s : Int) (hx : Vg.Rd a b p q) (hy : Vg.Rd c d r s) (w : World) :
    Calls Try.prog 24 #[.agg #[.int .u64 a, .int .u64 b], .agg #[.int .u64 c, .int .u64 d]] w (TIU (Meet p q r s) w) := by
  have HX := hide hx
  have HY := hide hy
  clear hx hy
  go_enter Try.func24, Try.ntmps24
  go_upto_region 1 with fail
  have b0 : Below w.heap.size w (((w.alloc (.cells #[.int .u64 a, .int .u64 b] 24)).alloc (.cells #[.int .u64 c, .int .u64 d] 24)).alloc (.cells #[.int .u64 0, .int .u64 0] 24)) := b_three
  generalize hW : (((w.alloc (.cells #[.int .u64 a, .int .u64 b] 24)).alloc (.cells #[.int .u64 c, .int .u64 d] 24)).alloc (.cells #[.int .u64 0, .int .u64 0] 24)) = W0 at *
  have c0 : W0.cell? ⟨w.heap.size, 0, none⟩ = some (.int .u64 a) := by subst hW; simp [go_sem]
  have c1 : W0.cell? ⟨w.heap.size, 1, none⟩ = some (.int .u64 b) := by subst hW; simp [go_sem]
  have c2 : W0.cell? ⟨w.heap.size + 1, 0, none⟩ = some (.int .u64 c) := by subst hW; simp [go_sem]
  have c3 : W0.cell? ⟨w.heap.size + 1, 1, none⟩ = some (.int .u64 d) := by subst hW; simp [go_sem]
  have r0 : W0.cell? ⟨w.heap.size + 1 + 1, 0, none⟩ = some (.int .u64 0) := by subst hW; simp [go_sem]
  have r1 : W0.cell? ⟨w.heap.size + 1 + 1, 1, none⟩ = some (.int .u64 0) := by subst hW; simp [go_sem]
  have f0 : W0.frozen? ⟨w.heap.size + 1 + 1, 0, none⟩ = false := by subst hW; simp [go_sem]
  have f1 : W0.frozen? ⟨w.heap.size + 1 + 1, 1, none⟩ = false := by subst hW; simp [go_sem]
  have sz : W0.heap.size = w.heap.size + 3 := by subst hW; simp
  clear hW
  go_cut [5] (fun v wx => Below W0.heap.size W0 wx ∧ ∃ B0 : Nat, v = .pointer (some ⟨B0, 0, none⟩) ∧ wx.cell? ⟨B0, 0, none⟩ = some (.int .u64 (Vg.atn true p : Nat)) ∧ wx.cell? ⟨B0, 1, none⟩ = some (.int .u64 (Vg.atn true q : Nat)) ∧ B0 < wx.heap.size ∧ W0.heap.size ≤ B0)
  case first =>
    go_wp2_with fail
    refine (rread_any a b p q HX.out _).mono ?_; rintro e w2 ⟨rfl, hb⟩
    have hz := hb.size
    go_wp2_with fail
    go_meet
    refine ⟨alloc_b hb, _, rfl, ?_, ?_, ?_, ?_⟩
    all_goals first | (simp [go_sem]; done) | omega | (simp; omega)
  case rest =>
  obtain ⟨g, B0, rfl, k00, k01, z0, y0⟩ := hcut
  go_upto_region 2 with fail
  go_cut [6] (fun v wx => Below W0.heap.size W0 wx ∧ wx.cell? ⟨B0, 0, none⟩ = some (.int .u64 (Vg.atn true p : Nat)) ∧ wx.cell? ⟨B0, 1, none⟩ = some (.int .u64 (Vg.atn true q : Nat)) ∧ B0 < wx.heap.size ∧ ∃ B1 : Nat, v = .pointer (some ⟨B1, 0, none⟩) ∧ wx.cell? ⟨B1, 0, none⟩ = some (.int .u64 (Vg.atn true r : Nat)) ∧ wx.cell? ⟨B1, 1, none⟩ = some (.int .u64 (Vg.atn true s : Nat)) ∧ B1 < wx.heap.size ∧ W0.heap.size ≤ B1)
  case first =>
    have c2' := keep_cell g (by rw [sz]; simp) c2
    have c3' := keep_cell g (by rw [sz]; simp) c3
    go_wp2_with fail
    refine (rread_any c d r s HY.out _).mono ?_; rintro e w2 ⟨rfl, hb⟩
    have k00 := keep_cell hb z0 k00
    have k01 := keep_cell hb z0 k01
    have z0 := Nat.lt_of_lt_of_le z0 hb.size
    have g := bch g hb
    have hz := g.size
    clear c2' c3' hb
    go_wp2_with fail
    go_meet
    refine ⟨alloc_b g, ?_, ?_, ?_, _, rfl, ?_, ?_, ?_, ?_⟩
    all_goals first | exact keep_cell b_one (by first | (dsimp only; omega) | omega) (by assumption) | (simp [go_sem, *]; done) | omega | (simp; omega)
  case rest =>
  clear g k00 k01 z0
  obtain ⟨g, k00, k01, z0, B1, rfl, k10, k11, z1, y1⟩ := hcut
  have I := hide (show Vg.Iv p q ∧ Vg.Iv r s from ⟨HX.out.iv, HY.out.iv⟩)
  obtain ⟨nd, gd⟩ := bool_of (min q s < max p r)
  have GD : Fact nd _ := gd
  have GE := hide gd
  obtain ⟨n1, e1⟩ : ∃ n, decide (p < r) = n := ⟨_, rfl⟩
  obtain ⟨n2, e2⟩ : ∃ n, decide (s < q) = n := ⟨_, rfl⟩
  have A1 := fun w => (rabove_any (Vg.atn true r) (Vg.atn true p) (Vg.atn_le I.out.2.lo) (Vg.atn_le I.out.1.lo) w).mono fun e w' h => (show e = .returned (.bool n1) ∧ w = w' from ⟨by rw [h.1, abv_atn I.out.2.lo I.out.1.lo, e1], h.2⟩)
  have A2 := fun w => (rabove_any (Vg.atn true q) (Vg.atn true s) (Vg.atn_le I.out.1.hi) (Vg.atn_le I.out.2.hi) w).mono fun e w' h => (show e = .returned (.bool n2) ∧ w = w' from ⟨by rw [h.1, abv_atn I.out.1.hi I.out.2.hi, e2], h.2⟩)
  have E1 := hide e1
  have E2 := hide e2
  clear gd e1 e2
  go_upto_region 3 with fail
  go_cut [14] (fun v wx => v = .bool nd ∧ Below W0.heap.size W0 wx ∧ wx.cell? ⟨B0, 0, none⟩ = some (.int .u64 (Vg.atn true p : Nat)) ∧ wx.cell? ⟨B0, 1, none⟩ = some (.int .u64 (Vg.atn true q : Nat)) ∧ B0 < wx.heap.size ∧ wx.cell? ⟨B1, 0, none⟩ = some (.int .u64 (Vg.atn true r : Nat)) ∧ wx.cell? ⟨B1, 1, none⟩ = some (.int .u64 (Vg.atn true s : Nat)) ∧ B1 < wx.heap.size)
  case first =>
    go_wp2_with fail
    refine ((rdisjoint_any _ _ _ _ p q r s (Vg.Rd.self I.out.1) (Vg.Rd.self I.out.2) _).mono (fun _ _ h => TB.bool GD h)).mono ?_; rintro e w2 ⟨rfl, hb⟩
    have k00 := keep_cell hb z0 k00
    have k01 := keep_cell hb z0 k01
    have k10 := keep_cell hb z1 k10
    have k11 := keep_cell hb z1 k11
    have z0 := Nat.lt_of_lt_of_le z0 hb.size
    have z1 := Nat.lt_of_lt_of_le z1 hb.size
    have g := bch g hb
    clear hb
    go_wp2_with fail
    go_meet
    exact ⟨rfl, g, k00, k01, z0, k10, k11, z1⟩
  case rest =>
  clear g k00 k01 z0 k10 k11 z1
  obtain ⟨rfl, g, k00, k01, z0, k10, k11, z1⟩ := hcut
  cases nd
  · have r0 := keep_cell g (by rw [sz]; simp) r0
    have r1 := keep_cell g (by rw [sz]; simp) r1
    have f0 := keep_free g (by rw [sz]; simp) f0
    have f1 := keep_free g (by rw [sz]; simp) f1
    have bb : Below w.heap.size w wc := b0.trans (g.mono (by omega))
    have ND := hide (show ¬ (min q s < max p r) from fun h => by have := GE.out.2 h; cases this)
    clear GD GE
    have hne : w.heap.size + 1 + 1 < wc.heap.size := by have := g.size; omega
    have pp : ∀ x y : Int, x = (if n1 then r else p) → y = (if n2 then s else q) → Meet p q r s x y := fun x y hx hy => .inr (by
      have := ND.out
      have := E1.out
      have := E2.out
      cases n1 <;> cases n2 <;> simp at * <;> omega)
    have PP := hide pp
    clear pp
    obtain ⟨XP, xp⟩ : ∃ n, Vg.atn true p = n := ⟨_, rfl⟩
    obtain ⟨XQ, xq⟩ : ∃ n, Vg.atn true q = n := ⟨_, rfl⟩
    obtain ⟨XR, xr⟩ : ∃ n, Vg.atn true r = n := ⟨_, rfl⟩
    obtain ⟨XS, xs⟩ : ∃ n, Vg.atn true s = n := ⟨_, rfl⟩
    have XX := hide (show _ ∧ _ ∧ _ ∧ _ from ⟨xp, xq, xr, xs⟩)
    rw [xp] at k00 A1
    rw [xq] at k01 A2
    rw [xr] at k10 A1
    rw [xs] at k11 A2
    clear xp xq xr xs
    cases n1 <;> cases n2
    · go_wp2_with (go_at_call 64; first | ((with_reducible refine (A1 _).mono ?_); rintro e w' ⟨rfl, rfl⟩) | ((with_reducible refine (A2 _).mono ?_); rintro e w' ⟨rfl, rfl⟩))
      refine bodyPost_ret (v := .agg #[.int .u64 (XP : Nat), .int .u64 (XQ : Nat)]) (by simp [results, Try.results24, go_sem, *]) rfl ⟨p, q, ?_, PP.out _ _ rfl rfl, ?_⟩
      · rw [XX.out.1, XX.out.2.1]
      · exact ((bb.setCell (by dsimp only; omega) _).setCell (by dsimp only; omega) _).alloc (by simp; omega) _
    · go_wp2_with (go_at_call 64; first | ((with_reducible refine (A1 _).mono ?_); rintro e w' ⟨rfl, rfl⟩) | ((with_reducible refine (A2 _).mono ?_); rintro e w' ⟨rfl, rfl⟩))
      refine bodyPost_ret (v := .agg #[.int .u64 (XP : Nat), .int .u64 (XS : Nat)]) (by simp [results, Try.results24, go_sem, *]) rfl ⟨p, s, ?_, PP.out _ _ rfl rfl, ?_⟩
      · rw [XX.out.1, XX.out.2.2.2]
      · exact ((bb.setCell (by dsimp only; omega) _).setCell (by dsimp only; omega) _).alloc (by simp; omega) _
    · go_wp2_with (go_at_call 64; first | ((with_reducible refine (A1 _).mono ?_); rintro e w' ⟨rfl, rfl⟩) | ((with_reducible refine (A2 _).mono ?_); rintro e w' ⟨rfl, rfl⟩))
      refine bodyPost_ret (v := .agg #[.int .u64 (XR : Nat), .int .u64 (XQ : Nat)]) (by simp [results, Try.results24, go_sem, *]) rfl ⟨r, q, ?_, PP.out _ _ rfl rfl, ?_⟩
      · rw [XX.out.2.2.1, XX.out.2.1]
      · exact ((bb.setCell (by dsimp only; omega) _).setCell (by dsimp only; omega) _).alloc (by simp; omega) _
    · go_wp2_with (go_at_call 64; first | ((with_reducible refine (A1 _).mono ?_); rintro e w' ⟨rfl, rfl⟩) | ((with_reducible refine (A2 _).mono ?_); rintro e w' ⟨rfl, rfl⟩))
      refine bodyPost_ret (v := .agg #[.int .u64 (XR : Nat), .int .u64 (XS : Nat)]) (by simp [results, Try.results24, go_sem, *]) rfl ⟨r, s, ?_, PP.out _ _ rfl rfl, ?_⟩
      · rw [XX.out.2.2.1, XX.out.2.2.2]
      · exact ((bb.setCell (by dsimp only; omega) _).setCell (by dsimp only; omega) _).alloc (by simp; omega) _
  · have DD := hide (GE.out.1 rfl)
    clear GD GE A1 A2
    go_wp2_with fail
    refine (rempty_any _).mono ?_; rintro e w2 ⟨rfl, hb⟩
    have g := bch g hb
    have r0 := keep_cell g (by rw [sz]; simp) r0
    have r1 := keep_cell g (by rw [sz]; simp) r1
    have f0 := keep_free g (by rw [sz]; simp) f0
    have f1 := keep_free g (by rw [sz]; simp) f1
    have bb : Below w.heap.size w w2 := b0.trans (g.mono (by omega))
    obtain ⟨XT, xt⟩ : ∃ n, Vg.atn true Vg.PI = n := ⟨_, rfl⟩
    obtain ⟨XB, xb⟩ : ∃ n, Vg.atn true (-Vg.PI) = n := ⟨_, rfl⟩
    rw [xt, xb]
    have XX := hide (show _ ∧ _ from ⟨xt, xb⟩)
    clear xt xb hb
    go_wp2_with fail
    refine bodyPost_ret (v := .agg #[.int .u64 (XT : Nat), .int .u64 (XB : Nat)]) (by simp [results, Try.results24, go_sem, *]) rfl ⟨Vg.PI, -Vg.PI, ?_, .inl ⟨DD.out, rfl, rfl⟩, (bb.setCell (by dsimp only; omega) _).setCell (by dsimp only; omega) _⟩
    rw [XX.out.1, XX.out.2]
end Go.Proofs.Ytljnadoodbninaa
