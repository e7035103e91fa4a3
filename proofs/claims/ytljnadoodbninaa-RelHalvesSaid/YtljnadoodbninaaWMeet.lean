/- Contracts of the program's Intersect and Hull. -/
import Derived.Test.YtljnadoodbninaaWRelB
namespace Go.Proofs.Ytljnadoodbninaa
open Go.RowKit
theorem b_three {w : World} {a b c : Obj} : Below w.heap.size w (((w.alloc a).alloc b).alloc c) := b_two.alloc (by simp; omega) c

set_option maxRecDepth 20000 in
set_option maxHeartbeats 4000000 in
theorem hull_any (a b c d : Nat) (p q r s : Int) (hx : Vg.Rd a b p q) (hy : Vg.Rd c d r s) (w : World) :
    Calls Try.prog 20 #[.agg #[.float .f64 a, .float .f64 b], .agg #[.float .f64 c, .float .f64 d]] w (TI (Join p q r s) w) := by
  have hst := sto
  have HX := hide hx
  have HY := hide hy
  have P := hide (show (Vg.Pl p ∧ Vg.Pl q) ∧ Vg.Pl r ∧ Vg.Pl s from ⟨⟨hx.iv.lo, hx.iv.hi⟩, hy.iv.lo, hy.iv.hi⟩)
  have I := hide (show Vg.Iv p q ∧ Vg.Iv r s from ⟨hx.iv, hy.iv⟩)
  clear hx hy
  go_enter Try.func20, Try.ntmps20
  go_upto_region 1 with fail
  go_cut [] (fun  wx =>  w.heap.size + 2 < wx.heap.size ∧ wx.cell? ⟨w.heap.size, 0, none⟩ = some (.float .f64 (Vg.atn true p)) ∧ wx.cell? ⟨w.heap.size, 1, none⟩ = some (.float .f64 (Vg.atn true q)) ∧ wx.cell? ⟨w.heap.size + 1, 0, none⟩ = some (.float .f64 (Vg.atn true r)) ∧ wx.cell? ⟨w.heap.size + 1, 1, none⟩ = some (.float .f64 (Vg.atn true s)) ∧ wx.cell? ⟨w.heap.size + 1 + 1, 0, none⟩ = some (.float .f64 0) ∧ wx.cell? ⟨w.heap.size + 1 + 1, 1, none⟩ = some (.float .f64 0) ∧ wx.frozen? ⟨w.heap.size + 1 + 1, 0, none⟩ = false ∧ wx.frozen? ⟨w.heap.size + 1 + 1, 1, none⟩ = false ∧ Below w.heap.size w wx)
  case first =>
    go_wp2_with fail
    refine (both_any a b c d p q r s HX.out HY.out _).mono ?_; rintro e w1 ⟨k, rfl, hk, hb1⟩
    have k0 : w1.cell? ⟨w.heap.size, 0, none⟩ = some (.float .f64 a) := keep_cell hb1 (by first | (simp; done) | (simp; omega)) (by simp [go_sem])
    have k1 : w1.cell? ⟨w.heap.size, 1, none⟩ = some (.float .f64 b) := keep_cell hb1 (by first | (simp; done) | (simp; omega)) (by simp [go_sem])
    have k2 : w1.cell? ⟨w.heap.size + 1, 0, none⟩ = some (.float .f64 c) := keep_cell hb1 (by first | (simp; done) | (simp; omega)) (by simp [go_sem])
    have k3 : w1.cell? ⟨w.heap.size + 1, 1, none⟩ = some (.float .f64 d) := keep_cell hb1 (by first | (simp; done) | (simp; omega)) (by simp [go_sem])
    have f0 : w1.frozen? ⟨w.heap.size, 0, none⟩ = false := keep_free hb1 (by first | (simp; done) | (simp; omega)) (by simp [go_sem])
    have f1 : w1.frozen? ⟨w.heap.size, 1, none⟩ = false := keep_free hb1 (by first | (simp; done) | (simp; omega)) (by simp [go_sem])
    have f2 : w1.frozen? ⟨w.heap.size + 1, 0, none⟩ = false := keep_free hb1 (by first | (simp; done) | (simp; omega)) (by simp [go_sem])
    have f3 : w1.frozen? ⟨w.heap.size + 1, 1, none⟩ = false := keep_free hb1 (by first | (simp; done) | (simp; omega)) (by simp [go_sem])
    have k4 : w1.cell? ⟨w.heap.size + 1 + 1, 0, none⟩ = some (.float .f64 0) := keep_cell hb1 (by first | (simp; done) | (simp; omega)) (by simp [go_sem])
    have k5 : w1.cell? ⟨w.heap.size + 1 + 1, 1, none⟩ = some (.float .f64 0) := keep_cell hb1 (by first | (simp; done) | (simp; omega)) (by simp [go_sem])
    have f4 : w1.frozen? ⟨w.heap.size + 1 + 1, 0, none⟩ = false := keep_free hb1 (by first | (simp; done) | (simp; omega)) (by simp [go_sem])
    have f5 : w1.frozen? ⟨w.heap.size + 1 + 1, 1, none⟩ = false := keep_free hb1 (by first | (simp; done) | (simp; omega)) (by simp [go_sem])
    have z0 : w.heap.size + 2 < w1.heap.size := by have := hb1.size; simp at this; omega
    have g := b_three.trans (hb1.mono (by simp; omega))
    have HK := hide hk
    clear hb1 hk
    go_wp2_with fail
    go_meet
    refine ⟨?_, ?_, ?_, ?_, ?_, ?_, ?_, ?_, ?_, ?_⟩
    all_goals first | (simp [go_sem, *]; done) | exact (((g.setCell (by dsimp only; omega) _).setCell (by dsimp only; omega) _).setCell (by dsimp only; omega) _).setCell (by dsimp only; omega) _
  case rest =>
    obtain ⟨z0, k0, k1, k2, k3, k4, k5, f4, f5, g⟩ := hcut
    obtain ⟨x, hx⟩ : ∃ x, min p r = x := ⟨_, rfl⟩
    obtain ⟨y, hy⟩ : ∃ y, max q s = y := ⟨_, rfl⟩
    have m1 := run_min_pl P.out.1.1 P.out.2.1 hx
    have m2 := run_max_pl P.out.1.2 P.out.2.2 hy
    have HR : Hid (Join p q r s x y) := hide ⟨hx.symm, hy.symm⟩
    clear hx hy
    go_wp2
    exact bodyPost_ret (v := .agg #[.float .f64 (Vg.atn true x), .float .f64 (Vg.atn true y)]) (by simp [results, Try.results20, go_sem, k4, k5]) rfl ⟨_, _, rfl, HR.out, (g.setCell (by dsimp only; omega) _).setCell (by dsimp only; omega) _⟩

set_option maxRecDepth 20000 in
set_option maxHeartbeats 4000000 in
theorem meet_any (a b c d : Nat) (p q r s : Int) (hx : Vg.Rd a b p q) (hy : Vg.Rd c d r s) (w : World) :
    Calls Try.prog 23 #[.agg #[.float .f64 a, .float .f64 b], .agg #[.float .f64 c, .float .f64 d]] w (TI (Meet p q r s) w) := by
  have hst := sto
  have HX := hide hx
  have HY := hide hy
  have P := hide (show (Vg.Pl p ∧ Vg.Pl q) ∧ Vg.Pl r ∧ Vg.Pl s from ⟨⟨hx.iv.lo, hx.iv.hi⟩, hy.iv.lo, hy.iv.hi⟩)
  have I := hide (show Vg.Iv p q ∧ Vg.Iv r s from ⟨hx.iv, hy.iv⟩)
  clear hx hy
  go_enter Try.func23, Try.ntmps23
  go_upto_region 1 with fail
  go_cut [5] (fun v wx => (∃ k : Int, v = .int .i64 k ∧ Kk p q r s k) ∧  w.heap.size + 2 < wx.heap.size ∧ wx.cell? ⟨w.heap.size, 0, none⟩ = some (.float .f64 (Vg.atn true p)) ∧ wx.cell? ⟨w.heap.size, 1, none⟩ = some (.float .f64 (Vg.atn true q)) ∧ wx.cell? ⟨w.heap.size + 1, 0, none⟩ = some (.float .f64 (Vg.atn true r)) ∧ wx.cell? ⟨w.heap.size + 1, 1, none⟩ = some (.float .f64 (Vg.atn true s)) ∧ wx.cell? ⟨w.heap.size + 1 + 1, 0, none⟩ = some (.float .f64 0) ∧ wx.cell? ⟨w.heap.size + 1 + 1, 1, none⟩ = some (.float .f64 0) ∧ wx.frozen? ⟨w.heap.size + 1 + 1, 0, none⟩ = false ∧ wx.frozen? ⟨w.heap.size + 1 + 1, 1, none⟩ = false ∧ Below w.heap.size w wx)
  case first =>
    go_wp2_with fail
    refine (both_any a b c d p q r s HX.out HY.out _).mono ?_; rintro e w1 ⟨k, rfl, hk, hb1⟩
    have k0 : w1.cell? ⟨w.heap.size, 0, none⟩ = some (.float .f64 a) := keep_cell hb1 (by first | (simp; done) | (simp; omega)) (by simp [go_sem])
    have k1 : w1.cell? ⟨w.heap.size, 1, none⟩ = some (.float .f64 b) := keep_cell hb1 (by first | (simp; done) | (simp; omega)) (by simp [go_sem])
    have k2 : w1.cell? ⟨w.heap.size + 1, 0, none⟩ = some (.float .f64 c) := keep_cell hb1 (by first | (simp; done) | (simp; omega)) (by simp [go_sem])
    have k3 : w1.cell? ⟨w.heap.size + 1, 1, none⟩ = some (.float .f64 d) := keep_cell hb1 (by first | (simp; done) | (simp; omega)) (by simp [go_sem])
    have f0 : w1.frozen? ⟨w.heap.size, 0, none⟩ = false := keep_free hb1 (by first | (simp; done) | (simp; omega)) (by simp [go_sem])
    have f1 : w1.frozen? ⟨w.heap.size, 1, none⟩ = false := keep_free hb1 (by first | (simp; done) | (simp; omega)) (by simp [go_sem])
    have f2 : w1.frozen? ⟨w.heap.size + 1, 0, none⟩ = false := keep_free hb1 (by first | (simp; done) | (simp; omega)) (by simp [go_sem])
    have f3 : w1.frozen? ⟨w.heap.size + 1, 1, none⟩ = false := keep_free hb1 (by first | (simp; done) | (simp; omega)) (by simp [go_sem])
    have k4 : w1.cell? ⟨w.heap.size + 1 + 1, 0, none⟩ = some (.float .f64 0) := keep_cell hb1 (by first | (simp; done) | (simp; omega)) (by simp [go_sem])
    have k5 : w1.cell? ⟨w.heap.size + 1 + 1, 1, none⟩ = some (.float .f64 0) := keep_cell hb1 (by first | (simp; done) | (simp; omega)) (by simp [go_sem])
    have f4 : w1.frozen? ⟨w.heap.size + 1 + 1, 0, none⟩ = false := keep_free hb1 (by first | (simp; done) | (simp; omega)) (by simp [go_sem])
    have f5 : w1.frozen? ⟨w.heap.size + 1 + 1, 1, none⟩ = false := keep_free hb1 (by first | (simp; done) | (simp; omega)) (by simp [go_sem])
    have z0 : w.heap.size + 2 < w1.heap.size := by have := hb1.size; simp at this; omega
    have g := b_three.trans (hb1.mono (by simp; omega))
    have HK := hide hk
    clear hb1 hk
    go_wp2_with fail
    go_meet
    refine ⟨⟨k, rfl, HK.out⟩, ?_, ?_, ?_, ?_, ?_, ?_, ?_, ?_, ?_, ?_⟩
    all_goals first | (simp [go_sem, *]; done) | exact (((g.setCell (by dsimp only; omega) _).setCell (by dsimp only; omega) _).setCell (by dsimp only; omega) _).setCell (by dsimp only; omega) _
  case rest =>
    obtain ⟨⟨k, rfl, hk⟩, z0, k0, k1, k2, k3, k4, k5, f4, f5, g⟩ := hcut
    obtain ⟨x, hx⟩ : ∃ x, max p r = x := ⟨_, rfl⟩
    obtain ⟨y, hy⟩ : ∃ y, min q s = y := ⟨_, rfl⟩
    have m1 := run_max_pl P.out.1.1 P.out.2.1 hx
    have m2 := run_min_pl P.out.1.2 P.out.2.2 hy
    have hxy : Vg.Pl x ∧ Vg.Pl y := by have := P.out; unfold Vg.Pl at this ⊢; omega
    rcases hk with ⟨rfl, c1, c2⟩ | ⟨rfl, c1, c2⟩ | ⟨rfl, c1, c2⟩ | ⟨rfl, c1, c2⟩
    · rcases Vg.tri hxy.1 hxy.2 with ⟨o, c⟩ | ⟨o, c⟩ | ⟨o, c⟩
      · have HR : Hid (Meet p q r s x y) := hide (.inr (by omega))
        clear c1 c2 c hx hy hxy
        go_wp2
        exact bodyPost_ret (v := .agg #[.float .f64 (Vg.atn true x), .float .f64 (Vg.atn true y)]) (by simp [results, Try.results23, go_sem, *]) rfl ⟨_, _, rfl, HR.out, ((g.setCell (by dsimp only; omega) _).setCell (by dsimp only; omega) _).alloc (by simp; omega) _⟩
      · have HR : Hid (Meet p q r s x y) := hide (.inr (by omega))
        clear c1 c2 c hx hy hxy
        go_wp2
        exact bodyPost_ret (v := .agg #[.float .f64 (Vg.atn true x), .float .f64 (Vg.atn true y)]) (by simp [results, Try.results23, go_sem, *]) rfl ⟨_, _, rfl, HR.out, ((g.setCell (by dsimp only; omega) _).setCell (by dsimp only; omega) _).alloc (by simp; omega) _⟩
      · have HR : Hid (Meet p q r s Vg.PI (-Vg.PI)) := hide (.inl (by omega))
        clear c1 c2 c hx hy hxy
        go_wp2_with fail
        refine (empty_any _).mono ?_; rintro e w2 ⟨rfl, hb2⟩
        have j4 : w2.cell? ⟨w.heap.size + 1 + 1, 0, none⟩ = some (.float .f64 0) := keep_cell hb2 (by simp; omega) (by simp [go_sem, *])
        have j5 : w2.cell? ⟨w.heap.size + 1 + 1, 1, none⟩ = some (.float .f64 0) := keep_cell hb2 (by simp; omega) (by simp [go_sem, *])
        have i4 : w2.frozen? ⟨w.heap.size + 1 + 1, 0, none⟩ = false := keep_free hb2 (by simp; omega) (by simp [go_sem, *])
        have i5 : w2.frozen? ⟨w.heap.size + 1 + 1, 1, none⟩ = false := keep_free hb2 (by simp; omega) (by simp [go_sem, *])
        have g2 := bch (g.alloc g.size _) hb2
        clear hb2 k0 k1 k2 k3 k4 k5 f4 f5
        go_wp2
        exact bodyPost_ret (v := .agg #[.float .f64 (Vg.atn true Vg.PI), .float .f64 (Vg.atn true (-Vg.PI))]) (by simp [results, Try.results23, go_sem, j4, j5]) rfl ⟨_, _, rfl, HR.out, (g2.setCell (by dsimp only; omega) _).setCell (by dsimp only; omega) _⟩

    all_goals
        have HR : Hid (Meet p q r s Vg.PI (-Vg.PI)) := hide (.inl ⟨by have := I.out; have := Vg.PI_pos; unfold Vg.Iv at this; omega, rfl, rfl⟩)
        clear c1 c2 hx hy hxy
        go_wp2_with fail
        refine (empty_any _).mono ?_; rintro e w2 ⟨rfl, hb2⟩
        have j4 : w2.cell? ⟨w.heap.size + 1 + 1, 0, none⟩ = some (.float .f64 0) := keep_cell hb2 (by simp; omega) (by simp [go_sem, *])
        have j5 : w2.cell? ⟨w.heap.size + 1 + 1, 1, none⟩ = some (.float .f64 0) := keep_cell hb2 (by simp; omega) (by simp [go_sem, *])
        have i4 : w2.frozen? ⟨w.heap.size + 1 + 1, 0, none⟩ = false := keep_free hb2 (by simp; omega) (by simp [go_sem, *])
        have i5 : w2.frozen? ⟨w.heap.size + 1 + 1, 1, none⟩ = false := keep_free hb2 (by simp; omega) (by simp [go_sem, *])
        have g2 := bch (g.alloc g.size _) hb2
        clear hb2 k0 k1 k2 k3 k4 k5 f4 f5
        go_wp2
        exact bodyPost_ret (v := .agg #[.float .f64 (Vg.atn true Vg.PI), .float .f64 (Vg.atn true (-Vg.PI))]) (by simp [results, Try.results23, go_sem, j4, j5]) rfl ⟨_, _, rfl, HR.out, (g2.setCell (by dsimp only; omega) _).setCell (by dsimp only; omega) _⟩


end Go.Proofs.Ytljnadoodbninaa
