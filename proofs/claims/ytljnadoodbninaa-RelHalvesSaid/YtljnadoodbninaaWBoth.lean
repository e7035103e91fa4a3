/- The contract of 'both': two intervals as they are read, and which of them are empty. -/
import Derived.Test.YtljnadoodbninaaWIv
import Derived.Deep.DeepCutAuto
import Derived.Deep.CutRange
namespace Go.Proofs.Ytljnadoodbninaa
open Go.RowKit

theorem eqF (d : Nat) (a c : Nat) (w : World) : (Op.equalIn (d + 1) 26 (.float .f64 a) (.float .f64 c)).run Try.prog w = .ok (FloatKind.f64.format.order a c == some .eq) w := by
  simp [Op.equalIn, run_underlying Try.underlying26]
  rfl
/-- Two intervals of numbers are equal just where their ends are. -/
theorem eqI {a b c d : Nat} {x y : Bool} (h1 : (FloatKind.f64.format.order a c == some Ordering.eq) = x) (h2 : (FloatKind.f64.format.order b d == some Ordering.eq) = y) (w : World) :
    (Op.equalIn 10000 28 (.agg #[.float .f64 a, .float .f64 b]) (.agg #[.float .f64 c, .float .f64 d])).run Try.prog w = .ok (x && y) w := by
  have f1 := fun n => eqF n a c
  have f2 := fun n => eqF n b d
  have ag := Try.isAgg26
  have z := Try.sizeOf26
  have hS : Try.prog.underlying 28 = some (.struct (Try.prog.fieldsOf 28)) := by kernel_rfl
  have hp : Try.prog.stoodInHeld 28 = false := by kernel_rfl
  rw [show (10000 : Nat) = 9999 + 1 from rfl, run_equalIn_agg w 9999 28 _ _ hS hp]
  simp only [Program.fieldsOf, Try.underlying28]
  cases x <;> cases y
  all_goals go_simp
theorem eqPlaces {p q r s : Int} (hp : Vg.Pl p) (hq : Vg.Pl q) (hr : Vg.Pl r) (hs : Vg.Pl s) (n : Bool) (hn : decide (p = r ∧ q = s) = n) (w : World) :
    (Op.equalIn 10000 28 (.agg #[.float .f64 (Vg.atn true p), .float .f64 (Vg.atn true q)]) (.agg #[.float .f64 (Vg.atn true r), .float .f64 (Vg.atn true s)])).run Try.prog w = .ok n w := by
  rw [eqI rfl rfl, ← hn, Vg.order_places hp hr, Vg.order_places hq hs]
  congr 1
  rw [Bool.eq_iff_iff]
  simp only [Bool.and_eq_true, beq_iff_eq, Option.some.injEq, Int.compare_eq_eq, decide_eq_true_eq]

theorem or01 : bits .or .i64 0 1 = 1 := by decide +kernel
theorem or02 : bits .or .i64 0 2 = 2 := by decide +kernel
theorem or12 : bits .or .i64 1 2 = 3 := by decide +kernel
theorem b_4d {w : World} {a b c d : Obj} : Below w.heap.size w ((((w.alloc a).alloc b).alloc c).alloc d).drew := (((b_two.alloc (by simp; omega) c).alloc (by simp; omega) d)).drew
/-- How many of two that were read are empty. -/
def Kk (p q r s k : Int) : Prop := k = 0 ∧ p ≤ q ∧ r ≤ s ∨ k = 1 ∧ q < p ∧ r ≤ s ∨ k = 2 ∧ p ≤ q ∧ s < r ∨ k = 3 ∧ q < p ∧ s < r
def BothT (p q r s : Int) (w : World) (e : Ending) (w' : World) : Prop := ∃ k, e = .returned (.tuple #[.agg #[.float .f64 (Vg.atn true p), .float .f64 (Vg.atn true q)], .agg #[.float .f64 (Vg.atn true r), .float .f64 (Vg.atn true s)], .int .i64 k]) ∧ Kk p q r s k ∧ Below w.heap.size w w'

set_option maxRecDepth 20000 in
set_option maxHeartbeats 4000000 in
theorem both_any (a b c d : Nat) (p q r s : Int) (hx : Vg.Rd a b p q) (hy : Vg.Rd c d r s) (w : World) :
    Calls Try.prog 68 #[.agg #[.float .f64 a, .float .f64 b], .agg #[.float .f64 c, .float .f64 d]] w (BothT p q r s w) := by
  have hst := sto
  have HX := hide hx
  have HY := hide hy
  clear hx hy
  go_enter Try.func68, Try.ntmps68
  go_upto_region 1 with fail
  go_cut [] (fun wx => w.heap.size + 3 < wx.heap.size ∧ wx.cell? ⟨w.heap.size, 0, none⟩ = some (.float .f64 (Vg.atn true p)) ∧ wx.cell? ⟨w.heap.size, 1, none⟩ = some (.float .f64 (Vg.atn true q)) ∧ wx.cell? ⟨w.heap.size + 1, 0, none⟩ = some (.float .f64 (Vg.atn true r)) ∧ wx.cell? ⟨w.heap.size + 1, 1, none⟩ = some (.float .f64 (Vg.atn true s)) ∧
    wx.cell? ⟨w.heap.size + 1 + 1, 0, none⟩ = some (.float .f64 0) ∧ wx.cell? ⟨w.heap.size + 1 + 1, 1, none⟩ = some (.float .f64 0) ∧ wx.cell? ⟨w.heap.size + 1 + 1 + 1, 0, none⟩ = some (.float .f64 0) ∧ wx.cell? ⟨w.heap.size + 1 + 1 + 1, 1, none⟩ = some (.float .f64 0) ∧
    wx.frozen? ⟨w.heap.size + 1 + 1, 0, none⟩ = false ∧ wx.frozen? ⟨w.heap.size + 1 + 1, 1, none⟩ = false ∧ wx.frozen? ⟨w.heap.size + 1 + 1 + 1, 0, none⟩ = false ∧ wx.frozen? ⟨w.heap.size + 1 + 1 + 1, 1, none⟩ = false ∧ Below w.heap.size w wx)
  case first =>
    go_region_with (go_at_call 73; first | ((with_reducible refine (read_any a b p q HX.out _).mono ?_); rintro e w' ⟨rfl, hb1⟩; have g : Below w.heap.size w w' := (by first | exact bch g hb1 | exact bch b_4d hb1); have z0 : w.heap.size + 3 < w'.heap.size := (by have := hb1.size; (try simp at this); omega); have k0 : w'.cell? ⟨w.heap.size, 0, none⟩ = some (.float .f64 a) := keep_cell hb1 (by first | omega | (simp; done) | (simp; omega)) (by first | assumption | (simp [go_sem]; done)); have k1 : w'.cell? ⟨w.heap.size, 1, none⟩ = some (.float .f64 b) := keep_cell hb1 (by first | omega | (simp; done) | (simp; omega)) (by first | assumption | (simp [go_sem]; done)); have k2 : w'.cell? ⟨w.heap.size + 1, 0, none⟩ = some (.float .f64 c) := keep_cell hb1 (by first | omega | (simp; done) | (simp; omega)) (by first | assumption | (simp [go_sem]; done)); have k3 : w'.cell? ⟨w.heap.size + 1, 1, none⟩ = some (.float .f64 d) := keep_cell hb1 (by first | omega | (simp; done) | (simp; omega)) (by first | assumption | (simp [go_sem]; done)); have k4 : w'.cell? ⟨w.heap.size + 1 + 1, 0, none⟩ = some (.float .f64 0) := keep_cell hb1 (by first | omega | (simp; done) | (simp; omega)) (by first | assumption | (simp [go_sem]; done)); have k5 : w'.cell? ⟨w.heap.size + 1 + 1, 1, none⟩ = some (.float .f64 0) := keep_cell hb1 (by first | omega | (simp; done) | (simp; omega)) (by first | assumption | (simp [go_sem]; done)); have k6 : w'.cell? ⟨w.heap.size + 1 + 1 + 1, 0, none⟩ = some (.float .f64 0) := keep_cell hb1 (by first | omega | (simp; done) | (simp; omega)) (by first | assumption | (simp [go_sem]; done)); have k7 : w'.cell? ⟨w.heap.size + 1 + 1 + 1, 1, none⟩ = some (.float .f64 0) := keep_cell hb1 (by first | omega | (simp; done) | (simp; omega)) (by first | assumption | (simp [go_sem]; done)); have f0 : w'.frozen? ⟨w.heap.size, 0, none⟩ = false := keep_free hb1 (by first | omega | (simp; done) | (simp; omega)) (by first | assumption | (simp [go_sem]; done)); have f1 : w'.frozen? ⟨w.heap.size, 1, none⟩ = false := keep_free hb1 (by first | omega | (simp; done) | (simp; omega)) (by first | assumption | (simp [go_sem]; done)); have f2 : w'.frozen? ⟨w.heap.size + 1, 0, none⟩ = false := keep_free hb1 (by first | omega | (simp; done) | (simp; omega)) (by first | assumption | (simp [go_sem]; done)); have f3 : w'.frozen? ⟨w.heap.size + 1, 1, none⟩ = false := keep_free hb1 (by first | omega | (simp; done) | (simp; omega)) (by first | assumption | (simp [go_sem]; done)); have f4 : w'.frozen? ⟨w.heap.size + 1 + 1, 0, none⟩ = false := keep_free hb1 (by first | omega | (simp; done) | (simp; omega)) (by first | assumption | (simp [go_sem]; done)); have f5 : w'.frozen? ⟨w.heap.size + 1 + 1, 1, none⟩ = false := keep_free hb1 (by first | omega | (simp; done) | (simp; omega)) (by first | assumption | (simp [go_sem]; done)); have f6 : w'.frozen? ⟨w.heap.size + 1 + 1 + 1, 0, none⟩ = false := keep_free hb1 (by first | omega | (simp; done) | (simp; omega)) (by first | assumption | (simp [go_sem]; done)); have f7 : w'.frozen? ⟨w.heap.size + 1 + 1 + 1, 1, none⟩ = false := keep_free hb1 (by first | omega | (simp; done) | (simp; omega)) (by first | assumption | (simp [go_sem]; done))) | ((with_reducible refine (read_any c d r s HY.out _).mono ?_); rintro e w' ⟨rfl, hb1⟩; have g : Below w.heap.size w w' := (by first | exact bch g hb1 | exact bch b_4d hb1); have z0 : w.heap.size + 3 < w'.heap.size := (by have := hb1.size; (try simp at this); omega); have k0 : w'.cell? ⟨w.heap.size, 0, none⟩ = some (.float .f64 a) := keep_cell hb1 (by first | omega | (simp; done) | (simp; omega)) (by first | assumption | (simp [go_sem]; done)); have k1 : w'.cell? ⟨w.heap.size, 1, none⟩ = some (.float .f64 b) := keep_cell hb1 (by first | omega | (simp; done) | (simp; omega)) (by first | assumption | (simp [go_sem]; done)); have k2 : w'.cell? ⟨w.heap.size + 1, 0, none⟩ = some (.float .f64 c) := keep_cell hb1 (by first | omega | (simp; done) | (simp; omega)) (by first | assumption | (simp [go_sem]; done)); have k3 : w'.cell? ⟨w.heap.size + 1, 1, none⟩ = some (.float .f64 d) := keep_cell hb1 (by first | omega | (simp; done) | (simp; omega)) (by first | assumption | (simp [go_sem]; done)); have k4 : w'.cell? ⟨w.heap.size + 1 + 1, 0, none⟩ = some (.float .f64 0) := keep_cell hb1 (by first | omega | (simp; done) | (simp; omega)) (by first | assumption | (simp [go_sem]; done)); have k5 : w'.cell? ⟨w.heap.size + 1 + 1, 1, none⟩ = some (.float .f64 0) := keep_cell hb1 (by first | omega | (simp; done) | (simp; omega)) (by first | assumption | (simp [go_sem]; done)); have k6 : w'.cell? ⟨w.heap.size + 1 + 1 + 1, 0, none⟩ = some (.float .f64 0) := keep_cell hb1 (by first | omega | (simp; done) | (simp; omega)) (by first | assumption | (simp [go_sem]; done)); have k7 : w'.cell? ⟨w.heap.size + 1 + 1 + 1, 1, none⟩ = some (.float .f64 0) := keep_cell hb1 (by first | omega | (simp; done) | (simp; omega)) (by first | assumption | (simp [go_sem]; done)); have f0 : w'.frozen? ⟨w.heap.size, 0, none⟩ = false := keep_free hb1 (by first | omega | (simp; done) | (simp; omega)) (by first | assumption | (simp [go_sem]; done)); have f1 : w'.frozen? ⟨w.heap.size, 1, none⟩ = false := keep_free hb1 (by first | omega | (simp; done) | (simp; omega)) (by first | assumption | (simp [go_sem]; done)); have f2 : w'.frozen? ⟨w.heap.size + 1, 0, none⟩ = false := keep_free hb1 (by first | omega | (simp; done) | (simp; omega)) (by first | assumption | (simp [go_sem]; done)); have f3 : w'.frozen? ⟨w.heap.size + 1, 1, none⟩ = false := keep_free hb1 (by first | omega | (simp; done) | (simp; omega)) (by first | assumption | (simp [go_sem]; done)); have f4 : w'.frozen? ⟨w.heap.size + 1 + 1, 0, none⟩ = false := keep_free hb1 (by first | omega | (simp; done) | (simp; omega)) (by first | assumption | (simp [go_sem]; done)); have f5 : w'.frozen? ⟨w.heap.size + 1 + 1, 1, none⟩ = false := keep_free hb1 (by first | omega | (simp; done) | (simp; omega)) (by first | assumption | (simp [go_sem]; done)); have f6 : w'.frozen? ⟨w.heap.size + 1 + 1 + 1, 0, none⟩ = false := keep_free hb1 (by first | omega | (simp; done) | (simp; omega)) (by first | assumption | (simp [go_sem]; done)); have f7 : w'.frozen? ⟨w.heap.size + 1 + 1 + 1, 1, none⟩ = false := keep_free hb1 (by first | omega | (simp; done) | (simp; omega)) (by first | assumption | (simp [go_sem]; done))))
    all_goals
      go_wp2_with fail
      go_meet
      refine ⟨?_, ?_, ?_, ?_, ?_, ?_, ?_, ?_, ?_, ?_, ?_, ?_, ?_, ?_⟩
      all_goals first | (simp [go_sem, *]; done) | exact (((g.setCell (by simp) _).setCell (by simp) _).setCell (by simp) _).setCell (by simp) _
  case rest =>
    obtain ⟨z0, k0, k1, k2, k3, k4, k5, k6, k7, f4, f5, f6, f7, g⟩ := hcut
    have P := hide (show (Vg.Pl p ∧ Vg.Pl q) ∧ Vg.Pl r ∧ Vg.Pl s from ⟨⟨HX.out.iv.lo, HX.out.iv.hi⟩, HY.out.iv.lo, HY.out.iv.hi⟩)
    have hm : Try.prog.eqGuardType Try.prog.depth 28 = false := by kernel_rfl
    have I := hide (show Vg.Iv p q ∧ Vg.Iv r s from ⟨HX.out.iv, HY.out.iv⟩)
    have EI := hide (show (decide (p = Vg.PI ∧ q = -Vg.PI) = true ∧ q < p ∨ decide (p = Vg.PI ∧ q = -Vg.PI) = false ∧ p ≤ q) ∧ (decide (r = Vg.PI ∧ s = -Vg.PI) = true ∧ s < r ∨ decide (r = Vg.PI ∧ s = -Vg.PI) = false ∧ r ≤ s) from ⟨I.out.1.dec, I.out.2.dec⟩)
    obtain ⟨n1, d1⟩ : ∃ n, decide (p = Vg.PI ∧ q = -Vg.PI) = n := ⟨_, rfl⟩
    obtain ⟨n2, d2⟩ : ∃ n, decide (r = Vg.PI ∧ s = -Vg.PI) = n := ⟨_, rfl⟩
    have e1 := eqPlaces P.out.1.1 P.out.1.2 Vg.pl_top Vg.pl_bot _ d1
    have e2 := eqPlaces P.out.2.1 P.out.2.2 Vg.pl_top Vg.pl_bot _ d2
    rw [d1, d2] at EI
    have o1 := or01
    have o2 := or02
    have o3 := or12
    clear d1 d2
    go_upto_region 3 with fail
    go_cut [14] (fun v wx => v = .bool n1 ∧ w.heap.size + 3 < wx.heap.size ∧ wx.cell? ⟨w.heap.size, 0, none⟩ = some (.float .f64 (Vg.atn true p)) ∧ wx.cell? ⟨w.heap.size, 1, none⟩ = some (.float .f64 (Vg.atn true q)) ∧ wx.cell? ⟨w.heap.size + 1, 0, none⟩ = some (.float .f64 (Vg.atn true r)) ∧ wx.cell? ⟨w.heap.size + 1, 1, none⟩ = some (.float .f64 (Vg.atn true s)) ∧ wx.cell? ⟨w.heap.size + 1 + 1, 0, none⟩ = some (.float .f64 0) ∧ wx.cell? ⟨w.heap.size + 1 + 1, 1, none⟩ = some (.float .f64 0) ∧ wx.cell? ⟨w.heap.size + 1 + 1 + 1, 0, none⟩ = some (.float .f64 0) ∧ wx.cell? ⟨w.heap.size + 1 + 1 + 1, 1, none⟩ = some (.float .f64 0) ∧ wx.frozen? ⟨w.heap.size + 1 + 1, 0, none⟩ = false ∧ wx.frozen? ⟨w.heap.size + 1 + 1, 1, none⟩ = false ∧ wx.frozen? ⟨w.heap.size + 1 + 1 + 1, 0, none⟩ = false ∧ wx.frozen? ⟨w.heap.size + 1 + 1 + 1, 1, none⟩ = false ∧ Below w.heap.size w wx)
    case first =>
      go_region_with (go_at_call 72; refine (empty_any _).mono ?_; rintro e w' ⟨rfl, hb1⟩; have g : Below w.heap.size w w' := (by first | exact bch g hb1 | exact bch g.drew hb1); have z0 : w.heap.size + 3 < w'.heap.size := (by have := hb1.size; (try simp at this); omega); have k0 : w'.cell? ⟨w.heap.size, 0, none⟩ = some (.float .f64 (Vg.atn true p)) := keep_cell hb1 (by first | omega | (simp; done) | (simp; omega)) k0; have k1 : w'.cell? ⟨w.heap.size, 1, none⟩ = some (.float .f64 (Vg.atn true q)) := keep_cell hb1 (by first | omega | (simp; done) | (simp; omega)) k1; have k2 : w'.cell? ⟨w.heap.size + 1, 0, none⟩ = some (.float .f64 (Vg.atn true r)) := keep_cell hb1 (by first | omega | (simp; done) | (simp; omega)) k2; have k3 : w'.cell? ⟨w.heap.size + 1, 1, none⟩ = some (.float .f64 (Vg.atn true s)) := keep_cell hb1 (by first | omega | (simp; done) | (simp; omega)) k3; have k4 : w'.cell? ⟨w.heap.size + 1 + 1, 0, none⟩ = some (.float .f64 0) := keep_cell hb1 (by first | omega | (simp; done) | (simp; omega)) k4; have k5 : w'.cell? ⟨w.heap.size + 1 + 1, 1, none⟩ = some (.float .f64 0) := keep_cell hb1 (by first | omega | (simp; done) | (simp; omega)) k5; have k6 : w'.cell? ⟨w.heap.size + 1 + 1 + 1, 0, none⟩ = some (.float .f64 0) := keep_cell hb1 (by first | omega | (simp; done) | (simp; omega)) k6; have k7 : w'.cell? ⟨w.heap.size + 1 + 1 + 1, 1, none⟩ = some (.float .f64 0) := keep_cell hb1 (by first | omega | (simp; done) | (simp; omega)) k7; have f4 : w'.frozen? ⟨w.heap.size + 1 + 1, 0, none⟩ = false := keep_free hb1 (by first | omega | (simp; done) | (simp; omega)) f4; have f5 : w'.frozen? ⟨w.heap.size + 1 + 1, 1, none⟩ = false := keep_free hb1 (by first | omega | (simp; done) | (simp; omega)) f5; have f6 : w'.frozen? ⟨w.heap.size + 1 + 1 + 1, 0, none⟩ = false := keep_free hb1 (by first | omega | (simp; done) | (simp; omega)) f6; have f7 : w'.frozen? ⟨w.heap.size + 1 + 1 + 1, 1, none⟩ = false := keep_free hb1 (by first | omega | (simp; done) | (simp; omega)) f7)
      all_goals
        go_wp2_with fail
        go_meet
        exact ⟨rfl, z0, k0, k1, k2, k3, k4, k5, k6, k7, f4, f5, f6, f7, by first | exact g | exact g.drew⟩
    case rest =>
      obtain ⟨rfl, z0, k0, k1, k2, k3, k4, k5, k6, k7, f4, f5, f6, f7, g⟩ := hcut
      clear e1
      cases n1
      all_goals
        go_upto_region 5 with fail
        go_cut [19] (fun v wx => v = .bool n2 ∧ w.heap.size + 3 < wx.heap.size ∧ wx.cell? ⟨w.heap.size, 0, none⟩ = some (.float .f64 (Vg.atn true p)) ∧ wx.cell? ⟨w.heap.size, 1, none⟩ = some (.float .f64 (Vg.atn true q)) ∧ wx.cell? ⟨w.heap.size + 1, 0, none⟩ = some (.float .f64 (Vg.atn true r)) ∧ wx.cell? ⟨w.heap.size + 1, 1, none⟩ = some (.float .f64 (Vg.atn true s)) ∧ wx.cell? ⟨w.heap.size + 1 + 1, 0, none⟩ = some (.float .f64 0) ∧ wx.cell? ⟨w.heap.size + 1 + 1, 1, none⟩ = some (.float .f64 0) ∧ wx.cell? ⟨w.heap.size + 1 + 1 + 1, 0, none⟩ = some (.float .f64 0) ∧ wx.cell? ⟨w.heap.size + 1 + 1 + 1, 1, none⟩ = some (.float .f64 0) ∧ wx.frozen? ⟨w.heap.size + 1 + 1, 0, none⟩ = false ∧ wx.frozen? ⟨w.heap.size + 1 + 1, 1, none⟩ = false ∧ wx.frozen? ⟨w.heap.size + 1 + 1 + 1, 0, none⟩ = false ∧ wx.frozen? ⟨w.heap.size + 1 + 1 + 1, 1, none⟩ = false ∧ Below w.heap.size w wx)
        case first =>
          go_region_with (go_at_call 72; refine (empty_any _).mono ?_; rintro e w' ⟨rfl, hb1⟩; have g : Below w.heap.size w w' := (by first | exact bch g hb1 | exact bch g.drew hb1); have z0 : w.heap.size + 3 < w'.heap.size := (by have := hb1.size; (try simp at this); omega); have k0 : w'.cell? ⟨w.heap.size, 0, none⟩ = some (.float .f64 (Vg.atn true p)) := keep_cell hb1 (by first | omega | (simp; done) | (simp; omega)) k0; have k1 : w'.cell? ⟨w.heap.size, 1, none⟩ = some (.float .f64 (Vg.atn true q)) := keep_cell hb1 (by first | omega | (simp; done) | (simp; omega)) k1; have k2 : w'.cell? ⟨w.heap.size + 1, 0, none⟩ = some (.float .f64 (Vg.atn true r)) := keep_cell hb1 (by first | omega | (simp; done) | (simp; omega)) k2; have k3 : w'.cell? ⟨w.heap.size + 1, 1, none⟩ = some (.float .f64 (Vg.atn true s)) := keep_cell hb1 (by first | omega | (simp; done) | (simp; omega)) k3; have k4 : w'.cell? ⟨w.heap.size + 1 + 1, 0, none⟩ = some (.float .f64 0) := keep_cell hb1 (by first | omega | (simp; done) | (simp; omega)) k4; have k5 : w'.cell? ⟨w.heap.size + 1 + 1, 1, none⟩ = some (.float .f64 0) := keep_cell hb1 (by first | omega | (simp; done) | (simp; omega)) k5; have k6 : w'.cell? ⟨w.heap.size + 1 + 1 + 1, 0, none⟩ = some (.float .f64 0) := keep_cell hb1 (by first | omega | (simp; done) | (simp; omega)) k6; have k7 : w'.cell? ⟨w.heap.size + 1 + 1 + 1, 1, none⟩ = some (.float .f64 0) := keep_cell hb1 (by first | omega | (simp; done) | (simp; omega)) k7; have f4 : w'.frozen? ⟨w.heap.size + 1 + 1, 0, none⟩ = false := keep_free hb1 (by first | omega | (simp; done) | (simp; omega)) f4; have f5 : w'.frozen? ⟨w.heap.size + 1 + 1, 1, none⟩ = false := keep_free hb1 (by first | omega | (simp; done) | (simp; omega)) f5; have f6 : w'.frozen? ⟨w.heap.size + 1 + 1 + 1, 0, none⟩ = false := keep_free hb1 (by first | omega | (simp; done) | (simp; omega)) f6; have f7 : w'.frozen? ⟨w.heap.size + 1 + 1 + 1, 1, none⟩ = false := keep_free hb1 (by first | omega | (simp; done) | (simp; omega)) f7)
          all_goals
            go_wp2_with fail
            go_meet
            exact ⟨rfl, z0, k0, k1, k2, k3, k4, k5, k6, k7, f4, f5, f6, f7, by first | exact g | exact g.drew⟩
        case rest =>
          obtain ⟨rfl, z0, k0, k1, k2, k3, k4, k5, k6, k7, f4, f5, f6, f7, g⟩ := hcut
          clear e2
          cases n2
          all_goals
            go_upto_region 7 with fail
            go_cut [6] (fun v wx => (∃ k : Int, v = .int .i64 k ∧ Kk p q r s k) ∧ wx.cell? ⟨w.heap.size + 1 + 1, 0, none⟩ = some (.float .f64 (Vg.atn true p)) ∧ wx.cell? ⟨w.heap.size + 1 + 1, 1, none⟩ = some (.float .f64 (Vg.atn true q)) ∧ wx.cell? ⟨w.heap.size + 1 + 1 + 1, 0, none⟩ = some (.float .f64 (Vg.atn true r)) ∧ wx.cell? ⟨w.heap.size + 1 + 1 + 1, 1, none⟩ = some (.float .f64 (Vg.atn true s)) ∧ Below w.heap.size w wx)
            case first =>
              go_region
              all_goals
                go_wp2_with fail
                go_meet
                refine ⟨⟨_, rfl, by rcases EI.out with ⟨⟨h1, c1⟩ | ⟨h1, c1⟩, ⟨h2, c2⟩ | ⟨h2, c2⟩⟩ <;> first | (cases h1; done) | (cases h2; done) | exact .inl ⟨rfl, c1, c2⟩ | exact .inr (.inl ⟨rfl, c1, c2⟩) | exact .inr (.inr (.inl ⟨rfl, c1, c2⟩)) | exact .inr (.inr (.inr ⟨rfl, c1, c2⟩))⟩, ?_, ?_, ?_, ?_, ?_⟩
                all_goals first | (simp [go_sem, *]; done) | exact (((g.drew.setCell (by dsimp only; omega) _).setCell (by dsimp only; omega) _).setCell (by dsimp only; omega) _).setCell (by dsimp only; omega) _
            case rest =>
              obtain ⟨⟨k, rfl, hk⟩, k4, k5, k6, k7, g⟩ := hcut
              have HR := hide hk
              clear hk
              go_wp2
              refine bodyPost_ret (v := .tuple #[.agg #[.float .f64 (Vg.atn true p), .float .f64 (Vg.atn true q)], .agg #[.float .f64 (Vg.atn true r), .float .f64 (Vg.atn true s)], .int .i64 k]) (by simp [results, Try.results68, go_sem, k4, k5, k6, k7]) rfl ⟨_, rfl, HR.out, g⟩
end Go.Proofs.Ytljnadoodbninaa
