/- Every IsEmpty, IsEntire, IsSingleton, IsCommon is the reference's. The walk. -/
import Derived.Test.YtljnadoodbninaaWRefRead
import Derived.Test.YtljnadoodbninaaWTold
namespace Go.Proofs.Ytljnadoodbninaa.relKinds
open Go.RowKit

theorem eqU {a b c d : Nat} (n : Bool) (hn : n = true ↔ a = c ∧ b = d) (w : World) : (Op.equalIn 10000 24 (.agg #[.int .u64 a, .int .u64 b]) (.agg #[.int .u64 c, .int .u64 d])).run Try.prog w = .ok n w := by
  have u := Try.underlying22
  have ag := Try.isAgg22
  have z := Try.sizeOf22
  have hS : Try.prog.underlying 24 = some (.struct (Try.prog.fieldsOf 24)) := by kernel_rfl
  have hp : Try.prog.stoodInHeld 24 = false := by kernel_rfl
  have e : n = ((a : Int) == c && (b : Int) == d) := by
    rw [Bool.eq_iff_iff, hn, Bool.and_eq_true, beq_iff_eq, beq_iff_eq]
    omega
  rw [show (10000 : Nat) = 9999 + 1 from rfl, run_equalIn_agg w 9999 24 _ _ hS hp, e]
  simp only [Program.fieldsOf, Try.underlying24]
  cases h1 : ((a : Int) == c) <;> cases h2 : ((b : Int) == d)
  all_goals
    go_simp
theorem pat_eq {p q r s : Int} (hp : Vg.Pl p) (hq : Vg.Pl q) (hr : Vg.Pl r) (hs : Vg.Pl s) : Vg.atn true p = Vg.atn true r ∧ Vg.atn true q = Vg.atn true s ↔ p = r ∧ q = s :=
  ⟨fun h => ⟨Vg.atn_inj hp hr h.1, Vg.atn_inj hq hs h.2⟩, fun h => by rw [h.1, h.2]; exact ⟨rfl, rfl⟩⟩
set_option maxRecDepth 20000 in
set_option maxHeartbeats 8000000 in
theorem walk (a00 a01 : Int) (w00 : (Lit.int .u64 a00).wf = true) (w01 : (Lit.int .u64 a01).wf = true) (w : World) :
    Calls Try.prog 7 #[.agg #[.int .u64 a00, .int .u64 a01]] w fun e w' => e = .returned (.bool true) ∧ Below w.heap.size w w' := by
  have b0 := u64_bd w00
  have b1 := u64_bd w01
  clear w00 w01
  obtain ⟨X, rfl⟩ := Int.eq_ofNat_of_zero_le b0.1
  obtain ⟨Y, rfl⟩ := Int.eq_ofNat_of_zero_le b1.1
  obtain ⟨p, q, h0⟩ := Vg.Rd.ex X Y (by omega) (by omega)
  have H0 := hide h0
  have I := hide h0.iv
  have N0 := fun w => in_any (X : Int) (Y : Int) w
  rw [Int.toNat_natCast, Int.toNat_natCast] at N0
  clear b0 b1 h0
  obtain ⟨nE, gE⟩ := bool_of (q < p)
  obtain ⟨nA, gA⟩ := bool_of (p = -Vg.PI ∧ q = Vg.PI)
  obtain ⟨nS, gS⟩ := bool_of (p = q)
  obtain ⟨n1, g1⟩ := bool_of (p = Vg.PI ∨ p = -Vg.PI)
  obtain ⟨n2, g2⟩ := bool_of (q = Vg.PI ∨ q = -Vg.PI)
  have GE : Fact nE _ := gE
  have GA : Fact nA _ := gA
  have GS : Fact nS _ := gS
  have GC : Fact (!(n1 || n2)) (-Vg.PI < p ∧ p ≤ q ∧ q < Vg.PI) := by
    have i := I.out
    have := Vg.PI_pos
    unfold Vg.Iv at i
    unfold Fact
    rw [Bool.not_eq_true', Bool.or_eq_false_iff]
    have e1 : n1 = false ↔ ¬ (p = Vg.PI ∨ p = -Vg.PI) := by rw [← g1]; simp
    have e2 : n2 = false ↔ ¬ (q = Vg.PI ∨ q = -Vg.PI) := by rw [← g2]; simp
    rw [e1, e2]
    constructor <;> intro h <;> omega
  have Q1 := fun w => rinf_any (Vg.atn true p) (Vg.atn_le I.out.lo) n1 ((Vg.infb_atn I.out.lo).trans (dec_of g1)) w
  have Q2 := fun w => rinf_any (Vg.atn true q) (Vg.atn_le I.out.hi) n2 ((Vg.infb_atn I.out.hi).trans (dec_of g2)) w
  have E1 := eqU (a := Vg.atn true p) (b := Vg.atn true q) (c := Vg.atn true Vg.PI) (d := Vg.atn true (-Vg.PI)) nE (by
    rw [gE, pat_eq I.out.lo I.out.hi Vg.pl_top Vg.pl_bot]
    have i := I.out
    have := Vg.PI_pos
    unfold Vg.Iv at i
    constructor <;> intro h <;> omega)
  have E2 := eqU (a := Vg.atn true p) (b := Vg.atn true q) (c := Vg.atn true (-Vg.PI)) (d := Vg.atn true Vg.PI) nA (by rw [gA, pat_eq I.out.lo I.out.hi Vg.pl_bot Vg.pl_top])
  have E3 : ((Vg.atn true p : Int) == (Vg.atn true q : Int)) = nS := by
    rw [Bool.eq_iff_iff, gS, beq_iff_eq]
    constructor
    · intro h; exact Vg.atn_inj I.out.lo I.out.hi (by omega)
    · intro h; rw [h]
  have hm1 : Try.prog.eqGuardType Try.prog.depth 24 = false := by kernel_rfl
  have hst := sto
  clear gE gA gS g1 g2
  go_enter Try.func7, Try.ntmps7
  have m0 : (w.alloc (.cells #[.int .u64 (X : Int), .int .u64 (Y : Int)] 24)).cell? ⟨w.heap.size, 0, none⟩ = some (.int .u64 X) := by simp
  have m1 : (w.alloc (.cells #[.int .u64 (X : Int), .int .u64 (Y : Int)] 24)).cell? ⟨w.heap.size, 1, none⟩ = some (.int .u64 Y) := by simp
  have z : w.heap.size < (w.alloc (.cells #[.int .u64 (X : Int), .int .u64 (Y : Int)] 24)).heap.size := by simp
  have g : Below w.heap.size w (w.alloc (.cells #[.int .u64 (X : Int), .int .u64 (Y : Int)] 24)) := b_one
  go_upto_region 1 with fail
  go_cut [3] (fun v wx => wx.cell? ⟨w.heap.size, 0, none⟩ = some (.int .u64 X) ∧ wx.cell? ⟨w.heap.size, 1, none⟩ = some (.int .u64 Y) ∧ w.heap.size < wx.heap.size ∧ Below w.heap.size w wx ∧ ∃ B0 : Nat, v = .pointer (some ⟨B0, 0, none⟩) ∧ wx.cell? ⟨B0, 0, none⟩ = some (.int .u64 (Vg.atn true p : Nat)) ∧ wx.cell? ⟨B0, 1, none⟩ = some (.int .u64 (Vg.atn true q : Nat)) ∧ B0 < wx.heap.size)
  case first =>
    go_wp2_with fail
    refine (rread_any X Y p q H0.out _).mono ?_; rintro e w' ⟨rfl, hb⟩
    have m0 := keep_cell hb z m0
    have m1 := keep_cell hb z m1
    have z := Nat.lt_of_lt_of_le z hb.size
    have g := bch g hb
    clear hb
    go_wp2_with fail
    go_meet
    refine ⟨?_, ?_, ?_, ?_, _, rfl, ?_, ?_, ?_⟩
    all_goals first | exact keep_cell b_one (by dsimp only <;> omega) (by assumption) | (simp [go_sem, *]; done) | exact g.alloc g.size _ | (simp; omega)
  case rest =>
  clear m0 m1 z g
  obtain ⟨m0, m1, z, g, B0, rfl, k00, k01, z0⟩ := hcut
  go_upto_region 2 with fail
  go_cut [4] (fun v wx => wx.cell? ⟨B0, 0, none⟩ = some (.int .u64 (Vg.atn true p : Nat)) ∧ wx.cell? ⟨B0, 1, none⟩ = some (.int .u64 (Vg.atn true q : Nat)) ∧ B0 < wx.heap.size ∧ Below w.heap.size w wx ∧ ∃ B1 : Nat, v = .pointer (some ⟨B1, 0, none⟩) ∧ wx.cell? ⟨B1, 0, none⟩ = some (.float .f64 X) ∧ wx.cell? ⟨B1, 1, none⟩ = some (.float .f64 Y) ∧ B1 < wx.heap.size)
  case first =>
    go_wp2_with fail
    refine (N0 _).mono ?_; rintro e w' ⟨rfl, hb⟩
    have k00 := keep_cell hb z0 k00
    have k01 := keep_cell hb z0 k01
    have z0 := Nat.lt_of_lt_of_le z0 hb.size
    have g := bch g hb
    clear hb
    go_wp2_with fail
    go_meet
    refine ⟨?_, ?_, ?_, ?_, _, rfl, ?_, ?_, ?_⟩
    all_goals first | exact keep_cell b_one (by dsimp only <;> omega) (by assumption) | (simp [go_sem, *]; done) | exact g.alloc g.size _ | (simp; omega)
  case rest =>
  clear m0 m1 z g k00 k01 z0 N0
  obtain ⟨k00, k01, z0, g, B1, rfl, k10, k11, z1⟩ := hcut
  go_upto_region 3 with fail
  go_cut [5] (fun v wx => v = .bool (n1 || n2) ∧ wx.cell? ⟨B0, 0, none⟩ = some (.int .u64 (Vg.atn true p : Nat)) ∧ wx.cell? ⟨B0, 1, none⟩ = some (.int .u64 (Vg.atn true q : Nat)) ∧ B0 < wx.heap.size ∧ wx.cell? ⟨B1, 0, none⟩ = some (.float .f64 X) ∧ wx.cell? ⟨B1, 1, none⟩ = some (.float .f64 Y) ∧ B1 < wx.heap.size ∧ Below w.heap.size w wx)
  case first =>
    cases n1
    all_goals
      go_wp2_with (go_at_call 30; first | ((with_reducible refine (Q1 _).mono ?_); rintro e w' ⟨rfl, rfl⟩) | ((with_reducible refine (Q2 _).mono ?_); rintro e w' ⟨rfl, rfl⟩))
      go_meet
      exact ⟨by simp, k00, k01, z0, k10, k11, z1, g⟩
  case rest =>
  clear k00 k01 z0 k10 k11 z1 g Q1 Q2
  obtain ⟨rfl, k00, k01, z0, k10, k11, z1, g⟩ := hcut
  go_upto_region 4 with fail
  go_cut [31] (fun v wx => v = .bool false ∧ wx.cell? ⟨B0, 0, none⟩ = some (.int .u64 (Vg.atn true p : Nat)) ∧ wx.cell? ⟨B0, 1, none⟩ = some (.int .u64 (Vg.atn true q : Nat)) ∧ B0 < wx.heap.size ∧ wx.cell? ⟨B1, 0, none⟩ = some (.float .f64 X) ∧ wx.cell? ⟨B1, 1, none⟩ = some (.float .f64 Y) ∧ B1 < wx.heap.size ∧ Below w.heap.size w wx)
  case first =>
    go_region_held3 (fun wx => wx.cell? ⟨B0, 0, none⟩ = some (.int .u64 (Vg.atn true p : Nat)) ∧ wx.cell? ⟨B0, 1, none⟩ = some (.int .u64 (Vg.atn true q : Nat)) ∧ B0 < wx.heap.size ∧ wx.cell? ⟨B1, 0, none⟩ = some (.float .f64 X) ∧ wx.cell? ⟨B1, 1, none⟩ = some (.float .f64 Y) ∧ B1 < wx.heap.size ∧ Below w.heap.size w wx)
      (((try dsimp only); (repeat' apply And.intro) <;> first | assumption | (simp [*]; done) | exact Below.drew (by assumption) | exact keep_cell hb1 (by first | (dsimp only; omega) | (simp; omega)) (by simp [*]) | (have := hb1.size; omega) | (have := hb1.size; simp at this; omega) | exact bch (by simp [*]) hb1 | exact bch (Below.drew (by simp [*])) hb1))
      (first | (go_at_call 31; refine ((isempty_any X Y p q H0.out _).mono (fun _ _ h => TB.bool GE h)).mono ?_; rintro e w' ⟨rfl, hb1⟩) | (go_at_call 33; refine ((isentire_any X Y p q H0.out _).mono (fun _ _ h => TB.bool GA h)).mono ?_; rintro e w' ⟨rfl, hb1⟩) | (go_at_call 32; refine (rempty_any _).mono ?_; rintro e w' ⟨rfl, hb1⟩) | (go_at_call 34; refine (rentire_any _).mono ?_; rintro e w' ⟨rfl, hb1⟩))
    go_wp2_with fail
    go_meet
    exact ⟨rfl, by assumption⟩
  case rest =>
  clear k00 k01 z0 k10 k11 z1 g
  obtain ⟨rfl, k00, k01, z0, k10, k11, z1, g⟩ := hcut
  go_wp2_with fail
  go_region_held3 (fun wx => wx.cell? ⟨B0, 0, none⟩ = some (.int .u64 (Vg.atn true p : Nat)) ∧ wx.cell? ⟨B0, 1, none⟩ = some (.int .u64 (Vg.atn true q : Nat)) ∧ B0 < wx.heap.size ∧ wx.cell? ⟨B1, 0, none⟩ = some (.float .f64 X) ∧ wx.cell? ⟨B1, 1, none⟩ = some (.float .f64 Y) ∧ B1 < wx.heap.size ∧ Below w.heap.size w wx)
      (((try dsimp only); (repeat' apply And.intro) <;> first | assumption | (simp [*]; done) | exact Below.drew (by assumption) | exact keep_cell hb1 (by first | (dsimp only; omega) | (simp; omega)) (by simp [*]) | (have := hb1.size; omega) | (have := hb1.size; simp at this; omega) | exact bch (by simp [*]) hb1 | exact bch (Below.drew (by simp [*])) hb1))
      (first | (go_at_call 35; refine ((issingle_any X Y p q H0.out _).mono (fun _ _ h => TB.bool GS h)).mono ?_; rintro e w' ⟨rfl, hb1⟩) | (go_at_call 36; refine ((iscommon_any X Y p q H0.out _).mono (fun _ _ h => TB.bool GC h)).mono ?_; rintro e w' ⟨rfl, hb1⟩))
  go_wp2
  go_ret
  exact ⟨rfl, by simp [*]⟩

end Go.Proofs.Ytljnadoodbninaa.relKinds
