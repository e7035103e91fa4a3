/- What two intervals have in common and their hull, by their points. The walk. -/
import Derived.Test.YtljnadoodbninaaWPts
import Derived.Test.YtljnadoodbninaaWAwake
import Derived.Test.YtljnadoodbninaaWTold
namespace Go.Proofs.Ytljnadoodbninaa.relPoints
open Go.RowKit

set_option maxRecDepth 20000 in
set_option maxHeartbeats 16000000 in
theorem walk (a00 a01 a10 a11 : Int) (sv : Bool) (V1 V2 : Option Addr) (l1 d1 l2 d2 : Nat) (xs ys : List Nat) (w : World) (w00 : (Lit.int .u64 a00).wf = true) (w01 : (Lit.int .u64 a01).wf = true) (w10 : (Lit.int .u64 a10).wf = true) (w11 : (Lit.int .u64 a11).wf = true) (r1 : Rw w (.slice V1 l1 d1) xs) (r2 : Rw w (.slice V2 l2 d2) ys) (q1 : xs.length ≤ 35184372087808) (q2 : ys.length ≤ 35184372087808) :
    Calls Try.prog 8 #[.agg #[.int .u64 a00, .int .u64 a01], .agg #[.int .u64 a10, .int .u64 a11], .agg #[.bool sv, .slice V1 l1 d1, .slice V2 l2 d2]] w fun e w' => e = .returned (.bool true) ∧ Below w.heap.size w w' := by
  have b00 := u64_bd w00
  obtain ⟨X0, rfl⟩ := Int.eq_ofNat_of_zero_le b00.1
  have b01 := u64_bd w01
  obtain ⟨Y0, rfl⟩ := Int.eq_ofNat_of_zero_le b01.1
  have b10 := u64_bd w10
  obtain ⟨X1, rfl⟩ := Int.eq_ofNat_of_zero_le b10.1
  have b11 := u64_bd w11
  obtain ⟨Y1, rfl⟩ := Int.eq_ofNat_of_zero_le b11.1
  clear w00 w01 w10 w11
  obtain ⟨p, q, h0⟩ := Vg.Rd.ex X0 Y0 (by omega) (by omega)
  obtain ⟨r, s, h1⟩ := Vg.Rd.ex X1 Y1 (by omega) (by omega)
  have N0 := fun w => in_any (X0 : Int) (Y0 : Int) w
  rw [Int.toNat_natCast, Int.toNat_natCast] at N0
  have N1 := fun w => in_any (X1 : Int) (Y1 : Int) w
  rw [Int.toNat_natCast, Int.toNat_natCast] at N1
  have AW := fun w => awake_any w
  obtain ⟨i1, i2, hm⟩ := meetP_ex p q r s
  obtain ⟨j1, j2, hj⟩ : ∃ x y, Join p q r s x y := ⟨_, _, rfl, rfl⟩
  have Ii := hm.iv h0.iv h1.iv
  have Ih := hj.iv h0.iv h1.iv
  have ME := fun w => meetP h0 h1 hm w
  have JO := fun w => joinP h0 h1 hj w
  have OI := fun w => out_any (Vg.atn true i1) (Vg.atn true i2) w
  have OH := fun w => out_any (Vg.atn true j1) (Vg.atn true j2) w
  have RX := fun w => rread_any X0 Y0 p q h0 w
  have RY := fun w => rread_any X1 Y1 r s h1 w
  have VI := fun w => rvalid_iv i1 i2 Ii w
  have VH := fun w => rvalid_iv j1 j2 Ih w
  -- an end of the hull is an end of one of the two
  have T1 : Hid (Vg.atn true j1 = Vg.atn true p ∨ Vg.atn true j1 ≠ Vg.atn true p ∧ Vg.atn true j1 = Vg.atn true r) := hide (by
    obtain ⟨rfl, -⟩ := hj
    by_cases e : Vg.atn true (min p r) = Vg.atn true p
    · exact .inl e
    · refine .inr ⟨e, ?_⟩
      rcases Int.le_total p r with k | k
      · rw [Int.min_eq_left k] at e; exact absurd rfl e
      · rw [Int.min_eq_right k])
  have T2 : Hid (Vg.atn true j2 = Vg.atn true q ∨ Vg.atn true j2 ≠ Vg.atn true q ∧ Vg.atn true j2 = Vg.atn true s) := hide (by
    obtain ⟨-, rfl⟩ := hj
    by_cases e : Vg.atn true (max q s) = Vg.atn true q
    · exact .inl e
    · refine .inr ⟨e, ?_⟩
      rcases Int.le_total q s with k | k
      · rw [Int.max_eq_right k]
      · rw [Int.max_eq_left k] at e; exact absurd rfl e)
  have NV := fun (w' : World) (h : Below w.heap.size w w') => norm_any _ ys w' (r2.keep h) (by omega)
  -- the real
  obtain ⟨o1, ho1⟩ := bool_of (Vg.Hol p q (Vg.zi sv (Vg.nat32 xs)) (Vg.nat32 ys))
  obtain ⟨o2, ho2⟩ := bool_of (Vg.Hol r s (Vg.zi sv (Vg.nat32 xs)) (Vg.nat32 ys))
  obtain ⟨o3, ho3⟩ := bool_of (Vg.Hol i1 i2 (Vg.zi sv (Vg.nat32 xs)) (Vg.nat32 ys))
  obtain ⟨o4, ho4⟩ := bool_of (Vg.Hol j1 j2 (Vg.zi sv (Vg.nat32 xs)) (Vg.nat32 ys))
  have HO : Hid (0 < Vg.nat32 ys → o3 = (o1 && o2) ∧ (o1 || o2) = (o4 && (o1 || o2))) := hide (by
    intro hQ
    have e1 := Vg.hol_meet (Z := Vg.zi sv (Vg.nat32 xs)) hQ h0.iv h1.iv Ii hm
    have e2 := Vg.hol_join (Z := Vg.zi sv (Vg.nat32 xs)) hQ h0.iv h1.iv Ih hj.1 hj.2
    rw [← ho1, ← ho2, ← ho3] at e1
    rw [← ho1, ← ho2, ← ho4] at e2
    constructor
    · cases o1 <;> cases o2 <;> cases o3 <;> simp at e1 ⊢
    · cases o1 <;> cases o2 <;> cases o4 <;> simp at e2 ⊢)
  have RV := fun (hQ : 0 < Vg.nat32 ys) (w' : World) (h : Below w.heap.size w w') => (Rt.self (s := sv) r1 r2 hQ q1 q2).keep h
  have K1 := fun (hQ : 0 < Vg.nat32 ys) (w' : World) (h : Below w.heap.size w w') => (holds_any X0 Y0 p q h0 _ _ _ _ w' (RV hQ w' h) hQ (by omega)).mono (fun _ _ h => TB.bool ho1 h)
  have K2 := fun (hQ : 0 < Vg.nat32 ys) (w' : World) (h : Below w.heap.size w w') => (holds_any X1 Y1 r s h1 _ _ _ _ w' (RV hQ w' h) hQ (by omega)).mono (fun _ _ h => TB.bool ho2 h)
  have K3 := fun (hQ : 0 < Vg.nat32 ys) (w' : World) (h : Below w.heap.size w w') => (holds_any _ _ i1 i2 (Vg.Rd.self Ii) _ _ _ _ w' (RV hQ w' h) hQ (by omega)).mono (fun _ _ h => TB.bool ho3 h)
  have K4 := fun (hQ : 0 < Vg.nat32 ys) (w' : World) (h : Below w.heap.size w w') => (holds_any _ _ j1 j2 (Vg.Rd.self Ih) _ _ _ _ w' (RV hQ w' h) hQ (by omega)).mono (fun _ _ h => TB.bool ho4 h)
  clear RV ho1 ho2 ho3 ho4 hm hj Ii Ih h0 h1 b00 b01 b10 b11 r1 r2 q1 q2
  obtain ⟨I1, e⟩ : ∃ n, Vg.atn true i1 = n := ⟨_, rfl⟩
  rw [e] at ME OI VI K3
  clear e
  obtain ⟨I2, e⟩ : ∃ n, Vg.atn true i2 = n := ⟨_, rfl⟩
  rw [e] at ME OI VI K3
  clear e
  obtain ⟨H1, e⟩ : ∃ n, Vg.atn true j1 = n := ⟨_, rfl⟩
  rw [e] at JO OH VH K4 T1
  clear e
  obtain ⟨H2, e⟩ : ∃ n, Vg.atn true j2 = n := ⟨_, rfl⟩
  rw [e] at JO OH VH K4 T2
  clear e
  obtain ⟨A1, e⟩ : ∃ n, Vg.atn true p = n := ⟨_, rfl⟩
  rw [e] at RX T1
  clear e
  obtain ⟨A2, e⟩ : ∃ n, Vg.atn true q = n := ⟨_, rfl⟩
  rw [e] at RX T2
  clear e
  obtain ⟨C1, e⟩ : ∃ n, Vg.atn true r = n := ⟨_, rfl⟩
  rw [e] at RY T1
  clear e
  obtain ⟨C2, e⟩ : ∃ n, Vg.atn true s = n := ⟨_, rfl⟩
  rw [e] at RY T2
  clear e
  have HK := hide (show _ ∧ _ ∧ _ ∧ _ from ⟨K1, K2, K3, K4⟩)
  have HNV := hide NV
  clear K1 K2 K3 K4 NV
  have hst := sto
  go_enter Try.func8, Try.ntmps8
  go_wp2_with fail
  refine (AW _).mono ?_; rintro e w1 ⟨rfl, hb⟩
  have x0 : w1.cell? ⟨w.heap.size, 0, none⟩ = some (.int .u64 (X0 : Int)) := keep_cell hb (by first | (simp; done) | (simp; omega)) (by simp [go_sem])
  have x1 : w1.cell? ⟨w.heap.size, 1, none⟩ = some (.int .u64 (Y0 : Int)) := keep_cell hb (by first | (simp; done) | (simp; omega)) (by simp [go_sem])
  have y0 : w1.cell? ⟨w.heap.size + 1, 0, none⟩ = some (.int .u64 (X1 : Int)) := keep_cell hb (by first | (simp; done) | (simp; omega)) (by simp [go_sem])
  have y1 : w1.cell? ⟨w.heap.size + 1, 1, none⟩ = some (.int .u64 (Y1 : Int)) := keep_cell hb (by first | (simp; done) | (simp; omega)) (by simp [go_sem])
  have v0 : w1.cell? ⟨w.heap.size + 2, 0, none⟩ = some (.bool sv) := keep_cell hb (by first | (simp; done) | (simp; omega)) (by simp [go_sem])
  have v1 : w1.cell? ⟨w.heap.size + 2, 1, none⟩ = some (.slice V1 l1 d1) := keep_cell hb (by first | (simp; done) | (simp; omega)) (by simp [go_sem])
  have v2 : w1.cell? ⟨w.heap.size + 2, 2, none⟩ = some (.slice V2 l2 d2) := keep_cell hb (by first | (simp; done) | (simp; omega)) (by simp [go_sem])
  have zx : w.heap.size < w1.heap.size := by have := hb.size; simp at this; omega
  have zy : w.heap.size + 1 < w1.heap.size := by have := hb.size; simp at this; omega
  have zv : w.heap.size + 2 < w1.heap.size := by have := hb.size; simp at this; omega
  have g : Below w.heap.size w w1 := b_three.trans (hb.mono (by simp <;> omega))
  clear hb AW
  go_upto_region 3 with fail
  go_cut [7] (fun v wx => ∃ GI : Nat, v = .pointer (some ⟨GI, 0, none⟩) ∧ wx.cell? ⟨GI, 0, none⟩ = some (.int .u64 (I1 : Int)) ∧ wx.cell? ⟨GI, 1, none⟩ = some (.int .u64 (I2 : Int)) ∧ GI < wx.heap.size ∧ wx.cell? ⟨w.heap.size, 0, none⟩ = some (.int .u64 (X0 : Int)) ∧ wx.cell? ⟨w.heap.size, 1, none⟩ = some (.int .u64 (Y0 : Int)) ∧ w.heap.size < wx.heap.size ∧ wx.cell? ⟨w.heap.size + 1, 0, none⟩ = some (.int .u64 (X1 : Int)) ∧ wx.cell? ⟨w.heap.size + 1, 1, none⟩ = some (.int .u64 (Y1 : Int)) ∧ w.heap.size + 1 < wx.heap.size ∧ wx.cell? ⟨w.heap.size + 2, 0, none⟩ = some (.bool sv) ∧ wx.cell? ⟨w.heap.size + 2, 1, none⟩ = some (.slice V1 l1 d1) ∧ wx.cell? ⟨w.heap.size + 2, 2, none⟩ = some (.slice V2 l2 d2) ∧ w.heap.size + 2 < wx.heap.size ∧ Below w.heap.size w wx)
  case first =>
    have gs := g.size
    go_region_held3 (fun wx => wx.cell? ⟨w.heap.size, 0, none⟩ = some (.int .u64 (X0 : Int)) ∧ wx.cell? ⟨w.heap.size, 1, none⟩ = some (.int .u64 (Y0 : Int)) ∧ w.heap.size < wx.heap.size ∧ wx.cell? ⟨w.heap.size + 1, 0, none⟩ = some (.int .u64 (X1 : Int)) ∧ wx.cell? ⟨w.heap.size + 1, 1, none⟩ = some (.int .u64 (Y1 : Int)) ∧ w.heap.size + 1 < wx.heap.size ∧ wx.cell? ⟨w.heap.size + 2, 0, none⟩ = some (.bool sv) ∧ wx.cell? ⟨w.heap.size + 2, 1, none⟩ = some (.slice V1 l1 d1) ∧ wx.cell? ⟨w.heap.size + 2, 2, none⟩ = some (.slice V2 l2 d2) ∧ w.heap.size + 2 < wx.heap.size ∧ Below w.heap.size w wx)
      (((try dsimp only); (try go_split_ands); (repeat' apply And.intro) <;> first | assumption | omega | exact keep_cell hb1 (by first | (dsimp only; omega) | (simp; omega)) (by first | assumption | (simp [*]; done)) | exact keep_cell b_one (by dsimp only; omega) (by first | assumption | (simp [*]; done)) | (rw [World.cell?_setCell_other (h := fun e => absurd (congrArg Addr.block e) (by dsimp only; omega)), World.cell?_setCell_other (h := fun e => absurd (congrArg Addr.block e) (by dsimp only; omega))]; first | assumption | (simp [*]; done)) | (simp; omega) | exact Below.alloc (by first | assumption | (simp [*]; done)) (by first | omega | (simp; omega)) _ | exact alloc_two (by dsimp only; omega) (by first | assumption | (simp [*]; done)) | exact alloc_below (by omega) (by omega) (by first | assumption | (simp [*]; done)) | exact Below.setCell (Below.setCell (by first | assumption | (simp [*]; done)) (by dsimp only; omega) _) (by dsimp only; omega) _ | (simp [*]; done) | exact Below.drew (by assumption) | exact keep_cell hb1 (by first | (dsimp only; omega) | (simp; omega)) (by simp [*]) | (have := hb1.size; omega) | (have := hb1.size; simp at this; omega) | exact bch (by simp [*]) hb1 | exact bch (Below.drew (by simp [*])) hb1))
      (first | (go_at_call 21; first | ((with_reducible refine (N0 _).mono ?_); rintro e w' ⟨rfl, hb1⟩; (try (have nb := new_k hb1 nb)); (try (have nb := new_c hb1)); (try (have nb := new_d hb1)); (try simp only [World.size_drew] at nb); have zs := hb1.size; (try simp only [World.size_drew] at zs)) | ((with_reducible refine (N1 _).mono ?_); rintro e w' ⟨rfl, hb1⟩; (try (have nb := new_k hb1 nb)); (try (have nb := new_c hb1)); (try (have nb := new_d hb1)); (try simp only [World.size_drew] at nb); have zs := hb1.size; (try simp only [World.size_drew] at zs))) | (go_at_call 23; (with_reducible refine (ME _).mono ?_); rintro e w' ⟨rfl, hb1⟩; (try (have nb := new_k hb1 nb)); (try (have nb := new_c hb1)); (try (have nb := new_d hb1)); (try simp only [World.size_drew] at nb); have zs := hb1.size; (try simp only [World.size_drew] at zs)) | (go_at_call 19; (with_reducible refine (OI _).mono ?_); rintro e w' ⟨rfl, hb1⟩; (try (have nb := new_k hb1 nb)); (try (have nb := new_c hb1)); (try (have nb := new_d hb1)); (try simp only [World.size_drew] at nb); have zs := hb1.size; (try simp only [World.size_drew] at zs)))
    all_goals
      go_wp2_with fail
      go_meet
      refine ⟨_, rfl, ?_⟩
      (repeat' apply And.intro) <;> first | exact keep_cell b_one (by dsimp only <;> omega) (by assumption) | assumption | (simp [go_sem, *]; done) | exact g.alloc g.size _ | (simp; omega) | (simp [*]; done)
  case rest =>
  clear x0 x1 zx y0 y1 zy v0 v1 v2 zv g
  obtain ⟨GI, rfl, i0, i1, zi, x0, x1, zx, y0, y1, zy, v0, v1, v2, zv, g⟩ := hcut
  clear ME OI
  go_upto_region 4 with fail
  go_cut [8] (fun v wx => ∃ GH : Nat, v = .pointer (some ⟨GH, 0, none⟩) ∧ wx.cell? ⟨GH, 0, none⟩ = some (.int .u64 (H1 : Int)) ∧ wx.cell? ⟨GH, 1, none⟩ = some (.int .u64 (H2 : Int)) ∧ GH < wx.heap.size ∧ wx.cell? ⟨GI, 0, none⟩ = some (.int .u64 (I1 : Int)) ∧ wx.cell? ⟨GI, 1, none⟩ = some (.int .u64 (I2 : Int)) ∧ GI < wx.heap.size ∧ wx.cell? ⟨w.heap.size, 0, none⟩ = some (.int .u64 (X0 : Int)) ∧ wx.cell? ⟨w.heap.size, 1, none⟩ = some (.int .u64 (Y0 : Int)) ∧ w.heap.size < wx.heap.size ∧ wx.cell? ⟨w.heap.size + 1, 0, none⟩ = some (.int .u64 (X1 : Int)) ∧ wx.cell? ⟨w.heap.size + 1, 1, none⟩ = some (.int .u64 (Y1 : Int)) ∧ w.heap.size + 1 < wx.heap.size ∧ wx.cell? ⟨w.heap.size + 2, 0, none⟩ = some (.bool sv) ∧ wx.cell? ⟨w.heap.size + 2, 1, none⟩ = some (.slice V1 l1 d1) ∧ wx.cell? ⟨w.heap.size + 2, 2, none⟩ = some (.slice V2 l2 d2) ∧ w.heap.size + 2 < wx.heap.size ∧ Below w.heap.size w wx)
  case first =>
    have gs := g.size
    go_region_held3 (fun wx => wx.cell? ⟨GI, 0, none⟩ = some (.int .u64 (I1 : Int)) ∧ wx.cell? ⟨GI, 1, none⟩ = some (.int .u64 (I2 : Int)) ∧ GI < wx.heap.size ∧ wx.cell? ⟨w.heap.size, 0, none⟩ = some (.int .u64 (X0 : Int)) ∧ wx.cell? ⟨w.heap.size, 1, none⟩ = some (.int .u64 (Y0 : Int)) ∧ w.heap.size < wx.heap.size ∧ wx.cell? ⟨w.heap.size + 1, 0, none⟩ = some (.int .u64 (X1 : Int)) ∧ wx.cell? ⟨w.heap.size + 1, 1, none⟩ = some (.int .u64 (Y1 : Int)) ∧ w.heap.size + 1 < wx.heap.size ∧ wx.cell? ⟨w.heap.size + 2, 0, none⟩ = some (.bool sv) ∧ wx.cell? ⟨w.heap.size + 2, 1, none⟩ = some (.slice V1 l1 d1) ∧ wx.cell? ⟨w.heap.size + 2, 2, none⟩ = some (.slice V2 l2 d2) ∧ w.heap.size + 2 < wx.heap.size ∧ Below w.heap.size w wx)
      (((try dsimp only); (try go_split_ands); (repeat' apply And.intro) <;> first | assumption | omega | exact keep_cell hb1 (by first | (dsimp only; omega) | (simp; omega)) (by first | assumption | (simp [*]; done)) | exact keep_cell b_one (by dsimp only; omega) (by first | assumption | (simp [*]; done)) | (rw [World.cell?_setCell_other (h := fun e => absurd (congrArg Addr.block e) (by dsimp only; omega)), World.cell?_setCell_other (h := fun e => absurd (congrArg Addr.block e) (by dsimp only; omega))]; first | assumption | (simp [*]; done)) | (simp; omega) | exact Below.alloc (by first | assumption | (simp [*]; done)) (by first | omega | (simp; omega)) _ | exact alloc_two (by dsimp only; omega) (by first | assumption | (simp [*]; done)) | exact alloc_below (by omega) (by omega) (by first | assumption | (simp [*]; done)) | exact Below.setCell (Below.setCell (by first | assumption | (simp [*]; done)) (by dsimp only; omega) _) (by dsimp only; omega) _ | (simp [*]; done) | exact Below.drew (by assumption) | exact keep_cell hb1 (by first | (dsimp only; omega) | (simp; omega)) (by simp [*]) | (have := hb1.size; omega) | (have := hb1.size; simp at this; omega) | exact bch (by simp [*]) hb1 | exact bch (Below.drew (by simp [*])) hb1))
      (first | (go_at_call 21; first | ((with_reducible refine (N0 _).mono ?_); rintro e w' ⟨rfl, hb1⟩; (try (have nb := new_k hb1 nb)); (try (have nb := new_c hb1)); (try (have nb := new_d hb1)); (try simp only [World.size_drew] at nb); have zs := hb1.size; (try simp only [World.size_drew] at zs)) | ((with_reducible refine (N1 _).mono ?_); rintro e w' ⟨rfl, hb1⟩; (try (have nb := new_k hb1 nb)); (try (have nb := new_c hb1)); (try (have nb := new_d hb1)); (try simp only [World.size_drew] at nb); have zs := hb1.size; (try simp only [World.size_drew] at zs))) | (go_at_call 20; (with_reducible refine (JO _).mono ?_); rintro e w' ⟨rfl, hb1⟩; (try (have nb := new_k hb1 nb)); (try (have nb := new_c hb1)); (try (have nb := new_d hb1)); (try simp only [World.size_drew] at nb); have zs := hb1.size; (try simp only [World.size_drew] at zs)) | (go_at_call 19; (with_reducible refine (OH _).mono ?_); rintro e w' ⟨rfl, hb1⟩; (try (have nb := new_k hb1 nb)); (try (have nb := new_c hb1)); (try (have nb := new_d hb1)); (try simp only [World.size_drew] at nb); have zs := hb1.size; (try simp only [World.size_drew] at zs)))
    all_goals
      go_wp2_with fail
      go_meet
      refine ⟨_, rfl, ?_⟩
      (repeat' apply And.intro) <;> first | exact keep_cell b_one (by dsimp only <;> omega) (by assumption) | assumption | (simp [go_sem, *]; done) | exact g.alloc g.size _ | (simp; omega) | (simp [*]; done)
  case rest =>
  clear i0 i1 zi x0 x1 zx y0 y1 zy v0 v1 v2 zv g
  obtain ⟨GH, rfl, h0, h1, zh, i0, i1, zi, x0, x1, zx, y0, y1, zy, v0, v1, v2, zv, g⟩ := hcut
  clear JO OH N0 N1
  go_upto_region 5 with fail
  go_cut [9] (fun v wx => ∃ GA : Nat, v = .pointer (some ⟨GA, 0, none⟩) ∧ wx.cell? ⟨GA, 0, none⟩ = some (.int .u64 (A1 : Int)) ∧ wx.cell? ⟨GA, 1, none⟩ = some (.int .u64 (A2 : Int)) ∧ GA < wx.heap.size ∧ wx.cell? ⟨GH, 0, none⟩ = some (.int .u64 (H1 : Int)) ∧ wx.cell? ⟨GH, 1, none⟩ = some (.int .u64 (H2 : Int)) ∧ GH < wx.heap.size ∧ wx.cell? ⟨GI, 0, none⟩ = some (.int .u64 (I1 : Int)) ∧ wx.cell? ⟨GI, 1, none⟩ = some (.int .u64 (I2 : Int)) ∧ GI < wx.heap.size ∧ wx.cell? ⟨w.heap.size, 0, none⟩ = some (.int .u64 (X0 : Int)) ∧ wx.cell? ⟨w.heap.size, 1, none⟩ = some (.int .u64 (Y0 : Int)) ∧ w.heap.size < wx.heap.size ∧ wx.cell? ⟨w.heap.size + 1, 0, none⟩ = some (.int .u64 (X1 : Int)) ∧ wx.cell? ⟨w.heap.size + 1, 1, none⟩ = some (.int .u64 (Y1 : Int)) ∧ w.heap.size + 1 < wx.heap.size ∧ wx.cell? ⟨w.heap.size + 2, 0, none⟩ = some (.bool sv) ∧ wx.cell? ⟨w.heap.size + 2, 1, none⟩ = some (.slice V1 l1 d1) ∧ wx.cell? ⟨w.heap.size + 2, 2, none⟩ = some (.slice V2 l2 d2) ∧ w.heap.size + 2 < wx.heap.size ∧ Below w.heap.size w wx)
  case first =>
    go_wp2_with fail
    refine (RX _).mono ?_; rintro e w' ⟨rfl, hb⟩
    have h0 := keep_cell hb zh h0
    have h1 := keep_cell hb zh h1
    have i0 := keep_cell hb zi i0
    have i1 := keep_cell hb zi i1
    have x0 := keep_cell hb zx x0
    have x1 := keep_cell hb zx x1
    have y0 := keep_cell hb zy y0
    have y1 := keep_cell hb zy y1
    have v0 := keep_cell hb zv v0
    have v1 := keep_cell hb zv v1
    have v2 := keep_cell hb zv v2
    have zh := Nat.lt_of_lt_of_le zh hb.size
    have zi := Nat.lt_of_lt_of_le zi hb.size
    have zx := Nat.lt_of_lt_of_le zx hb.size
    have zy := Nat.lt_of_lt_of_le zy hb.size
    have zv := Nat.lt_of_lt_of_le zv hb.size
    have g := (by first | exact bch g hb | exact bch g.drew hb)
    clear hb
    go_wp2_with fail
    go_meet
    refine ⟨_, rfl, ?_⟩
    (repeat' apply And.intro) <;> first | exact keep_cell b_one (by dsimp only <;> omega) (by assumption) | assumption | (simp [go_sem, *]; done) | exact g.alloc g.size _ | (simp; omega) | (simp [*]; done)
  case rest =>
  clear h0 h1 zh i0 i1 zi x0 x1 zx y0 y1 zy v0 v1 v2 zv g
  obtain ⟨GA, rfl, a0, a1, za, h0, h1, zh, i0, i1, zi, x0, x1, zx, y0, y1, zy, v0, v1, v2, zv, g⟩ := hcut
  go_upto_region 6 with fail
  go_cut [10] (fun v wx => ∃ GB : Nat, v = .pointer (some ⟨GB, 0, none⟩) ∧ wx.cell? ⟨GB, 0, none⟩ = some (.int .u64 (C1 : Int)) ∧ wx.cell? ⟨GB, 1, none⟩ = some (.int .u64 (C2 : Int)) ∧ GB < wx.heap.size ∧ wx.cell? ⟨GA, 0, none⟩ = some (.int .u64 (A1 : Int)) ∧ wx.cell? ⟨GA, 1, none⟩ = some (.int .u64 (A2 : Int)) ∧ GA < wx.heap.size ∧ wx.cell? ⟨GH, 0, none⟩ = some (.int .u64 (H1 : Int)) ∧ wx.cell? ⟨GH, 1, none⟩ = some (.int .u64 (H2 : Int)) ∧ GH < wx.heap.size ∧ wx.cell? ⟨GI, 0, none⟩ = some (.int .u64 (I1 : Int)) ∧ wx.cell? ⟨GI, 1, none⟩ = some (.int .u64 (I2 : Int)) ∧ GI < wx.heap.size ∧ wx.cell? ⟨w.heap.size, 0, none⟩ = some (.int .u64 (X0 : Int)) ∧ wx.cell? ⟨w.heap.size, 1, none⟩ = some (.int .u64 (Y0 : Int)) ∧ w.heap.size < wx.heap.size ∧ wx.cell? ⟨w.heap.size + 1, 0, none⟩ = some (.int .u64 (X1 : Int)) ∧ wx.cell? ⟨w.heap.size + 1, 1, none⟩ = some (.int .u64 (Y1 : Int)) ∧ w.heap.size + 1 < wx.heap.size ∧ wx.cell? ⟨w.heap.size + 2, 0, none⟩ = some (.bool sv) ∧ wx.cell? ⟨w.heap.size + 2, 1, none⟩ = some (.slice V1 l1 d1) ∧ wx.cell? ⟨w.heap.size + 2, 2, none⟩ = some (.slice V2 l2 d2) ∧ w.heap.size + 2 < wx.heap.size ∧ Below w.heap.size w wx)
  case first =>
    go_wp2_with fail
    refine (RY _).mono ?_; rintro e w' ⟨rfl, hb⟩
    have a0 := keep_cell hb za a0
    have a1 := keep_cell hb za a1
    have h0 := keep_cell hb zh h0
    have h1 := keep_cell hb zh h1
    have i0 := keep_cell hb zi i0
    have i1 := keep_cell hb zi i1
    have x0 := keep_cell hb zx x0
    have x1 := keep_cell hb zx x1
    have y0 := keep_cell hb zy y0
    have y1 := keep_cell hb zy y1
    have v0 := keep_cell hb zv v0
    have v1 := keep_cell hb zv v1
    have v2 := keep_cell hb zv v2
    have za := Nat.lt_of_lt_of_le za hb.size
    have zh := Nat.lt_of_lt_of_le zh hb.size
    have zi := Nat.lt_of_lt_of_le zi hb.size
    have zx := Nat.lt_of_lt_of_le zx hb.size
    have zy := Nat.lt_of_lt_of_le zy hb.size
    have zv := Nat.lt_of_lt_of_le zv hb.size
    have g := (by first | exact bch g hb | exact bch g.drew hb)
    clear hb
    go_wp2_with fail
    go_meet
    refine ⟨_, rfl, ?_⟩
    (repeat' apply And.intro) <;> first | exact keep_cell b_one (by dsimp only <;> omega) (by assumption) | assumption | (simp [go_sem, *]; done) | exact g.alloc g.size _ | (simp; omega) | (simp [*]; done)
  case rest =>
  clear a0 a1 za h0 h1 zh i0 i1 zi x0 x1 zx y0 y1 zy v0 v1 v2 zv g
  obtain ⟨GB, rfl, b0, b1, zb, a0, a1, za, h0, h1, zh, i0, i1, zi, x0, x1, zx, y0, y1, zy, v0, v1, v2, zv, g⟩ := hcut
  clear RX RY hst
  go_upto_region 7 with fail
  go_cut [66] (fun v wx => v = .bool false ∧ wx.cell? ⟨GB, 0, none⟩ = some (.int .u64 (C1 : Int)) ∧ wx.cell? ⟨GB, 1, none⟩ = some (.int .u64 (C2 : Int)) ∧ GB < wx.heap.size ∧ wx.cell? ⟨GA, 0, none⟩ = some (.int .u64 (A1 : Int)) ∧ wx.cell? ⟨GA, 1, none⟩ = some (.int .u64 (A2 : Int)) ∧ GA < wx.heap.size ∧ wx.cell? ⟨GH, 0, none⟩ = some (.int .u64 (H1 : Int)) ∧ wx.cell? ⟨GH, 1, none⟩ = some (.int .u64 (H2 : Int)) ∧ GH < wx.heap.size ∧ wx.cell? ⟨GI, 0, none⟩ = some (.int .u64 (I1 : Int)) ∧ wx.cell? ⟨GI, 1, none⟩ = some (.int .u64 (I2 : Int)) ∧ GI < wx.heap.size ∧ wx.cell? ⟨w.heap.size, 0, none⟩ = some (.int .u64 (X0 : Int)) ∧ wx.cell? ⟨w.heap.size, 1, none⟩ = some (.int .u64 (Y0 : Int)) ∧ w.heap.size < wx.heap.size ∧ wx.cell? ⟨w.heap.size + 1, 0, none⟩ = some (.int .u64 (X1 : Int)) ∧ wx.cell? ⟨w.heap.size + 1, 1, none⟩ = some (.int .u64 (Y1 : Int)) ∧ w.heap.size + 1 < wx.heap.size ∧ wx.cell? ⟨w.heap.size + 2, 0, none⟩ = some (.bool sv) ∧ wx.cell? ⟨w.heap.size + 2, 1, none⟩ = some (.slice V1 l1 d1) ∧ wx.cell? ⟨w.heap.size + 2, 2, none⟩ = some (.slice V2 l2 d2) ∧ w.heap.size + 2 < wx.heap.size ∧ Below w.heap.size w wx)
  case first =>
    go_wp2_with fail
    refine (VI _).mono ?_; rintro e w' ⟨rfl, hb⟩
    have b0 := keep_cell hb zb b0
    have b1 := keep_cell hb zb b1
    have a0 := keep_cell hb za a0
    have a1 := keep_cell hb za a1
    have h0 := keep_cell hb zh h0
    have h1 := keep_cell hb zh h1
    have i0 := keep_cell hb zi i0
    have i1 := keep_cell hb zi i1
    have x0 := keep_cell hb zx x0
    have x1 := keep_cell hb zx x1
    have y0 := keep_cell hb zy y0
    have y1 := keep_cell hb zy y1
    have v0 := keep_cell hb zv v0
    have v1 := keep_cell hb zv v1
    have v2 := keep_cell hb zv v2
    have zb := Nat.lt_of_lt_of_le zb hb.size
    have za := Nat.lt_of_lt_of_le za hb.size
    have zh := Nat.lt_of_lt_of_le zh hb.size
    have zi := Nat.lt_of_lt_of_le zi hb.size
    have zx := Nat.lt_of_lt_of_le zx hb.size
    have zy := Nat.lt_of_lt_of_le zy hb.size
    have zv := Nat.lt_of_lt_of_le zv hb.size
    have g := (by first | exact bch g hb | exact bch g.drew hb)
    clear hb
    go_wp2_with fail
    refine (VH _).mono ?_; rintro e w' ⟨rfl, hb⟩
    have b0 := keep_cell hb zb b0
    have b1 := keep_cell hb zb b1
    have a0 := keep_cell hb za a0
    have a1 := keep_cell hb za a1
    have h0 := keep_cell hb zh h0
    have h1 := keep_cell hb zh h1
    have i0 := keep_cell hb zi i0
    have i1 := keep_cell hb zi i1
    have x0 := keep_cell hb zx x0
    have x1 := keep_cell hb zx x1
    have y0 := keep_cell hb zy y0
    have y1 := keep_cell hb zy y1
    have v0 := keep_cell hb zv v0
    have v1 := keep_cell hb zv v1
    have v2 := keep_cell hb zv v2
    have zb := Nat.lt_of_lt_of_le zb hb.size
    have za := Nat.lt_of_lt_of_le za hb.size
    have zh := Nat.lt_of_lt_of_le zh hb.size
    have zi := Nat.lt_of_lt_of_le zi hb.size
    have zx := Nat.lt_of_lt_of_le zx hb.size
    have zy := Nat.lt_of_lt_of_le zy hb.size
    have zv := Nat.lt_of_lt_of_le zv hb.size
    have g := (by first | exact bch g hb | exact bch g.drew hb)
    clear hb
    rcases T1.out with t1 | ⟨t1, t1'⟩ <;> rcases T2.out with t2 | ⟨t2, t2'⟩
    · have s1 : ((H1 : Int) != (A1 : Int)) = false := by rw [bne_eq_false_iff_eq]; omega
      have s3 : ((H2 : Int) != (A2 : Int)) = false := by rw [bne_eq_false_iff_eq]; omega
      clear t1 t2 T1 T2
      go_wp2_with fail
      go_meet
      refine ⟨rfl, ?_⟩
      (repeat' apply And.intro) <;> assumption
    · have s1 : ((H1 : Int) != (A1 : Int)) = false := by rw [bne_eq_false_iff_eq]; omega
      have s3 : ((H2 : Int) != (A2 : Int)) = true := by rw [bne_iff_ne]; omega
      have s4 : ((H2 : Int) != (C2 : Int)) = false := by rw [bne_eq_false_iff_eq]; omega
      clear t1 t2 t2' T1 T2
      go_wp2_with fail
      go_meet
      refine ⟨rfl, ?_⟩
      (repeat' apply And.intro) <;> assumption
    · have s1 : ((H1 : Int) != (A1 : Int)) = true := by rw [bne_iff_ne]; omega
      have s2 : ((H1 : Int) != (C1 : Int)) = false := by rw [bne_eq_false_iff_eq]; omega
      have s3 : ((H2 : Int) != (A2 : Int)) = false := by rw [bne_eq_false_iff_eq]; omega
      clear t1 t2 t1' T1 T2
      go_wp2_with fail
      go_meet
      refine ⟨rfl, ?_⟩
      (repeat' apply And.intro) <;> assumption
    · have s1 : ((H1 : Int) != (A1 : Int)) = true := by rw [bne_iff_ne]; omega
      have s2 : ((H1 : Int) != (C1 : Int)) = false := by rw [bne_eq_false_iff_eq]; omega
      have s3 : ((H2 : Int) != (A2 : Int)) = true := by rw [bne_iff_ne]; omega
      have s4 : ((H2 : Int) != (C2 : Int)) = false := by rw [bne_eq_false_iff_eq]; omega
      clear t1 t2 t1' t2' T1 T2
      go_wp2_with fail
      go_meet
      refine ⟨rfl, ?_⟩
      (repeat' apply And.intro) <;> assumption
  case rest =>
  clear VI VH T1 T2 b0 b1 zb a0 a1 za h0 h1 zh i0 i1 zi x0 x1 zx y0 y1 zy v0 v1 v2 zv g
  obtain ⟨rfl, b0, b1, zb, a0, a1, za, h0, h1, zh, i0, i1, zi, x0, x1, zx, y0, y1, zy, v0, v1, v2, zv, g⟩ := hcut
  go_upto_region 9 with fail
  go_wp2_with fail
  refine (HNV.out _ g).mono ?_; rintro e w' ⟨nv, ns, rfl, hr, hn, hwl, hlen, hb⟩
  obtain ⟨A5, k5, rfl⟩ := hr.len
  obtain ⟨n5, e5⟩ : ∃ n, ns.length = n := ⟨_, rfl⟩
  have hz := hwl.zero_iff hr.1
  rw [e5, hn] at hz
  rw [e5]
  have HZ := hide hz
  clear hr hn hwl hlen hz HNV e5
  clear a0 a1 b0 b1
  clear za zb
  have h0 := keep_cell hb zh h0
  have h1 := keep_cell hb zh h1
  have i0 := keep_cell hb zi i0
  have i1 := keep_cell hb zi i1
  have x0 := keep_cell hb zx x0
  have x1 := keep_cell hb zx x1
  have y0 := keep_cell hb zy y0
  have y1 := keep_cell hb zy y1
  have v0 := keep_cell hb zv v0
  have v1 := keep_cell hb zv v1
  have v2 := keep_cell hb zv v2
  have zh := Nat.lt_of_lt_of_le zh hb.size
  have zi := Nat.lt_of_lt_of_le zi hb.size
  have zx := Nat.lt_of_lt_of_le zx hb.size
  have zy := Nat.lt_of_lt_of_le zy hb.size
  have zv := Nat.lt_of_lt_of_le zv hb.size
  have g := (by first | exact bch g hb | exact bch g.drew hb)
  clear hb
  by_cases hD : Vg.nat32 ys = 0
  · have h5 := HZ.out.2 hD
    have t0 : ((n5 : Int) == 0) = true := by rw [beq_iff_eq]; omega
    have t1 : (n5 == 0) = true := by rw [beq_iff_eq]; omega
    subst h5
    clear HZ HK HO hD
    go_wp2
    go_ret
    exact ⟨rfl, g⟩
  · have hQ : 0 < Vg.nat32 ys := by omega
    have t0 : ((n5 : Int) == 0) = false := by rw [beq_eq_false_iff_ne]; have := mt HZ.out.1 hD; omega
    have t1 : (n5 == 0) = false := by rw [beq_eq_false_iff_ne]; have := mt HZ.out.1 hD; omega
    obtain ⟨e3, e4⟩ := HO.out hQ
    subst e3
    have K1 := HK.out.1 hQ
    have K2 := HK.out.2.1 hQ
    have K3 := HK.out.2.2.1 hQ
    have K4 := HK.out.2.2.2 hQ
    clear HZ HK HO hD hQ
    have E4 := hide e4
    clear e4
    go_wp2_with fail
    refine (K1 _ g).mono ?_; rintro e w' ⟨rfl, hb⟩
    have h0 := keep_cell hb zh h0
    have h1 := keep_cell hb zh h1
    have i0 := keep_cell hb zi i0
    have i1 := keep_cell hb zi i1
    have x0 := keep_cell hb zx x0
    have x1 := keep_cell hb zx x1
    have y0 := keep_cell hb zy y0
    have y1 := keep_cell hb zy y1
    have v0 := keep_cell hb zv v0
    have v1 := keep_cell hb zv v1
    have v2 := keep_cell hb zv v2
    have zh := Nat.lt_of_lt_of_le zh hb.size
    have zi := Nat.lt_of_lt_of_le zi hb.size
    have zx := Nat.lt_of_lt_of_le zx hb.size
    have zy := Nat.lt_of_lt_of_le zy hb.size
    have zv := Nat.lt_of_lt_of_le zv hb.size
    have g := (by first | exact bch g hb | exact bch g.drew hb)
    clear hb
    go_wp2_with fail
    refine (K2 _ g).mono ?_; rintro e w' ⟨rfl, hb⟩
    have h0 := keep_cell hb zh h0
    have h1 := keep_cell hb zh h1
    have i0 := keep_cell hb zi i0
    have i1 := keep_cell hb zi i1
    have x0 := keep_cell hb zx x0
    have x1 := keep_cell hb zx x1
    have y0 := keep_cell hb zy y0
    have y1 := keep_cell hb zy y1
    have v0 := keep_cell hb zv v0
    have v1 := keep_cell hb zv v1
    have v2 := keep_cell hb zv v2
    have zh := Nat.lt_of_lt_of_le zh hb.size
    have zi := Nat.lt_of_lt_of_le zi hb.size
    have zx := Nat.lt_of_lt_of_le zx hb.size
    have zy := Nat.lt_of_lt_of_le zy hb.size
    have zv := Nat.lt_of_lt_of_le zv hb.size
    have g := (by first | exact bch g hb | exact bch g.drew hb)
    clear hb
    go_wp2_with fail
    refine (K3 _ g).mono ?_; rintro e w' ⟨rfl, hb⟩
    have h0 := keep_cell hb zh h0
    have h1 := keep_cell hb zh h1
    have i0 := keep_cell hb zi i0
    have i1 := keep_cell hb zi i1
    have x0 := keep_cell hb zx x0
    have x1 := keep_cell hb zx x1
    have y0 := keep_cell hb zy y0
    have y1 := keep_cell hb zy y1
    have v0 := keep_cell hb zv v0
    have v1 := keep_cell hb zv v1
    have v2 := keep_cell hb zv v2
    have zh := Nat.lt_of_lt_of_le zh hb.size
    have zi := Nat.lt_of_lt_of_le zi hb.size
    have zx := Nat.lt_of_lt_of_le zx hb.size
    have zy := Nat.lt_of_lt_of_le zy hb.size
    have zv := Nat.lt_of_lt_of_le zv hb.size
    have g := (by first | exact bch g hb | exact bch g.drew hb)
    clear hb
    clear K1 K2 K3
    have K4 := fun (w' : World) h => K4 w' h
    cases o1 <;> cases o2
    · clear K4 E4
      go_wp2_with fail
      go_ret
      exact ⟨rfl, g⟩
    · obtain rfl : o4 = true := by have := E4.out; cases o4; exact absurd this (by decide); rfl
      clear E4
      go_wp2_with fail
      refine (K4 _ g).mono ?_; rintro e w' ⟨rfl, hb⟩
      have g := bch g hb
      clear hb K4
      go_wp2_with fail
      go_ret
      exact ⟨rfl, g⟩
    · obtain rfl : o4 = true := by have := E4.out; cases o4; exact absurd this (by decide); rfl
      clear E4
      go_wp2_with fail
      refine (K4 _ g).mono ?_; rintro e w' ⟨rfl, hb⟩
      have g := bch g hb
      clear hb K4
      go_wp2_with fail
      go_ret
      exact ⟨rfl, g⟩
    · obtain rfl : o4 = true := by have := E4.out; cases o4; exact absurd this (by decide); rfl
      clear E4
      go_wp2_with fail
      refine (K4 _ g).mono ?_; rintro e w' ⟨rfl, hb⟩
      have g := bch g hb
      clear hb K4
      go_wp2_with fail
      go_ret
      exact ⟨rfl, g⟩

end Go.Proofs.Ytljnadoodbninaa.relPoints
