/- Contracts for the laws on points: Valid of an interval as it is answered; what two have in common, their hull, by the places of their ends. -/
import Derived.Test.YtljnadoodbninaaMHol
import Derived.Test.YtljnadoodbninaaWMeet
import Derived.Test.YtljnadoodbninaaWVal
namespace Go.Proofs.Ytljnadoodbninaa
open Go.RowKit
set_option maxRecDepth 20000 in
set_option maxHeartbeats 2000000 in
theorem rvalid_iv (p q : Int) (hI : Vg.Iv p q) (w : World) : Calls Try.prog 37 #[.agg #[.int .u64 (Vg.atn true p : Nat), .int .u64 (Vg.atn true q : Nat)]] w fun e w' => e = .returned (.bool true) ∧ Below w.heap.size w w' := by
  have hpi := Vg.PI_pos
  have hp := hI.lo
  have hq := hI.hi
  obtain ⟨n, hn⟩ : ∃ n, decide (q < p) = n := ⟨_, rfl⟩
  have HN : n = true ↔ q < p := by rw [← hn, decide_eq_true_eq]
  have S1 : n = false → Vg.snd (Vg.atn true p) (Vg.atn true q) = true := by
    intro h
    have h2 : p ≤ q := by have := mt HN.2 (by rw [h]; decide); omega
    rw [Vg.snd_iff, Vg.nn_atn hp, Vg.nn_atn hq, Vg.pl_atn hp, Vg.pl_atn hq]
    unfold Vg.Iv at hI
    exact ⟨rfl, rfl, h2, by omega, by omega⟩
  have E1 := relKinds.eqU (a := Vg.atn true p) (b := Vg.atn true q) (c := Vg.atn true Vg.PI) (d := Vg.atn true (-Vg.PI)) n (by
    rw [HN]
    constructor
    · intro hh; obtain ⟨rfl, rfl⟩ := hI.empty hh; exact ⟨rfl, rfl⟩
    · rintro ⟨h1, h2⟩
      have h1 := Vg.atn_inj hp Vg.pl_top h1
      have h2 := Vg.atn_inj hq Vg.pl_bot h2
      omega)
  have R1 := fun w => rempty_any w
  have S2 := fun w => rsound_any (Vg.atn true p) (Vg.atn true q) (Vg.atn_le hp) (Vg.atn_le hq) w
  have t1 := atn_top_ne hp
  have t2 := atn_top_ne hq
  clear HN hn
  obtain ⟨X0, hX⟩ : ∃ n, Vg.atn true p = n := ⟨_, rfl⟩
  obtain ⟨Y0, hY⟩ : ∃ n, Vg.atn true q = n := ⟨_, rfl⟩
  obtain ⟨T0, hT⟩ : ∃ n, Vg.atn true Vg.PI = n := ⟨_, rfl⟩
  obtain ⟨T1, hU⟩ : ∃ n, Vg.atn true (-Vg.PI) = n := ⟨_, rfl⟩
  rw [hX, hY] at S1 S2
  rw [hX] at E1 t1 ⊢
  rw [hY] at E1 t2 ⊢
  rw [hT, hU] at E1 R1
  have HS := hide S1
  clear hX hY hT hU hp hq hpi hI S1
  go_enter Try.func37, Try.ntmps37
  go_upto_region 1 with fail
  have m00 : (w.alloc (.cells #[.int .u64 (X0 : Int), .int .u64 (Y0 : Int)] 24)).cell? ⟨w.heap.size, 0, none⟩ = some (.int .u64 (X0 : Int)) := by simp [go_sem]
  have m01 : (w.alloc (.cells #[.int .u64 (X0 : Int), .int .u64 (Y0 : Int)] 24)).cell? ⟨w.heap.size, 1, none⟩ = some (.int .u64 (Y0 : Int)) := by simp [go_sem]
  have z : w.heap.size + 0 < (w.alloc (.cells #[.int .u64 (X0 : Int), .int .u64 (Y0 : Int)] 24)).heap.size := by simp
  have g : Below w.heap.size w (w.alloc (.cells #[.int .u64 (X0 : Int), .int .u64 (Y0 : Int)] 24)) := b_one
  generalize hW : (w.alloc (.cells #[.int .u64 (X0 : Int), .int .u64 (Y0 : Int)] 24)) = W0 at *
  clear hW
  go_cut [5] (fun v wx => v = .bool n ∧ wx.cell? ⟨w.heap.size, 0, none⟩ = some (.int .u64 X0) ∧ wx.cell? ⟨w.heap.size, 1, none⟩ = some (.int .u64 Y0) ∧ w.heap.size + 0 < wx.heap.size ∧ Below w.heap.size w wx)
  case first =>
    go_region_held3 (fun wx => wx.cell? ⟨w.heap.size, 0, none⟩ = some (.int .u64 X0) ∧ wx.cell? ⟨w.heap.size, 1, none⟩ = some (.int .u64 Y0) ∧ w.heap.size + 0 < wx.heap.size ∧ Below w.heap.size w wx)
      (((try dsimp only); (repeat' apply And.intro) <;> first | assumption | (simp [*]; done) | exact Below.drew (by assumption) | exact keep_cell hb1 (by first | (dsimp only; omega) | (simp; omega)) (by simp [*]) | (have := hb1.size; omega) | (have := hb1.size; simp at this; omega) | exact bch (by simp [*]) hb1 | exact bch (Below.drew (by simp [*])) hb1))
      (first | (go_at_call 32; refine (R1 _).mono ?_; rintro e w' ⟨rfl, hb1⟩) | fail)
    all_goals
      go_wp2_with fail
      go_meet
      refine ⟨rfl, ?_⟩
      first | assumption | (go_split_ands; (repeat' apply And.intro) <;> first | assumption | omega | (simp [*]; done))
  case rest =>
  clear m00 m01 z g E1 R1
  obtain ⟨rfl, m00, m01, z, g⟩ := hcut
  cases n
  · have S1 := HS.out rfl
    rw [S1] at S2
    clear S1 HS
    go_wp2_with fail
    refine (S2 _).mono ?_; rintro e w9 ⟨rfl, hb9⟩
    have M0 : w9.cell? ⟨w.heap.size, 0, none⟩ = some (.int .u64 (X0 : Int)) := keep_cell hb9 (by first | (dsimp only; omega) | (simp; omega)) (by assumption)
    have M1 : w9.cell? ⟨w.heap.size, 1, none⟩ = some (.int .u64 (Y0 : Int)) := keep_cell hb9 (by first | (dsimp only; omega) | (simp; omega)) (by assumption)
    have G9 : Below w.heap.size w w9 := bch (by assumption) hb9
    clear hb9
    go_wp2_with fail
    go_ret
    exact ⟨rfl, G9⟩
  · go_wp2_with fail
    go_ret
    exact ⟨rfl, g⟩
theorem meetP {a b c d : Nat} {p q r s x y : Int} (hx : Vg.Rd a b p q) (hy : Vg.Rd c d r s) (hm : Meet p q r s x y) (w : World) : Calls Try.prog 23 #[.agg #[.float .f64 a, .float .f64 b], .agg #[.float .f64 c, .float .f64 d]] w fun e w' => e = .returned (.agg #[.float .f64 (Vg.atn true x), .float .f64 (Vg.atn true y)]) ∧ Below w.heap.size w w' :=
  (meet_any a b c d p q r s hx hy w).mono fun _ _ ⟨x', y', h1, h2, h3⟩ => by
    obtain ⟨rfl, rfl⟩ : x' = x ∧ y' = y := by unfold Meet at hm h2; omega
    exact ⟨h1, h3⟩
theorem joinP {a b c d : Nat} {p q r s x y : Int} (hx : Vg.Rd a b p q) (hy : Vg.Rd c d r s) (hm : Join p q r s x y) (w : World) : Calls Try.prog 20 #[.agg #[.float .f64 a, .float .f64 b], .agg #[.float .f64 c, .float .f64 d]] w fun e w' => e = .returned (.agg #[.float .f64 (Vg.atn true x), .float .f64 (Vg.atn true y)]) ∧ Below w.heap.size w w' :=
  (hull_any a b c d p q r s hx hy w).mono fun _ _ ⟨x', y', h1, h2, h3⟩ => by
    obtain ⟨rfl, rfl⟩ : x' = x ∧ y' = y := by unfold Join at hm h2; omega
    exact ⟨h1, h3⟩
theorem meetP_ex (p q r s : Int) : ∃ x y, Meet p q r s x y := by
  by_cases h : min q s < max p r
  · exact ⟨_, _, .inl ⟨h, rfl, rfl⟩⟩
  · exact ⟨_, _, .inr ⟨by omega, rfl, rfl⟩⟩
/-- A ratio that came in, as it is. -/
theorem Rt.self {w : World} {s : Bool} {A1 A2 : Option Addr} {n1 c1 n2 c2 : Nat} {xs ys : List Nat} (h1 : Rw w (.slice A1 n1 c1) xs) (h2 : Rw w (.slice A2 n2 c2) ys) (h : 0 < Vg.nat32 ys) {B : Nat} (l1 : xs.length ≤ B) (l2 : ys.length ≤ B) :
    Rt w (.agg #[.bool s, .slice A1 n1 c1, .slice A2 n2 c2]) (Vg.zi s (Vg.nat32 xs)) (Vg.nat32 ys) B := ⟨s, A1, n1, c1, A2, n2, c2, xs, ys, rfl, h1, h2, rfl, h, l1, l2⟩
end Go.Proofs.Ytljnadoodbninaa
