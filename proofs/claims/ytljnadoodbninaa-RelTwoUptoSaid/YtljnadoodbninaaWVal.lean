/- Contracts of the reference's Valid and of the law's neighbours, where they answer yes. -/
import Derived.Test.YtljnadoodbninaaWRefRead
import Derived.Test.YtljnadoodbninaaKRelKinds
namespace Go.Proofs.Ytljnadoodbninaa
open Go.RowKit
theorem atn_nat {p : Int} (hp : Vg.Pl p) : (p < 0 → (Vg.atn true p : Int) = 9223372036854775808 - p) ∧ (0 ≤ p → (Vg.atn true p : Int) = p) := by
  have hb := hp.bd
  unfold Vg.atn
  simp only [Vg.S, if_true]
  refine ⟨fun h => ?_, fun h => ?_⟩
  · rw [if_pos h]; omega
  · rw [if_neg (by omega)]; omega
theorem atn_top_ne {p : Int} (hp : Vg.Pl p) : ((Vg.atn true p : Int) != 9223372036854775808) = true := by
  have h := atn_nat hp
  have hb := hp.bd
  rw [bne_iff_ne]
  omega
set_option maxRecDepth 20000 in
set_option maxHeartbeats 2000000 in
theorem rvalid_yes (p q : Int) (hp : Vg.Pl p) (hq : Vg.Pl q) (h : p < q) (w : World) : Calls Try.prog 37 #[.agg #[.int .u64 (Vg.atn true p : Nat), .int .u64 (Vg.atn true q : Nat)]] w fun e w' => e = .returned (.bool true) ∧ Below w.heap.size w w' := by
  have hpi := Vg.PI_pos
  have S1 : Vg.snd (Vg.atn true p) (Vg.atn true q) = true := by
    rw [Vg.snd_iff, Vg.nn_atn hp, Vg.nn_atn hq, Vg.pl_atn hp, Vg.pl_atn hq]
    unfold Vg.Pl at hp hq
    exact ⟨rfl, rfl, by omega, by omega, by omega⟩
  have E1 := relKinds.eqU (a := Vg.atn true p) (b := Vg.atn true q) (c := Vg.atn true Vg.PI) (d := Vg.atn true (-Vg.PI)) false (by
    refine ⟨fun h => (by cases h), fun ⟨h1, h2⟩ => ?_⟩
    have h1 := Vg.atn_inj hp Vg.pl_top h1
    have h2 := Vg.atn_inj hq Vg.pl_bot h2
    omega)
  have R1 := fun w => rempty_any w
  have S2 := fun w => rsound_any (Vg.atn true p) (Vg.atn true q) (Vg.atn_le hp) (Vg.atn_le hq) w
  rw [S1] at S2
  have t1 := atn_top_ne hp
  have t2 := atn_top_ne hq
  clear S1
  obtain ⟨X0, hX⟩ : ∃ n, Vg.atn true p = n := ⟨_, rfl⟩
  obtain ⟨Y0, hY⟩ : ∃ n, Vg.atn true q = n := ⟨_, rfl⟩
  obtain ⟨T0, hT⟩ : ∃ n, Vg.atn true Vg.PI = n := ⟨_, rfl⟩
  obtain ⟨T1, hU⟩ : ∃ n, Vg.atn true (-Vg.PI) = n := ⟨_, rfl⟩
  rw [hX] at E1 S2 t1 ⊢
  rw [hY] at E1 S2 t2 ⊢
  rw [hT, hU] at E1 R1
  clear hX hY hT hU hp hq h hpi
  go_enter Try.func37, Try.ntmps37
  go_upto_region 1 with fail
  have m00 : (w.alloc (.cells #[.int .u64 (X0 : Int), .int .u64 (Y0 : Int)] 24)).cell? ⟨w.heap.size, 0, none⟩ = some (.int .u64 (X0 : Int)) := by simp [go_sem]
  have m01 : (w.alloc (.cells #[.int .u64 (X0 : Int), .int .u64 (Y0 : Int)] 24)).cell? ⟨w.heap.size, 1, none⟩ = some (.int .u64 (Y0 : Int)) := by simp [go_sem]
  have z : w.heap.size + 0 < (w.alloc (.cells #[.int .u64 (X0 : Int), .int .u64 (Y0 : Int)] 24)).heap.size := by simp
  have g : Below w.heap.size w (w.alloc (.cells #[.int .u64 (X0 : Int), .int .u64 (Y0 : Int)] 24)) := b_one
  generalize hW : (w.alloc (.cells #[.int .u64 (X0 : Int), .int .u64 (Y0 : Int)] 24)) = W0 at *
  clear hW
  go_region_held3 (fun wx => wx.cell? ⟨w.heap.size, 0, none⟩ = some (.int .u64 X0) ∧ wx.cell? ⟨w.heap.size, 1, none⟩ = some (.int .u64 Y0) ∧ w.heap.size + 0 < wx.heap.size ∧ Below w.heap.size w wx)
      (((try dsimp only); (repeat' apply And.intro) <;> first | assumption | (simp [*]; done) | exact Below.drew (by assumption) | exact keep_cell hb1 (by first | (dsimp only; omega) | (simp; omega)) (by simp [*]) | (have := hb1.size; omega) | (have := hb1.size; simp at this; omega) | exact bch (by simp [*]) hb1 | exact bch (Below.drew (by simp [*])) hb1))
      (first | (go_at_call 32; refine (R1 _).mono ?_; rintro e w' ⟨rfl, hb1⟩) | fail)
  all_goals
    go_split_ands
    go_wp2_with fail
    refine (S2 _).mono ?_; rintro e w9 ⟨rfl, hb9⟩
    have M0 : w9.cell? ⟨w.heap.size, 0, none⟩ = some (.int .u64 (X0 : Int)) := keep_cell hb9 (by first | (dsimp only; omega) | (simp; omega)) (by assumption)
    have M1 : w9.cell? ⟨w.heap.size, 1, none⟩ = some (.int .u64 (Y0 : Int)) := keep_cell hb9 (by first | (dsimp only; omega) | (simp; omega)) (by assumption)
    have G9 : Below w.heap.size w w9 := bch (by assumption) hb9
    clear hb9
    go_wp2_with fail
    go_ret
    exact ⟨rfl, by simp [*]⟩

theorem rneg_any (x : Nat) (n : Bool) (hn : decide ((9223372036854775808 : Int) < (x : Int)) = n) (w : World) : Calls Try.prog 95 #[.int .u64 x] w fun e w' => e = .returned (.bool n) ∧ w = w' := by
  go_enter Try.func95, Try.ntmps95
  go_wp2
  go_ret
  exact ⟨rfl, rfl⟩

set_option maxRecDepth 20000 in
set_option maxHeartbeats 2000000 in
theorem neigh_bot (X0 Y0 : Nat) (t1 : ((X0 : Int) == 18442240474082181120) = true) (t2 : ((Y0 : Int) == 18442240474082181119) = true) (w : World) : Calls Try.prog 63 #[.agg #[.int .u64 X0, .int .u64 Y0]] w fun e w' => e = .returned (.bool true) ∧ Below w.heap.size w w' := by
  go_enter Try.func63, Try.ntmps63
  go_wp2_with (go_at_call 95; refine (rneg_any X0 false t2 _).mono ?_; rintro e w' ⟨rfl, rfl⟩)
  go_ret
  exact ⟨rfl, b_one⟩

set_option maxRecDepth 20000 in
set_option maxHeartbeats 2000000 in
theorem neigh_zero (X0 Y0 : Nat) (t1 : ((X0 : Int) == 18442240474082181120) = false) (t2 : ((X0 : Int) == 0) = true) (t3 : ((Y0 : Int) == 1) = true) (w : World) : Calls Try.prog 63 #[.agg #[.int .u64 X0, .int .u64 Y0]] w fun e w' => e = .returned (.bool true) ∧ Below w.heap.size w w' := by
  go_enter Try.func63, Try.ntmps63
  go_wp2_with (go_at_call 95; refine (rneg_any X0 false t2 _).mono ?_; rintro e w' ⟨rfl, rfl⟩)
  go_ret
  exact ⟨rfl, b_one⟩

set_option maxRecDepth 20000 in
set_option maxHeartbeats 2000000 in
theorem neigh_pos (X0 Y0 : Nat) (t1 : ((X0 : Int) == 18442240474082181120) = false) (t2 : ((X0 : Int) == 0) = false) (t3 : decide ((9223372036854775808 : Int) < (X0 : Int)) = false) (t4 : IntKind.u64.wrap ((X0 : Int) + 1) = (Y0 : Int)) (w : World) : Calls Try.prog 63 #[.agg #[.int .u64 X0, .int .u64 Y0]] w fun e w' => e = .returned (.bool true) ∧ Below w.heap.size w w' := by
  have N1 := fun w => rneg_any X0 false t3 w
  go_enter Try.func63, Try.ntmps63
  go_wp2_with (go_at_call 95; refine (N1 _).mono ?_; rintro e w' ⟨rfl, rfl⟩)
  go_ret
  exact ⟨rfl, b_one⟩

set_option maxRecDepth 20000 in
set_option maxHeartbeats 2000000 in
theorem neigh_neg (X0 Y0 : Nat) (K : Nat) (t1 : ((X0 : Int) == 18442240474082181120) = false) (t2 : ((X0 : Int) == 0) = false) (t3 : decide ((9223372036854775808 : Int) < (X0 : Int)) = true) (t4 : IntKind.u64.wrap ((X0 : Int) - 1) = (K : Int)) (t5 : K ≤ 18446744073709551615) (t6 : Vg.nn true K = false) (t7 : Vg.plainb true K = Y0) (w : World) : Calls Try.prog 63 #[.agg #[.int .u64 X0, .int .u64 Y0]] w fun e w' => e = .returned (.bool true) ∧ Below w.heap.size w w' := by
  have N1 := fun w => rneg_any X0 true t3 w
  have N2 := fun w => rplain_any K t5 t6 w
  rw [t7] at N2
  clear t5 t6 t7 t3
  go_enter Try.func63, Try.ntmps63
  go_upto_region 7 with (go_at_call 95; refine (N1 _).mono ?_; rintro e w' ⟨rfl, rfl⟩)
  go_region_with (go_at_call 76; refine (N2 _).mono ?_; rintro e w' ⟨rfl, rfl⟩)
  all_goals go_wp2
  all_goals go_ret
  all_goals exact ⟨rfl, by first | exact b_one | exact b_one.drew⟩

theorem neigh_yes (p : Int) (hp : Vg.Pl p) (hq : Vg.Pl (p + 1)) (w : World) : Calls Try.prog 63 #[.agg #[.int .u64 (Vg.atn true p : Nat), .int .u64 (Vg.atn true (p + 1) : Nat)]] w fun e w' => e = .returned (.bool true) ∧ Below w.heap.size w w' := by
  have a := atn_nat hp
  have b := atn_nat hq
  have c := hp.bd
  have d := hq.bd
  by_cases h1 : p = -9218868437227405312
  · exact neigh_bot _ _ (by rw [beq_iff_eq]; omega) (by rw [beq_iff_eq]; omega) w
  by_cases h2 : p = 0
  · exact neigh_zero _ _ (by rw [beq_eq_false_iff_ne]; omega) (by rw [beq_iff_eq]; omega) (by rw [beq_iff_eq]; omega) w
  by_cases h3 : 0 < p
  · exact neigh_pos _ _ (by rw [beq_eq_false_iff_ne]; omega) (by rw [beq_eq_false_iff_ne]; omega) (decide_eq_false (by omega)) (by rw [IntKind.wrap_u64]; omega) w
  · have k1 : Vg.rg true (Vg.atn true p - 1) = (p + 1).natAbs := by simp only [Vg.rg, Vg.S, if_true]; omega
    have k2 : Vg.nn true (Vg.atn true p - 1) = false := by unfold Vg.nn; rw [k1]; simp only [Vg.INF, if_true]; exact decide_eq_false (by omega)
    have k3 : Vg.atn true p - 1 ≤ 18446744073709551615 := by omega
    refine neigh_neg _ _ (Vg.atn true p - 1) (by rw [beq_eq_false_iff_ne]; omega) (by rw [beq_eq_false_iff_ne]; omega) (decide_eq_true (by omega)) (by rw [IntKind.wrap_u64]; omega) k3 k2 ?_ w
    rw [Vg.plain_atn k3 k2]
    congr 1
    unfold Vg.pl
    rw [k1]
    simp only [Vg.ng, Vg.S, if_true, decide_eq_true_eq]
    split <;> omega
end Go.Proofs.Ytljnadoodbninaa
