/- Contracts of the reference's Sound, Empty, Entire, Read. -/
import Derived.Test.YtljnadoodbninaaWRefIv
namespace Go.Proofs.Ytljnadoodbninaa
open Go.RowKit

theorem top_int : ((Vg.atn true Vg.PI : Nat) : Int) = 9218868437227405312 := by rw [Vg.atn_top]; rfl
theorem bot_int : ((Vg.atn true (-Vg.PI) : Nat) : Int) = 18442240474082181120 := by rw [Vg.atn_bot]; rfl
theorem inf_iff (a : Nat) (ha : a ≤ 18446744073709551615) (hn : Vg.nn true a = false) : ((a : Int) != 9218868437227405312) = decide (Vg.pl true a < Vg.PI) ∧ ((a : Int) != 18442240474082181120) = decide (-Vg.PI < Vg.pl true a) := by
  have b := (Vg.pl_pl hn).bd
  have e := Vg.PI_eq
  constructor
  · rw [Bool.eq_iff_iff, bne_iff_ne, decide_eq_true_iff, e]
    simp only [Vg.pl, Vg.ng, Vg.rg, Vg.S, if_true, decide_eq_true_eq] at *
    split at b <;> split <;> omega
  · rw [Bool.eq_iff_iff, bne_iff_ne, decide_eq_true_iff, e]
    simp only [Vg.pl, Vg.ng, Vg.rg, Vg.S, if_true, decide_eq_true_eq] at *
    split at b <;> split <;> omega

set_option maxRecDepth 20000 in
set_option maxHeartbeats 2000000 in
theorem rsound_any (a b : Nat) (ha : a ≤ 18446744073709551615) (hb : b ≤ 18446744073709551615) (w : World) : Calls Try.prog 77 #[.agg #[.int .u64 a, .int .u64 b]] w fun e w' => e = .returned (.bool (Vg.snd a b)) ∧ Below w.heap.size w w' := by
  have B1 := fun w => rnan_any a ha _ rfl w
  have B2 := fun w => rnan_any b hb _ rfl w
  have B3 := fun w => rabove_any a b ha hb w
  unfold Vg.snd
  unfold abv at B3
  cases h1 : Vg.nn true a
  · rw [h1] at B1 B3
    cases h2 : Vg.nn true b
    · rw [h2] at B2 B3
      have k1 := (inf_iff a ha h1).1
      have k2 := (inf_iff b hb h2).2
      obtain ⟨n3, e3⟩ : ∃ n, decide (Vg.pl true b < Vg.pl true a) = n := ⟨_, rfl⟩
      obtain ⟨n1, e1⟩ : ∃ n, decide (Vg.pl true a < Vg.PI) = n := ⟨_, rfl⟩
      obtain ⟨n2, e2⟩ : ∃ n, decide (-Vg.PI < Vg.pl true b) = n := ⟨_, rfl⟩
      have e4 : decide (Vg.pl true a ≤ Vg.pl true b) = !n3 := by rw [← e3, Bool.eq_iff_iff]; simp
      simp only [Bool.not_false, Bool.true_and] at B3 ⊢
      rw [e3] at B3
      rw [e1] at k1
      rw [e2] at k2
      rw [e4, e1, e2]
      clear h1 h2 ha hb e1 e2 e3 e4
      cases n3 <;> cases n1 <;> cases n2
      all_goals
        go_enter Try.func77, Try.ntmps77
        go_wp2_with (first | (go_at_call 75; first | ((with_reducible refine (B1 _).mono ?_); rintro e w' ⟨rfl, rfl⟩) | ((with_reducible refine (B2 _).mono ?_); rintro e w' ⟨rfl, rfl⟩)) | (go_at_call 64; refine (B3 _).mono ?_; rintro e w' ⟨rfl, rfl⟩))
        go_ret
        exact ⟨rfl, b_one⟩
    · rw [h2] at B2
      clear h1 h2 ha hb B3
      go_enter Try.func77, Try.ntmps77
      go_wp2_with (go_at_call 75; first | ((with_reducible refine (B1 _).mono ?_); rintro e w' ⟨rfl, rfl⟩) | ((with_reducible refine (B2 _).mono ?_); rintro e w' ⟨rfl, rfl⟩))
      go_ret
      exact ⟨rfl, b_one⟩
  · rw [h1] at B1
    clear h1 ha hb B2 B3
    go_enter Try.func77, Try.ntmps77
    go_wp2_with (go_at_call 75; refine (B1 _).mono ?_; rintro e w' ⟨rfl, rfl⟩)
    go_ret
    exact ⟨rfl, b_one⟩

theorem rempty_any (w : World) : Calls Try.prog 32 #[] w fun e w' => e = .returned (.agg #[.int .u64 (Vg.atn true Vg.PI : Nat), .int .u64 (Vg.atn true (-Vg.PI) : Nat)]) ∧ Below w.heap.size w w' := by
  rw [top_int, bot_int]
  go_enter Try.func32, Try.ntmps32
  go_wp2
  exact bodyPost_ret (v := .agg #[.int .u64 9218868437227405312, .int .u64 18442240474082181120]) (by simp [results, Try.results32, go_sem]) rfl ⟨rfl, b_one⟩
theorem rentire_any (w : World) : Calls Try.prog 34 #[] w fun e w' => e = .returned (.agg #[.int .u64 (Vg.atn true (-Vg.PI) : Nat), .int .u64 (Vg.atn true Vg.PI : Nat)]) ∧ Below w.heap.size w w' := by
  rw [top_int, bot_int]
  go_enter Try.func34, Try.ntmps34
  go_wp2
  exact bodyPost_ret (v := .agg #[.int .u64 18442240474082181120, .int .u64 9218868437227405312]) (by simp [results, Try.results34, go_sem]) rfl ⟨rfl, b_one⟩

set_option maxRecDepth 20000 in
set_option maxHeartbeats 2000000 in
theorem rread_any (a b : Nat) (p q : Int) (h : Vg.Rd a b p q) (w : World) : Calls Try.prog 29 #[.agg #[.int .u64 a, .int .u64 b]] w fun e w' => e = .returned (.agg #[.int .u64 (Vg.atn true p : Nat), .int .u64 (Vg.atn true q : Nat)]) ∧ Below w.heap.size w w' := by
  have HA := hide h.1
  have HB := hide h.2.1
  obtain ⟨-, -, ⟨h1, h2, rfl, rfl, h3, h4, h5⟩ | ⟨hs, rfl, rfl⟩⟩ := h
  · have hs := hide ((Vg.snd_iff a b).2 ⟨h1, h2, h3, h4, h5⟩)
    have B1 := fun w => rplain_any a HA.out h1 w
    have B2 := fun w => rplain_any b HB.out h2 w
    rw [Vg.plain_atn HA.out h1] at B1
    rw [Vg.plain_atn HB.out h2] at B2
    obtain ⟨x, hx⟩ : ∃ x, Vg.atn true (Vg.pl true a) = x := ⟨_, rfl⟩
    obtain ⟨y, hy⟩ : ∃ y, Vg.atn true (Vg.pl true b) = y := ⟨_, rfl⟩
    rw [hx] at B1 ⊢
    rw [hy] at B2 ⊢
    clear h1 h2 h3 h4 h5 hx hy
    go_enter Try.func29, Try.ntmps29
    go_wp2_with fail
    refine (rsound_any a b HA.out HB.out _).mono ?_; rintro e w' ⟨rfl, hb1⟩
    rw [hs.out]
    have m0 : w'.cell? ⟨w.heap.size, 0, none⟩ = some (.int .u64 a) := keep_cell hb1 (by simp; omega) (by simp [go_sem])
    have m1 : w'.cell? ⟨w.heap.size, 1, none⟩ = some (.int .u64 b) := keep_cell hb1 (by simp; omega) (by simp [go_sem])
    have k0 : w'.cell? ⟨w.heap.size + 1, 0, none⟩ = some (.int .u64 0) := keep_cell hb1 (by simp) (by simp)
    have k1 : w'.cell? ⟨w.heap.size + 1, 1, none⟩ = some (.int .u64 0) := keep_cell hb1 (by simp) (by simp)
    have f0 : w'.frozen? ⟨w.heap.size + 1, 0, none⟩ = false := keep_free hb1 (by simp) (by simp)
    have f1 : w'.frozen? ⟨w.heap.size + 1, 1, none⟩ = false := keep_free hb1 (by simp) (by simp)
    have g := b_two.trans (hb1.mono (by simp; omega))
    clear hb1
    go_wp2
    go_region_with (go_at_call 76; first | ((with_reducible refine (B1 _).mono ?_); rintro e w' ⟨rfl, rfl⟩) | ((with_reducible refine (B2 _).mono ?_); rintro e w' ⟨rfl, rfl⟩))
    all_goals go_wp2
    all_goals exact bodyPost_ret (v := .agg #[.int .u64 x, .int .u64 y]) (by simp [results, Try.results29, go_sem, k0, k1]) rfl ⟨rfl, (g.drew.setCell (by dsimp only <;> omega) _).setCell (by dsimp only <;> omega) _⟩
  · have HS := hide hs
    clear hs
    go_enter Try.func29, Try.ntmps29
    go_wp2_with fail
    refine (rsound_any a b HA.out HB.out _).mono ?_; rintro e w' ⟨rfl, hb1⟩
    rw [HS.out]
    have k0 : w'.cell? ⟨w.heap.size + 1, 0, none⟩ = some (.int .u64 0) := keep_cell hb1 (by simp) (by simp)
    have k1 : w'.cell? ⟨w.heap.size + 1, 1, none⟩ = some (.int .u64 0) := keep_cell hb1 (by simp) (by simp)
    have f0 : w'.frozen? ⟨w.heap.size + 1, 0, none⟩ = false := keep_free hb1 (by simp) (by simp)
    have f1 : w'.frozen? ⟨w.heap.size + 1, 1, none⟩ = false := keep_free hb1 (by simp) (by simp)
    have z : w.heap.size + 1 < w'.heap.size := by have := hb1.size; simp at this; omega
    have g := b_two.trans (hb1.mono (by simp; omega))
    clear hb1
    go_wp2_with fail
    refine (rempty_any _).mono ?_; rintro e w2 ⟨rfl, hb2⟩
    have k0 := keep_cell hb2 z k0
    have k1 := keep_cell hb2 z k1
    have f0 := keep_free hb2 z f0
    have f1 := keep_free hb2 z f1
    have g := bch g hb2
    clear hb2
    go_wp2
    exact bodyPost_ret (v := .agg #[.int .u64 (Vg.atn true Vg.PI : Nat), .int .u64 (Vg.atn true (-Vg.PI) : Nat)]) (by simp [results, Try.results29, go_sem, k0, k1]) rfl ⟨rfl, (g.setCell (by dsimp only <;> omega) _).setCell (by dsimp only <;> omega) _⟩
end Go.Proofs.Ytljnadoodbninaa
