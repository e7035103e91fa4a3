/- The contract of 'follows': NextUp and NextDown lead to neighbours. -/
import Derived.Test.YtgehcnlfplcaaaaWNext
import Derived.Test.YtgehcnlfplcaaaaWOrder
namespace Go.Proofs.Ytgehcnlfplcaaaa
open Go.RowKit

theorem nb_up64 {b u : Nat} (h : IsUp64 b u) (hb : b ≤ 18446744073709551615) : u ≤ 18446744073709551615 ∧ Vg.nn true u = Vg.nn true b ∧ (Vg.nn true b = false → Vg.pl true b = 9218868437227405312 ∧ u = b ∨ Vg.pl true b < 9218868437227405312 ∧ Vg.pl true u = Vg.pl true b + 1) := by
  unfold IsUp64 at h
  subst h
  have u := Vg.up64 b hb
  refine ⟨u.1, u.2, fun hn => ?_⟩
  have p := Vg.pl_bd64 b hn
  unfold Vg.up
  rw [hn, if_neg (by simp)]
  by_cases c : Vg.pl true b = 9218868437227405312
  · left; rw [if_pos (by simp only [Vg.INF, if_true]; exact c)]; exact ⟨c, rfl⟩
  · right; rw [if_neg (by simp only [Vg.INF, if_true]; exact c)]
    exact ⟨by omega, (Vg.atn64 _ (by omega)).2.1⟩
theorem nb_dn64 {b v : Nat} (h : IsDn64 b v) (_hb : b ≤ 18446744073709551615) : v ≤ 18446744073709551615 ∧ Vg.nn true v = Vg.nn true b ∧ (Vg.nn true b = false → Vg.pl true b = -9218868437227405312 ∧ v = b ∨ -9218868437227405312 < Vg.pl true b ∧ Vg.pl true v = Vg.pl true b - 1) := by
  obtain ⟨h1, h2, h3⟩ := h
  refine ⟨h1, h2, fun hn => ?_⟩
  rw [h3 hn]
  have p := Vg.pl_bd64 b hn
  unfold Vg.dn
  rw [hn, if_neg (by simp)]
  by_cases c : Vg.pl true b = -9218868437227405312
  · left; rw [if_pos (by simp only [Vg.INF, if_true]; exact c)]; exact ⟨c, rfl⟩
  · right; rw [if_neg (by simp only [Vg.INF, if_true]; exact c)]
    exact ⟨by omega, (Vg.atn64 _ (by omega)).2.1⟩
theorem inf_pat64 {b : Nat} (hb : b ≤ 18446744073709551615) : (Vg.pl true b = 9218868437227405312 → b = 9218868437227405312) ∧ (Vg.pl true b = -9218868437227405312 → b = 9218868437227405312 + 9223372036854775808) := by
  simp only [Vg.pl, Vg.ng, Vg.rg, Vg.S, if_true, decide_eq_true_eq]
  constructor <;> intro h <;> split at h <;> omega
theorem zero_pl64 (b : Nat) (hb : b ≤ 18446744073709551615) (hn : Vg.nn true b = false) : (FloatKind.f64.format.order b 0 == some Ordering.eq) = decide (Vg.pl true b = 0) := by
  rw [ord_eq64 b 0 hb (by decide), hn, show Vg.nn true 0 = false by decide, show Vg.pl true 0 = 0 by decide]; rfl
theorem inf_sum64 : floatBits .add .f64 9218868437227405312 9218868437227405312 = some 9218868437227405312 := by decide +kernel
theorem minf_sum64 : floatBits .add .f64 (9218868437227405312 + 9223372036854775808) (9218868437227405312 + 9223372036854775808) = some (9218868437227405312 + 9223372036854775808) := by decide +kernel

def Facts64 (b u v c : Nat) (A B Z : Bool) : Prop :=
  (FloatKind.f64.format.order u b == some Ordering.eq) = A ∧ (FloatKind.f64.format.order v b == some Ordering.eq) = B ∧ (FloatKind.f64.format.order b 0 == some Ordering.eq) = Z ∧
  (FloatKind.f64.format.order u b == some Ordering.lt) = false ∧ (FloatKind.f64.format.order v b == some Ordering.gt) = false ∧
  (Z = true → (FloatKind.f64.format.order u 0 == some Ordering.eq) = false ∧ (FloatKind.f64.format.order v 0 == some Ordering.eq) = false) ∧
  ((FloatKind.f64.format.order b c == some Ordering.lt) = true → (FloatKind.f64.format.order u c == some Ordering.gt) = false) ∧
  ((FloatKind.f64.format.order c b == some Ordering.lt) = true → (FloatKind.f64.format.order v c == some Ordering.lt) = false) ∧
  (A = true → b = 9218868437227405312 ∧ u = b ∧ Z = false ∧ B = false) ∧ (B = true → b = 9218868437227405312 + 9223372036854775808 ∧ v = b ∧ Z = false ∧ A = false ∧ (FloatKind.f64.format.order c b == some Ordering.lt) = false) ∧
  (A = false → ∀ y, IsDn64 u y → (FloatKind.f64.format.order y b == some Ordering.eq) = true) ∧ (B = false → ∀ y, IsUp64 v y → (FloatKind.f64.format.order y b == some Ordering.eq) = true)

theorem facts64 {b u v c : Nat} (hb : b ≤ 18446744073709551615) (hc : c ≤ 18446744073709551615) (hn : Vg.nn true b = false) (hu : IsUp64 b u) (hv : IsDn64 b v) : ∃ A B Z, Facts64 b u v c A B Z := by
  obtain ⟨u1, u2, u3⟩ := nb_up64 hu hb
  obtain ⟨v1, v2, v3⟩ := nb_dn64 hv hb
  have u3 := u3 hn
  have v3 := v3 hn
  rw [hn] at u2 v2
  have ip := inf_pat64 hb
  have p := Vg.pl_bd64 b hn
  refine ⟨decide (Vg.pl true b = 9218868437227405312), decide (Vg.pl true b = -9218868437227405312), decide (Vg.pl true b = 0), ?_, ?_, zero_pl64 b hb hn, ?_, ?_, ?_, ?_, ?_, ?_, ?_, ?_, ?_⟩
  · rw [ord_eq64 u b u1 hb, u2, hn]
    simp only [Bool.not_false, Bool.true_and, decide_eq_decide]
    rcases u3 with ⟨h1, h2⟩ | ⟨h1, h2⟩
    · rw [h2]; exact ⟨fun _ => h1, fun _ => rfl⟩
    · omega
  · rw [ord_eq64 v b v1 hb, v2, hn]
    simp only [Bool.not_false, Bool.true_and, decide_eq_decide]
    rcases v3 with ⟨h1, h2⟩ | ⟨h1, h2⟩
    · rw [h2]; exact ⟨fun _ => h1, fun _ => rfl⟩
    · omega
  · rw [ord_lt64 u b u1 hb, u2, hn]
    simp only [Bool.not_false, Bool.true_and, decide_eq_false_iff_not]
    rcases u3 with ⟨h1, h2⟩ | ⟨h1, h2⟩
    · rw [h2]; omega
    · omega
  · rw [ord_gt64 v b v1 hb, v2, hn]
    simp only [Bool.not_false, Bool.true_and, decide_eq_false_iff_not]
    rcases v3 with ⟨h1, h2⟩ | ⟨h1, h2⟩
    · rw [h2]; omega
    · omega
  · intro h
    rw [decide_eq_true_eq] at h
    rw [zero_pl64 u u1 u2, zero_pl64 v v1 v2]
    simp only [decide_eq_false_iff_not]
    omega
  · rw [ord_lt64 b c hb hc, ord_gt64 u c u1 hc, u2, hn]
    simp only [Bool.not_false, Bool.true_and, Bool.and_eq_true, Bool.not_eq_true', decide_eq_true_eq]
    rintro ⟨h1, h2⟩
    rw [h1]
    simp only [Bool.not_false, Bool.true_and, decide_eq_false_iff_not]
    have q := Vg.pl_bd64 c h1
    omega
  · rw [ord_lt64 c b hc hb, ord_lt64 v c v1 hc, v2, hn]
    simp only [Bool.not_false, Bool.true_and, Bool.and_true, Bool.and_eq_true, Bool.not_eq_true', decide_eq_true_eq]
    rintro ⟨h1, h2⟩
    rw [h1]
    simp only [Bool.not_false, Bool.true_and, decide_eq_false_iff_not]
    have q := Vg.pl_bd64 c h1
    omega
  · intro h
    rw [decide_eq_true_eq] at h
    simp only [decide_eq_false_iff_not]
    refine ⟨ip.1 h, ?_, by omega, by omega⟩
    rcases u3 with ⟨_, h2⟩ | ⟨h1, _⟩
    · exact h2
    · omega
  · intro h
    rw [decide_eq_true_eq] at h
    simp only [decide_eq_false_iff_not]
    refine ⟨ip.2 h, ?_, by omega, by omega, ?_⟩
    · rcases v3 with ⟨_, h2⟩ | ⟨h1, _⟩
      · exact h2
      · omega
    · rw [ord_lt64 c b hc hb]
      cases hcn : Vg.nn true c
      · have q := Vg.pl_bd64 c hcn
        simp only [Bool.not_false, Bool.true_and, Bool.and_eq_false_iff, decide_eq_false_iff_not]
        right; omega
      · rfl
  · intro h y hy
    rw [decide_eq_false_iff_not] at h
    obtain ⟨y1, y2, y3⟩ := nb_dn64 hy u1
    have y3 := y3 u2
    rw [u2] at y2
    rw [ord_eq64 y b y1 hb, y2, hn]
    simp only [Bool.not_false, Bool.true_and, decide_eq_true_eq]
    omega
  · intro h y hy
    rw [decide_eq_false_iff_not] at h
    obtain ⟨y1, y2, y3⟩ := nb_up64 hy v1
    have y3 := y3 v2
    rw [v2] at y2
    rw [ord_eq64 y b y1 hb, y2, hn]
    simp only [Bool.not_false, Bool.true_and, decide_eq_true_eq]
    omega

theorem nb_up32 {b u : Nat} (h : IsUp32 b u) (hb : b ≤ 4294967295) : u ≤ 4294967295 ∧ Vg.nn false u = Vg.nn false b ∧ (Vg.nn false b = false → Vg.pl false b = 2139095040 ∧ u = b ∨ Vg.pl false b < 2139095040 ∧ Vg.pl false u = Vg.pl false b + 1) := by
  unfold IsUp32 at h
  subst h
  have u := Vg.up32 b hb
  refine ⟨u.1, u.2, fun hn => ?_⟩
  have p := Vg.pl_bd32 b hn
  unfold Vg.up
  rw [hn, if_neg (by simp)]
  by_cases c : Vg.pl false b = 2139095040
  · left; rw [if_pos (by simp only [Vg.INF, Bool.false_eq_true, if_false]; exact c)]; exact ⟨c, rfl⟩
  · right; rw [if_neg (by simp only [Vg.INF, Bool.false_eq_true, if_false]; exact c)]
    exact ⟨by omega, (Vg.atn32 _ (by omega)).2.1⟩
theorem nb_dn32 {b v : Nat} (h : IsDn32 b v) (_hb : b ≤ 4294967295) : v ≤ 4294967295 ∧ Vg.nn false v = Vg.nn false b ∧ (Vg.nn false b = false → Vg.pl false b = -2139095040 ∧ v = b ∨ -2139095040 < Vg.pl false b ∧ Vg.pl false v = Vg.pl false b - 1) := by
  obtain ⟨h1, h2, h3⟩ := h
  refine ⟨h1, h2, fun hn => ?_⟩
  rw [h3 hn]
  have p := Vg.pl_bd32 b hn
  unfold Vg.dn
  rw [hn, if_neg (by simp)]
  by_cases c : Vg.pl false b = -2139095040
  · left; rw [if_pos (by simp only [Vg.INF, Bool.false_eq_true, if_false]; exact c)]; exact ⟨c, rfl⟩
  · right; rw [if_neg (by simp only [Vg.INF, Bool.false_eq_true, if_false]; exact c)]
    exact ⟨by omega, (Vg.atn32 _ (by omega)).2.1⟩
theorem inf_pat32 {b : Nat} (hb : b ≤ 4294967295) : (Vg.pl false b = 2139095040 → b = 2139095040) ∧ (Vg.pl false b = -2139095040 → b = 2139095040 + 2147483648) := by
  simp only [Vg.pl, Vg.ng, Vg.rg, Vg.S, Bool.false_eq_true, if_false, decide_eq_true_eq]
  constructor <;> intro h <;> split at h <;> omega
theorem zero_pl32 (b : Nat) (hb : b ≤ 4294967295) (hn : Vg.nn false b = false) : (FloatKind.f32.format.order b 0 == some Ordering.eq) = decide (Vg.pl false b = 0) := by
  rw [ord_eq32 b 0 hb (by decide), hn, show Vg.nn false 0 = false by decide, show Vg.pl false 0 = 0 by decide]; rfl
theorem inf_sum32 : floatBits .add .f32 2139095040 2139095040 = some 2139095040 := by decide +kernel
theorem minf_sum32 : floatBits .add .f32 (2139095040 + 2147483648) (2139095040 + 2147483648) = some (2139095040 + 2147483648) := by decide +kernel

def Facts32 (b u v c : Nat) (A B Z : Bool) : Prop :=
  (FloatKind.f32.format.order u b == some Ordering.eq) = A ∧ (FloatKind.f32.format.order v b == some Ordering.eq) = B ∧ (FloatKind.f32.format.order b 0 == some Ordering.eq) = Z ∧
  (FloatKind.f32.format.order u b == some Ordering.lt) = false ∧ (FloatKind.f32.format.order v b == some Ordering.gt) = false ∧
  (Z = true → (FloatKind.f32.format.order u 0 == some Ordering.eq) = false ∧ (FloatKind.f32.format.order v 0 == some Ordering.eq) = false) ∧
  ((FloatKind.f32.format.order b c == some Ordering.lt) = true → (FloatKind.f32.format.order u c == some Ordering.gt) = false) ∧
  ((FloatKind.f32.format.order c b == some Ordering.lt) = true → (FloatKind.f32.format.order v c == some Ordering.lt) = false) ∧
  (A = true → b = 2139095040 ∧ u = b ∧ Z = false ∧ B = false) ∧ (B = true → b = 2139095040 + 2147483648 ∧ v = b ∧ Z = false ∧ A = false ∧ (FloatKind.f32.format.order c b == some Ordering.lt) = false) ∧
  (A = false → ∀ y, IsDn32 u y → (FloatKind.f32.format.order y b == some Ordering.eq) = true) ∧ (B = false → ∀ y, IsUp32 v y → (FloatKind.f32.format.order y b == some Ordering.eq) = true)

theorem facts32 {b u v c : Nat} (hb : b ≤ 4294967295) (hc : c ≤ 4294967295) (hn : Vg.nn false b = false) (hu : IsUp32 b u) (hv : IsDn32 b v) : ∃ A B Z, Facts32 b u v c A B Z := by
  obtain ⟨u1, u2, u3⟩ := nb_up32 hu hb
  obtain ⟨v1, v2, v3⟩ := nb_dn32 hv hb
  have u3 := u3 hn
  have v3 := v3 hn
  rw [hn] at u2 v2
  have ip := inf_pat32 hb
  have p := Vg.pl_bd32 b hn
  refine ⟨decide (Vg.pl false b = 2139095040), decide (Vg.pl false b = -2139095040), decide (Vg.pl false b = 0), ?_, ?_, zero_pl32 b hb hn, ?_, ?_, ?_, ?_, ?_, ?_, ?_, ?_, ?_⟩
  · rw [ord_eq32 u b u1 hb, u2, hn]
    simp only [Bool.not_false, Bool.true_and, decide_eq_decide]
    rcases u3 with ⟨h1, h2⟩ | ⟨h1, h2⟩
    · rw [h2]; exact ⟨fun _ => h1, fun _ => rfl⟩
    · omega
  · rw [ord_eq32 v b v1 hb, v2, hn]
    simp only [Bool.not_false, Bool.true_and, decide_eq_decide]
    rcases v3 with ⟨h1, h2⟩ | ⟨h1, h2⟩
    · rw [h2]; exact ⟨fun _ => h1, fun _ => rfl⟩
    · omega
  · rw [ord_lt32 u b u1 hb, u2, hn]
    simp only [Bool.not_false, Bool.true_and, decide_eq_false_iff_not]
    rcases u3 with ⟨h1, h2⟩ | ⟨h1, h2⟩
    · rw [h2]; omega
    · omega
  · rw [ord_gt32 v b v1 hb, v2, hn]
    simp only [Bool.not_false, Bool.true_and, decide_eq_false_iff_not]
    rcases v3 with ⟨h1, h2⟩ | ⟨h1, h2⟩
    · rw [h2]; omega
    · omega
  · intro h
    rw [decide_eq_true_eq] at h
    rw [zero_pl32 u u1 u2, zero_pl32 v v1 v2]
    simp only [decide_eq_false_iff_not]
    omega
  · rw [ord_lt32 b c hb hc, ord_gt32 u c u1 hc, u2, hn]
    simp only [Bool.not_false, Bool.true_and, Bool.and_eq_true, Bool.not_eq_true', decide_eq_true_eq]
    rintro ⟨h1, h2⟩
    rw [h1]
    simp only [Bool.not_false, Bool.true_and, decide_eq_false_iff_not]
    have q := Vg.pl_bd32 c h1
    omega
  · rw [ord_lt32 c b hc hb, ord_lt32 v c v1 hc, v2, hn]
    simp only [Bool.not_false, Bool.true_and, Bool.and_true, Bool.and_eq_true, Bool.not_eq_true', decide_eq_true_eq]
    rintro ⟨h1, h2⟩
    rw [h1]
    simp only [Bool.not_false, Bool.true_and, decide_eq_false_iff_not]
    have q := Vg.pl_bd32 c h1
    omega
  · intro h
    rw [decide_eq_true_eq] at h
    simp only [decide_eq_false_iff_not]
    refine ⟨ip.1 h, ?_, by omega, by omega⟩
    rcases u3 with ⟨_, h2⟩ | ⟨h1, _⟩
    · exact h2
    · omega
  · intro h
    rw [decide_eq_true_eq] at h
    simp only [decide_eq_false_iff_not]
    refine ⟨ip.2 h, ?_, by omega, by omega, ?_⟩
    · rcases v3 with ⟨_, h2⟩ | ⟨h1, _⟩
      · exact h2
      · omega
    · rw [ord_lt32 c b hc hb]
      cases hcn : Vg.nn false c
      · have q := Vg.pl_bd32 c hcn
        simp only [Bool.not_false, Bool.true_and, Bool.and_eq_false_iff, decide_eq_false_iff_not]
        right; omega
      · rfl
  · intro h y hy
    rw [decide_eq_false_iff_not] at h
    obtain ⟨y1, y2, y3⟩ := nb_dn32 hy u1
    have y3 := y3 u2
    rw [u2] at y2
    rw [ord_eq32 y b y1 hb, y2, hn]
    simp only [Bool.not_false, Bool.true_and, decide_eq_true_eq]
    omega
  · intro h y hy
    rw [decide_eq_false_iff_not] at h
    obtain ⟨y1, y2, y3⟩ := nb_up32 hy v1
    have y3 := y3 v2
    rw [v2] at y2
    rw [ord_eq32 y b y1 hb, y2, hn]
    simp only [Bool.not_false, Bool.true_and, decide_eq_true_eq]
    omega

set_option maxHeartbeats 4000000 in
theorem follows64 (b c : Nat) (hb : b ≤ 18446744073709551615) (hc : c ≤ 18446744073709551615) (w : World) : Calls Try.prog 73 #[.float .f64 b, .float .f64 c] w fun e w' => e = .returned (.bool true) ∧ Below w.heap.size w w' := by
  have HB := hide hb
  have HC := hide hc
  have t0 := self_ne64 b hb
  have t1 := self_eq64 b hb
  clear hb hc
  go_enter Try.func73, Try.ntmps73
  go_wp2_with fail
  refine (nextup64 b HB.out _).mono ?_; rintro e w1 ⟨u, rfl, hu, hb1⟩
  go_wp2_with fail
  refine (nextdown64 b HB.out _).mono ?_; rintro e w2 ⟨v, rfl, hv, hb2⟩
  have G2 := bch hb1 hb2
  obtain ⟨u1, u2, -⟩ := nb_up64 hu HB.out
  obtain ⟨v1, v2, -⟩ := nb_dn64 hv HB.out
  have HU := hide u1
  have HV := hide v1
  clear hb1 hb2
  cases hn : Vg.nn true b
  · obtain ⟨A, B, Z, HF⟩ := facts64 (c := c) HB.out HC.out hn hu hv
    rw [hn] at t0 t1
    clear hu hv u1 u2 v1 v2 hn
    unfold Facts64 at HF
    obtain ⟨f3, f4, f5, f1, f2, f6, f7, f8, fA, fB, gA, gB⟩ := HF
    cases A
    · cases B
      · have HGA := hide (gA rfl)
        have HGB := hide (gB rfl)
        clear fA fB gA gB
        cases Z
        · clear f6
          go_wp2_with (first | (go_at_call 66; refine (nextdown64 u HU.out _).mono ?_; rintro e w' ⟨y, rfl, hy, hbx⟩; have fy := HGA.out y hy; clear hy) | (go_at_call 65; refine (nextup64 v HV.out _).mono ?_; rintro e w' ⟨z, rfl, hz, hby⟩; have fz := HGB.out z hz; clear hz))
          all_goals go_ret
          all_goals exact ⟨rfl, by repeat (first | exact G2 | assumption | refine bch ?_ (by assumption))⟩
        · obtain ⟨f9, f10⟩ := f6 rfl
          clear f6
          go_wp2_with (first | (go_at_call 66; refine (nextdown64 u HU.out _).mono ?_; rintro e w' ⟨y, rfl, hy, hbx⟩; have fy := HGA.out y hy; clear hy) | (go_at_call 65; refine (nextup64 v HV.out _).mono ?_; rintro e w' ⟨z, rfl, hz, hby⟩; have fz := HGB.out z hz; clear hz))
          all_goals go_ret
          all_goals exact ⟨rfl, by repeat (first | exact G2 | assumption | refine bch ?_ (by assumption))⟩
      · obtain ⟨e1, rfl, rfl, -, f9⟩ := fB rfl
        subst e1
        have HGA := hide (gA rfl)
        have hs := fun t (w : World) => run_float_arith (P := Try.prog) w .add t .f64 _ _ _ minf_sum64
        clear fA fB gA gB f6
        go_wp2_with (first | (go_at_call 66; refine (nextdown64 u HU.out _).mono ?_; rintro e w' ⟨y, rfl, hy, hbx⟩; have fy := HGA.out y hy; clear hy))
        all_goals go_ret
        all_goals exact ⟨rfl, by repeat (first | exact G2 | assumption | refine bch ?_ (by assumption))⟩
    · obtain ⟨e1, rfl, rfl, rfl⟩ := fA rfl
      subst e1
      have HGB := hide (gB rfl)
      have hs := fun t (w : World) => run_float_arith (P := Try.prog) w .add t .f64 _ _ _ inf_sum64
      clear fA fB gA gB f6
      go_wp2_with (first | (go_at_call 65; refine (nextup64 v HV.out _).mono ?_; rintro e w' ⟨z, rfl, hz, hby⟩; have fz := HGB.out z hz; clear hz))
      all_goals go_ret
      all_goals exact ⟨rfl, by repeat (first | exact G2 | assumption | refine bch ?_ (by assumption))⟩
  · have tu := self_ne64 u u1
    have tv := self_ne64 v v1
    rw [u2] at tu
    rw [v2] at tv
    rw [hn] at t0 t1 tu tv
    clear u1 u2 v1 v2 hn hu hv
    go_wp2
    go_ret
    exact ⟨rfl, G2⟩

set_option maxHeartbeats 4000000 in
theorem followsFar (b c : Nat) (hb : b ≤ 18446744073709551615) (hc : c ≤ 18446744073709551615) (w : World) : Calls Try.prog 75 #[.float .f64 b, .float .f64 c] w fun e w' => e = .returned (.bool true) ∧ Below w.heap.size w w' := by
  have HB := hide hb
  have HC := hide hc
  have t0 := self_ne64 b hb
  have t1 := self_eq64 b hb
  clear hb hc
  go_enter Try.func75, Try.ntmps75
  go_wp2_with fail
  refine (nextupFar b HB.out _).mono ?_; rintro e w1 ⟨u, rfl, hu, hb1⟩
  go_wp2_with fail
  refine (nextdownFar b HB.out _).mono ?_; rintro e w2 ⟨v, rfl, hv, hb2⟩
  have G2 := bch hb1 hb2
  obtain ⟨u1, u2, -⟩ := nb_up64 hu HB.out
  obtain ⟨v1, v2, -⟩ := nb_dn64 hv HB.out
  have HU := hide u1
  have HV := hide v1
  clear hb1 hb2
  cases hn : Vg.nn true b
  · obtain ⟨A, B, Z, HF⟩ := facts64 (c := c) HB.out HC.out hn hu hv
    rw [hn] at t0 t1
    clear hu hv u1 u2 v1 v2 hn
    unfold Facts64 at HF
    obtain ⟨f3, f4, f5, f1, f2, f6, f7, f8, fA, fB, gA, gB⟩ := HF
    cases A
    · cases B
      · have HGA := hide (gA rfl)
        have HGB := hide (gB rfl)
        clear fA fB gA gB
        cases Z
        · clear f6
          go_wp2_with (first | (go_at_call 68; refine (nextdownFar u HU.out _).mono ?_; rintro e w' ⟨y, rfl, hy, hbx⟩; have fy := HGA.out y hy; clear hy) | (go_at_call 67; refine (nextupFar v HV.out _).mono ?_; rintro e w' ⟨z, rfl, hz, hby⟩; have fz := HGB.out z hz; clear hz))
          all_goals go_ret
          all_goals exact ⟨rfl, by repeat (first | exact G2 | assumption | refine bch ?_ (by assumption))⟩
        · obtain ⟨f9, f10⟩ := f6 rfl
          clear f6
          go_wp2_with (first | (go_at_call 68; refine (nextdownFar u HU.out _).mono ?_; rintro e w' ⟨y, rfl, hy, hbx⟩; have fy := HGA.out y hy; clear hy) | (go_at_call 67; refine (nextupFar v HV.out _).mono ?_; rintro e w' ⟨z, rfl, hz, hby⟩; have fz := HGB.out z hz; clear hz))
          all_goals go_ret
          all_goals exact ⟨rfl, by repeat (first | exact G2 | assumption | refine bch ?_ (by assumption))⟩
      · obtain ⟨e1, rfl, rfl, -, f9⟩ := fB rfl
        subst e1
        have HGA := hide (gA rfl)
        have hs := fun t (w : World) => run_float_arith (P := Try.prog) w .add t .f64 _ _ _ minf_sum64
        clear fA fB gA gB f6
        go_wp2_with (first | (go_at_call 68; refine (nextdownFar u HU.out _).mono ?_; rintro e w' ⟨y, rfl, hy, hbx⟩; have fy := HGA.out y hy; clear hy))
        all_goals go_ret
        all_goals exact ⟨rfl, by repeat (first | exact G2 | assumption | refine bch ?_ (by assumption))⟩
    · obtain ⟨e1, rfl, rfl, rfl⟩ := fA rfl
      subst e1
      have HGB := hide (gB rfl)
      have hs := fun t (w : World) => run_float_arith (P := Try.prog) w .add t .f64 _ _ _ inf_sum64
      clear fA fB gA gB f6
      go_wp2_with (first | (go_at_call 67; refine (nextupFar v HV.out _).mono ?_; rintro e w' ⟨z, rfl, hz, hby⟩; have fz := HGB.out z hz; clear hz))
      all_goals go_ret
      all_goals exact ⟨rfl, by repeat (first | exact G2 | assumption | refine bch ?_ (by assumption))⟩
  · have tu := self_ne64 u u1
    have tv := self_ne64 v v1
    rw [u2] at tu
    rw [v2] at tv
    rw [hn] at t0 t1 tu tv
    clear u1 u2 v1 v2 hn hu hv
    go_wp2
    go_ret
    exact ⟨rfl, G2⟩

set_option maxHeartbeats 4000000 in
theorem follows32 (b c : Nat) (hb : b ≤ 4294967295) (hc : c ≤ 4294967295) (w : World) : Calls Try.prog 74 #[.float .f32 b, .float .f32 c] w fun e w' => e = .returned (.bool true) ∧ Below w.heap.size w w' := by
  have HB := hide hb
  have HC := hide hc
  have t0 := self_ne32 b hb
  have t1 := self_eq32 b hb
  clear hb hc
  go_enter Try.func74, Try.ntmps74
  go_wp2_with fail
  refine (nextup32 b HB.out _).mono ?_; rintro e w1 ⟨u, rfl, hu, hb1⟩
  go_wp2_with fail
  refine (nextdown32 b HB.out _).mono ?_; rintro e w2 ⟨v, rfl, hv, hb2⟩
  have G2 := bch hb1 hb2
  obtain ⟨u1, u2, -⟩ := nb_up32 hu HB.out
  obtain ⟨v1, v2, -⟩ := nb_dn32 hv HB.out
  have HU := hide u1
  have HV := hide v1
  clear hb1 hb2
  cases hn : Vg.nn false b
  · obtain ⟨A, B, Z, HF⟩ := facts32 (c := c) HB.out HC.out hn hu hv
    rw [hn] at t0 t1
    clear hu hv u1 u2 v1 v2 hn
    unfold Facts32 at HF
    obtain ⟨f3, f4, f5, f1, f2, f6, f7, f8, fA, fB, gA, gB⟩ := HF
    cases A
    · cases B
      · have HGA := hide (gA rfl)
        have HGB := hide (gB rfl)
        clear fA fB gA gB
        cases Z
        · clear f6
          go_wp2_with (first | (go_at_call 70; refine (nextdown32 u HU.out _).mono ?_; rintro e w' ⟨y, rfl, hy, hbx⟩; have fy := HGA.out y hy; clear hy) | (go_at_call 69; refine (nextup32 v HV.out _).mono ?_; rintro e w' ⟨z, rfl, hz, hby⟩; have fz := HGB.out z hz; clear hz))
          all_goals go_ret
          all_goals exact ⟨rfl, by repeat (first | exact G2 | assumption | refine bch ?_ (by assumption))⟩
        · obtain ⟨f9, f10⟩ := f6 rfl
          clear f6
          go_wp2_with (first | (go_at_call 70; refine (nextdown32 u HU.out _).mono ?_; rintro e w' ⟨y, rfl, hy, hbx⟩; have fy := HGA.out y hy; clear hy) | (go_at_call 69; refine (nextup32 v HV.out _).mono ?_; rintro e w' ⟨z, rfl, hz, hby⟩; have fz := HGB.out z hz; clear hz))
          all_goals go_ret
          all_goals exact ⟨rfl, by repeat (first | exact G2 | assumption | refine bch ?_ (by assumption))⟩
      · obtain ⟨e1, rfl, rfl, -, f9⟩ := fB rfl
        subst e1
        have HGA := hide (gA rfl)
        have hs := fun t (w : World) => run_float_arith (P := Try.prog) w .add t .f32 _ _ _ minf_sum32
        clear fA fB gA gB f6
        go_wp2_with (first | (go_at_call 70; refine (nextdown32 u HU.out _).mono ?_; rintro e w' ⟨y, rfl, hy, hbx⟩; have fy := HGA.out y hy; clear hy))
        all_goals go_ret
        all_goals exact ⟨rfl, by repeat (first | exact G2 | assumption | refine bch ?_ (by assumption))⟩
    · obtain ⟨e1, rfl, rfl, rfl⟩ := fA rfl
      subst e1
      have HGB := hide (gB rfl)
      have hs := fun t (w : World) => run_float_arith (P := Try.prog) w .add t .f32 _ _ _ inf_sum32
      clear fA fB gA gB f6
      go_wp2_with (first | (go_at_call 69; refine (nextup32 v HV.out _).mono ?_; rintro e w' ⟨z, rfl, hz, hby⟩; have fz := HGB.out z hz; clear hz))
      all_goals go_ret
      all_goals exact ⟨rfl, by repeat (first | exact G2 | assumption | refine bch ?_ (by assumption))⟩
  · have tu := self_ne32 u u1
    have tv := self_ne32 v v1
    rw [u2] at tu
    rw [v2] at tv
    rw [hn] at t0 t1 tu tv
    clear u1 u2 v1 v2 hn hu hv
    go_wp2
    go_ret
    exact ⟨rfl, G2⟩

set_option maxHeartbeats 4000000 in
theorem followsNear (b c : Nat) (hb : b ≤ 4294967295) (hc : c ≤ 4294967295) (w : World) : Calls Try.prog 76 #[.float .f32 b, .float .f32 c] w fun e w' => e = .returned (.bool true) ∧ Below w.heap.size w w' := by
  have HB := hide hb
  have HC := hide hc
  have t0 := self_ne32 b hb
  have t1 := self_eq32 b hb
  clear hb hc
  go_enter Try.func76, Try.ntmps76
  go_wp2_with fail
  refine (nextupNear b HB.out _).mono ?_; rintro e w1 ⟨u, rfl, hu, hb1⟩
  go_wp2_with fail
  refine (nextdownNear b HB.out _).mono ?_; rintro e w2 ⟨v, rfl, hv, hb2⟩
  have G2 := bch hb1 hb2
  obtain ⟨u1, u2, -⟩ := nb_up32 hu HB.out
  obtain ⟨v1, v2, -⟩ := nb_dn32 hv HB.out
  have HU := hide u1
  have HV := hide v1
  clear hb1 hb2
  cases hn : Vg.nn false b
  · obtain ⟨A, B, Z, HF⟩ := facts32 (c := c) HB.out HC.out hn hu hv
    rw [hn] at t0 t1
    clear hu hv u1 u2 v1 v2 hn
    unfold Facts32 at HF
    obtain ⟨f3, f4, f5, f1, f2, f6, f7, f8, fA, fB, gA, gB⟩ := HF
    cases A
    · cases B
      · have HGA := hide (gA rfl)
        have HGB := hide (gB rfl)
        clear fA fB gA gB
        cases Z
        · clear f6
          go_wp2_with (first | (go_at_call 72; refine (nextdownNear u HU.out _).mono ?_; rintro e w' ⟨y, rfl, hy, hbx⟩; have fy := HGA.out y hy; clear hy) | (go_at_call 71; refine (nextupNear v HV.out _).mono ?_; rintro e w' ⟨z, rfl, hz, hby⟩; have fz := HGB.out z hz; clear hz))
          all_goals go_ret
          all_goals exact ⟨rfl, by repeat (first | exact G2 | assumption | refine bch ?_ (by assumption))⟩
        · obtain ⟨f9, f10⟩ := f6 rfl
          clear f6
          go_wp2_with (first | (go_at_call 72; refine (nextdownNear u HU.out _).mono ?_; rintro e w' ⟨y, rfl, hy, hbx⟩; have fy := HGA.out y hy; clear hy) | (go_at_call 71; refine (nextupNear v HV.out _).mono ?_; rintro e w' ⟨z, rfl, hz, hby⟩; have fz := HGB.out z hz; clear hz))
          all_goals go_ret
          all_goals exact ⟨rfl, by repeat (first | exact G2 | assumption | refine bch ?_ (by assumption))⟩
      · obtain ⟨e1, rfl, rfl, -, f9⟩ := fB rfl
        subst e1
        have HGA := hide (gA rfl)
        have hs := fun t (w : World) => run_float_arith (P := Try.prog) w .add t .f32 _ _ _ minf_sum32
        clear fA fB gA gB f6
        go_wp2_with (first | (go_at_call 72; refine (nextdownNear u HU.out _).mono ?_; rintro e w' ⟨y, rfl, hy, hbx⟩; have fy := HGA.out y hy; clear hy))
        all_goals go_ret
        all_goals exact ⟨rfl, by repeat (first | exact G2 | assumption | refine bch ?_ (by assumption))⟩
    · obtain ⟨e1, rfl, rfl, rfl⟩ := fA rfl
      subst e1
      have HGB := hide (gB rfl)
      have hs := fun t (w : World) => run_float_arith (P := Try.prog) w .add t .f32 _ _ _ inf_sum32
      clear fA fB gA gB f6
      go_wp2_with (first | (go_at_call 71; refine (nextupNear v HV.out _).mono ?_; rintro e w' ⟨z, rfl, hz, hby⟩; have fz := HGB.out z hz; clear hz))
      all_goals go_ret
      all_goals exact ⟨rfl, by repeat (first | exact G2 | assumption | refine bch ?_ (by assumption))⟩
  · have tu := self_ne32 u u1
    have tv := self_ne32 v v1
    rw [u2] at tu
    rw [v2] at tv
    rw [hn] at t0 t1 tu tv
    clear u1 u2 v1 v2 hn hu hv
    go_wp2
    go_ret
    exact ⟨rfl, G2⟩

end Go.Proofs.Ytgehcnlfplcaaaa
