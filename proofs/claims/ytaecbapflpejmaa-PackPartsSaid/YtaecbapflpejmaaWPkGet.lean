/- Taking an interval up: the program's take, Valid and Get. -/
import Derived.Test.YtaecbapflpejmaaWPkSame
import Derived.Test.YtaecbapflpejmaaWRefRead
import Derived.Test.YtaecbapflpejmaaMBit
import Derived.Deep.RegionHeld3
import Derived.Deep.DeepCutAuto
--
namespace Go.Proofs.Ytaecbapflpejmaa
open Go.RowKit
set_option maxRecDepth 20000 in
set_option maxHeartbeats 4000000 in
theorem take_any (g o c : Nat) (xs : List Nat) (w : World) (hl : xs.length = 8) (hx : ∀ i (h : i < xs.length), w.cell? ⟨g, o + i, none⟩ = some (bv xs[i])) (hb : ∀ b ∈ xs, b < 256) :
    Calls Try.prog 43 #[.slice (some ⟨g, o, none⟩) 8 c] w fun e w' => e = .returned (.float .f64 (num xs)) ∧ w = w' := by
  have HL := hide hl
  have HX := hide hx
  have HB := hide hb
  have hfb := frombits64 (num xs : Nat)
  rw [Int.toNat_natCast] at hfb
  obtain ⟨R, hR⟩ : ∃ R, num xs = R := ⟨_, rfl⟩
  rw [hR] at hfb
  rw [hR]
  have HR := hide hR
  clear hl hx hb hR
  go_enter Try.func43, Try.ntmps43
  go_wp2_with fail
  go_loopg [3, 5] 8 (fun k v p wr => ∃ i V : Nat, v = .int .u64 V ∧ p = .int .i64 i ∧ Hid (i + k = 8) ∧ Hid (V = num (xs.take i)) ∧ wr = w)
  case atStart => exact ⟨0, 0, rfl, rfl, hide rfl, hide rfl, rfl⟩
  case round =>
    obtain ⟨i, V, rfl, rfl, HI, HV, rfl⟩ := hrel
    by_cases c : (i : Int) < 8
    · have hi : i < xs.length := by have := HL.out; omega
      have hcell := HX.out i hi
      have hm256 := HB.out xs[i] (List.getElem_mem hi)
      have hsn := num_snoc hi
      have hVl : V < 256 ^ i := by
        have := num_lt (xs.take i) (fun b hb => HB.out b (List.mem_of_mem_take hb))
        rw [List.length_take, Nat.min_eq_left (by omega)] at this
        rw [HV.out]; exact this
      have hor := or_join V xs[i] i hVl (by omega) hm256
      obtain ⟨m, hm⟩ : ∃ m, xs[i] = m := ⟨_, rfl⟩
      rw [hm] at hcell hm256 hsn hor
      rw [← HV.out] at hsn
      obtain ⟨U, hU⟩ : ∃ U, V + m * 256 ^ i = U := ⟨_, rfl⟩
      rw [hU] at hor hsn
      have HU := hide hsn
      unfold bv at hcell
      clear hsn hU hm hVl
      obtain rfl | rfl | rfl | rfl | rfl | rfl | rfl | rfl : i = 0 ∨ i = 1 ∨ i = 2 ∨ i = 3 ∨ i = 4 ∨ i = 5 ∨ i = 6 ∨ i = 7 := by omega
      · rw [Nat.add_zero] at hcell
        simp at hor
        go_wp2
        go_roundg 7
        case measure => have := HI.out; omega
        case rel => exact ⟨1, U, rfl, rfl, hide (by have := HI.out; omega), hide HU.out.symm, rfl⟩
      · simp at hor
        go_wp2
        go_roundg 6
        case measure => have := HI.out; omega
        case rel => exact ⟨2, U, rfl, rfl, hide (by have := HI.out; omega), hide HU.out.symm, rfl⟩
      · simp at hor
        go_wp2
        go_roundg 5
        case measure => have := HI.out; omega
        case rel => exact ⟨3, U, rfl, rfl, hide (by have := HI.out; omega), hide HU.out.symm, rfl⟩
      · simp at hor
        go_wp2
        go_roundg 4
        case measure => have := HI.out; omega
        case rel => exact ⟨4, U, rfl, rfl, hide (by have := HI.out; omega), hide HU.out.symm, rfl⟩
      · simp at hor
        go_wp2
        go_roundg 3
        case measure => have := HI.out; omega
        case rel => exact ⟨5, U, rfl, rfl, hide (by have := HI.out; omega), hide HU.out.symm, rfl⟩
      · simp at hor
        go_wp2
        go_roundg 2
        case measure => have := HI.out; omega
        case rel => exact ⟨6, U, rfl, rfl, hide (by have := HI.out; omega), hide HU.out.symm, rfl⟩
      · simp at hor
        go_wp2
        go_roundg 1
        case measure => have := HI.out; omega
        case rel => exact ⟨7, U, rfl, rfl, hide (by have := HI.out; omega), hide HU.out.symm, rfl⟩
      · simp at hor
        go_wp2
        go_roundg 0
        case measure => have := HI.out; omega
        case rel => exact ⟨8, U, rfl, rfl, hide (by have := HI.out; omega), hide HU.out.symm, rfl⟩
    · have hi : i = 8 := by have := HI.out; omega
      subst hi
      obtain rfl : V = R := by rw [HV.out, List.take_of_length_le (by have := HL.out; omega)]; exact HR.out
      go_wp2
      go_ret
      exact ⟨rfl, rfl⟩
theorem eqF (d : Nat) (a c : Nat) (w : World) : (Op.equalIn (d + 1) 28 (.float .f64 a) (.float .f64 c)).run Try.prog w = .ok (FloatKind.f64.format.order a c == some .eq) w := by
  simp [Op.equalIn, run_underlying Try.underlying28]
  rfl
/-- Two intervals of numbers are equal just where their ends are. -/
theorem eqI {a b c d : Nat} {x y : Bool} (h1 : (FloatKind.f64.format.order a c == some Ordering.eq) = x) (h2 : (FloatKind.f64.format.order b d == some Ordering.eq) = y) (w : World) :
    (Op.equalIn 10000 30 (.agg #[.float .f64 a, .float .f64 b]) (.agg #[.float .f64 c, .float .f64 d])).run Try.prog w = .ok (x && y) w := by
  have f1 := fun n => eqF n a c
  have f2 := fun n => eqF n b d
  have ag := Try.isAgg28
  have z := Try.sizeOf28
  have hS : Try.prog.underlying 30 = some (.struct (Try.prog.fieldsOf 30)) := by kernel_rfl
  have hp : Try.prog.stoodInHeld 30 = false := by kernel_rfl
  rw [show (10000 : Nat) = 9999 + 1 from rfl, run_equalIn_agg w 9999 30 _ _ hS hp]
  simp only [Program.fieldsOf, Try.underlying30]
  cases x <;> cases y
  all_goals go_simp
theorem eqPlaces {p q r s : Int} (hp : Vg.Pl p) (hq : Vg.Pl q) (hr : Vg.Pl r) (hs : Vg.Pl s) (n : Bool) (hn : decide (p = r ∧ q = s) = n) (w : World) :
    (Op.equalIn 10000 30 (.agg #[.float .f64 (Vg.atn true p), .float .f64 (Vg.atn true q)]) (.agg #[.float .f64 (Vg.atn true r), .float .f64 (Vg.atn true s)])).run Try.prog w = .ok n w := by
  rw [eqI rfl rfl, ← hn, Vg.order_places hp hr, Vg.order_places hq hs]
  congr 1
  rw [Bool.eq_iff_iff]
  simp only [Bool.and_eq_true, beq_iff_eq, Option.some.injEq, Int.compare_eq_eq, decide_eq_true_eq]


/-- Is a pattern that of -0? -/
def nzb (b : Nat) : Bool := decide (b = 9223372036854775808)
theorem signbit_any (b : Nat) (hb : b ≤ 18446744073709551615) (w : World) : Calls Try.prog 50 #[.float .f64 b] w fun e w' => e = .returned (.bool (Vg.ng true b)) ∧ w = w' := by
  have h1 := bits64 b
  have h2 : decide (wrap64 (b : Int) < 0) = Vg.ng true b := by
    unfold wrap64
    simp only [Vg.ng, Vg.S, if_true]
    rw [decide_eq_decide]; omega
  have H2 := hide h2
  clear hb h2
  go_enter Try.func50, Try.ntmps50
  go_wp2
  go_ret
  exact ⟨by rw [← H2.out]; rfl, rfl⟩
theorem minusZero_any (b : Nat) (hb : b ≤ 18446744073709551615) (w : World) : Calls Try.prog 48 #[.float .f64 b] w fun e w' => e = .returned (.bool (nzb b)) ∧ w = w' := by
  have hz := Vg.zero_eq b hb
  have hs := fun w => signbit_any b hb w
  by_cases h : Vg.rg true b = 0
  · rw [decide_eq_true h] at hz
    have e : nzb b = Vg.ng true b := by
      unfold nzb
      rw [Bool.eq_iff_iff, decide_eq_true_iff]
      simp only [Vg.ng, Vg.rg, Vg.S, if_true, decide_eq_true_eq] at *
      omega
    rw [e]
    clear h hb e
    go_enter Try.func48, Try.ntmps48
    go_wp2_with (go_at_call 50; refine (hs _).mono ?_; rintro e w' ⟨rfl, rfl⟩)
    go_ret
    exact ⟨rfl, rfl⟩
  · rw [decide_eq_false h] at hz
    have e : nzb b = false := by
      unfold nzb
      rw [decide_eq_false_iff_not]
      intro h2; subst h2; exact h (by decide)
    rw [e]
    clear h hb e hs
    go_enter Try.func48, Try.ntmps48
    go_wp2
    go_ret
    exact ⟨rfl, rfl⟩
/-- Is an interval of two patterns valid as it stands? -/
def vld (a b : Nat) : Bool := decide (a = Vg.atn true Vg.PI ∧ b = Vg.atn true (-Vg.PI)) || Vg.snd a b && !nzb a && !nzb b
theorem eqTop (a b : Nat) (ha : a ≤ 18446744073709551615) (hb : b ≤ 18446744073709551615) (w : World) :
    (Op.equalIn 10000 30 (.agg #[.float .f64 a, .float .f64 b]) (.agg #[.float .f64 (Vg.atn true Vg.PI), .float .f64 (Vg.atn true (-Vg.PI))])).run Try.prog w = .ok (decide (a = Vg.atn true Vg.PI ∧ b = Vg.atn true (-Vg.PI))) w := by
  have e1 : (FloatKind.f64.format.order a (Vg.atn true Vg.PI) == some Ordering.eq) = decide (a = Vg.atn true Vg.PI) := by
    rw [Vg.atn_top]
    refine (Vg.eq_iff true a _ (by simp only [Vg.S, if_true]; omega) (by decide)).trans ?_
    rw [Bool.eq_iff_iff, show Vg.nn true 9218868437227405312 = false by decide, show Vg.pl true 9218868437227405312 = 9218868437227405312 by decide]
    simp only [Bool.and_eq_true, Bool.not_eq_true', decide_eq_true_eq, Vg.nn, Vg.pl, Vg.ng, Vg.rg, Vg.S, Vg.INF, if_true, decide_eq_false_iff_not, and_true]
    (repeat' split) <;> omega
  have e2 : (FloatKind.f64.format.order b (Vg.atn true (-Vg.PI)) == some Ordering.eq) = decide (b = Vg.atn true (-Vg.PI)) := by
    rw [Vg.atn_bot]
    refine (Vg.eq_iff true b _ (by simp only [Vg.S, if_true]; omega) (by decide)).trans ?_
    rw [Bool.eq_iff_iff, show Vg.nn true 18442240474082181120 = false by decide, show Vg.pl true 18442240474082181120 = -9218868437227405312 by decide]
    simp only [Bool.and_eq_true, Bool.not_eq_true', decide_eq_true_eq, Vg.nn, Vg.pl, Vg.ng, Vg.rg, Vg.S, Vg.INF, if_true, decide_eq_false_iff_not, and_true]
    (repeat' split) <;> omega
  rw [eqI e1 e2]
  congr 1
  rw [Bool.eq_iff_iff]
  simp
set_option maxRecDepth 20000 in
set_option maxHeartbeats 4000000 in
theorem valid_any (a b : Nat) (ha : a ≤ 18446744073709551615) (hb : b ≤ 18446744073709551615) (w : World) : Calls Try.prog 44 #[.agg #[.float .f64 a, .float .f64 b]] w fun e w' => e = .returned (.bool (vld a b)) ∧ Below w.heap.size w w' := by
  have hst := sto
  have hm : Try.prog.eqGuardType Try.prog.depth 30 = false := by kernel_rfl
  have e1 := eqTop a b ha hb
  have S := fun w => sound_any a b ha hb w
  have M1 := fun w => minusZero_any a ha w
  have M2 := fun w => minusZero_any b hb w
  clear ha hb
  unfold vld
  obtain ⟨n0, h0⟩ : ∃ n, decide (a = Vg.atn true Vg.PI ∧ b = Vg.atn true (-Vg.PI)) = n := ⟨_, rfl⟩
  obtain ⟨n1, h1⟩ : ∃ n, Vg.snd a b = n := ⟨_, rfl⟩
  obtain ⟨n2, h2⟩ : ∃ n, nzb a = n := ⟨_, rfl⟩
  obtain ⟨n3, h3⟩ : ∃ n, nzb b = n := ⟨_, rfl⟩
  rw [h0] at e1
  rw [h1] at S
  rw [h2] at M1
  rw [h3] at M2
  rw [h0, h1, h2, h3]
  clear h0 h1 h2 h3
  cases n0 <;> cases n1 <;> cases n2 <;> cases n3
  all_goals
    go_enter Try.func44, Try.ntmps44
    go_upto_region 1 with fail
    have m0 : (w.alloc (.cells #[.float .f64 a, .float .f64 b] 30)).cell? ⟨w.heap.size, 0, none⟩ = some (.float .f64 a) := by simp
    have m1 : (w.alloc (.cells #[.float .f64 a, .float .f64 b] 30)).cell? ⟨w.heap.size, 1, none⟩ = some (.float .f64 b) := by simp
    have z : w.heap.size < (w.alloc (.cells #[.float .f64 a, .float .f64 b] 30)).heap.size := by simp
    have g : Below w.heap.size w (w.alloc (.cells #[.float .f64 a, .float .f64 b] 30)) := b_one
    generalize w.alloc (.cells #[.float .f64 a, .float .f64 b] 30) = W0 at *
    go_region_held3 (fun wx => wx.cell? ⟨w.heap.size, 0, none⟩ = some (.float .f64 a) ∧ wx.cell? ⟨w.heap.size, 1, none⟩ = some (.float .f64 b) ∧ w.heap.size < wx.heap.size ∧ Below w.heap.size w wx)
      ((((try dsimp only); (repeat' apply And.intro) <;> first | assumption | (simp [*]; done) | exact Below.drew (by assumption) | exact keep_cell hb1 (by first | (dsimp only; omega) | (simp; omega)) (by simp [*]) | (have := hb1.size; omega) | (have := hb1.size; simp at this; omega) | exact bch (by simp [*]) hb1 | exact bch (Below.drew (by simp [*])) hb1)))
      (first | (go_at_call 37; (with_reducible refine (empty_any _).mono ?_); rintro e w' ⟨rfl, hb1⟩))
    rename_i hh
    obtain ⟨m0, m1, z, g⟩ := hh
    go_wp2_with (first | (go_at_call 36; refine (S _).mono ?_; rintro e w' ⟨rfl, rfl⟩) | (go_at_call 48; first | ((with_reducible refine (M1 _).mono ?_); rintro e w' ⟨rfl, rfl⟩) | ((with_reducible refine (M2 _).mono ?_); rintro e w' ⟨rfl, rfl⟩)))
    go_ret
    exact ⟨rfl, g⟩
end Go.Proofs.Ytaecbapflpejmaa
