/- Contracts of the reference's Bit and Zeros. -/
import Derived.Test.YtljnadoodbninaaWSmall
namespace Go.Proofs.Ytljnadoodbninaa
open Go.RowKit
/-- Bit i of a number. -/
def bitn (n i : Nat) : Nat := n / 2 ^ i % 2
theorem bitn_word {xs : List Nat} (hw : Vg.Wd xs) {i : Nat} (h : i / 32 < xs.length) : xs[i / 32] / 2 ^ (i % 32) % 2 = bitn (Vg.nat32 xs) i := by
  have e := Vg.nat32_div xs hw (i / 32) (by omega)
  have d := Vg.nat32_drop h
  have hi : i = 32 * (i / 32) + i % 32 := by omega
  unfold bitn
  conv => rhs; rw [hi, Nat.pow_add, ← Nat.div_div_eq_div_mul]
  rw [show 2 ^ (32 * (i / 32)) = Vg.P32 (i / 32) from rfl, e, d]
  have hs : i % 32 < 32 := Nat.mod_lt _ (by decide)
  obtain ⟨t, ht⟩ : ∃ t, 32 = i % 32 + 1 + t := ⟨31 - i % 32, by omega⟩
  have e2 : (4294967296 : Nat) = 2 ^ (i % 32) * (2 * 2 ^ t) := by
    rw [← Nat.mul_assoc, ← Nat.pow_succ, ← Nat.pow_add, ← ht]
  rw [e2, Nat.mul_assoc, Nat.add_mul_div_left _ _ (Nat.two_pow_pos _), Nat.mul_assoc, Nat.add_mul_mod_self_left]
def TBt (n i : Nat) (w : World) (e : Ending) (w' : World) : Prop := e = .returned (.int .u32 (bitn n i : Nat)) ∧ Below w.heap.size w w'
set_option maxRecDepth 20000 in
set_option maxHeartbeats 4000000 in
theorem bit_any (a : Value) (xs : List Nat) (i : Nat) (w : World) (ha : Rw w a xs) (hl : xs.length ≤ 35184372088831) (hi : i < 32 * xs.length) : Calls Try.prog 143 #[a, .int .i64 i] w (TBt (Vg.nat32 xs) i w) := by
  have hj : i / 32 < xs.length := by omega
  obtain ⟨g, o, hA, hcell⟩ := ha.at hj
  obtain ⟨A1, c1, rfl⟩ := ha.len
  obtain ⟨N1, hN1⟩ : ∃ n, xs.length = n := ⟨_, rfl⟩
  rw [hN1]
  obtain ⟨x, hx⟩ : ∃ m : Nat, xs[i / 32] = m := ⟨_, rfl⟩
  have hb := bitn_word ha.1 hj
  have hxb := ha.1.at hj
  rw [hx] at hcell hb hxb
  obtain rfl : A1 = some ⟨g, o, none⟩ := hA _ _ (by rw [hN1])
  obtain ⟨J, hJ⟩ : ∃ j, i / 32 = j := ⟨_, rfl⟩
  obtain ⟨s, hs⟩ : ∃ j, i % 32 = j := ⟨_, rfl⟩
  rw [hJ] at hcell
  rw [hs] at hb
  have hs32 : s < 32 := by omega
  have hjN : (J : Int) < N1 := by omega
  have t0 : ¬ ((i : Int) < 0) := by omega
  have q1 : (i : Int).tdiv 32 = (J : Int) := by rw [Int.tdiv_eq_ediv_of_nonneg (by omega)]; omega
  have q2 : (i : Int).tmod 32 = (s : Int) := by rw [Int.tmod_eq_emod_of_nonneg (by omega)]; omega
  have w1 : IntKind.i64.wrap (J : Int) = (J : Int) := IntWalk.i64_in _ (by omega)
  have w2 : IntKind.i64.wrap (s : Int) = (s : Int) := IntWalk.i64_in _ (by omega)
  have w3 : IntKind.u64.wrap (s : Int) = (s : Int) := by rw [IntKind.wrap_u64]; omega
  have hc : w.cell? ⟨g, o + J, none⟩ = some (.int .u32 (x : Nat)) := hcell.2
  obtain ⟨y, hy⟩ : ∃ y, x / 2 ^ s = y := ⟨_, rfl⟩
  have d1 : (x : Int) / 2 ^ s = (y : Int) := by rw [← hy]; norm_cast
  have d2 : (x : Int) / 2 ^ min s 32 = (y : Int) := by rw [Nat.min_eq_left (by omega)]; exact d1
  have hyb : y < 4294967296 := by rw [← hy]; exact Nat.lt_of_le_of_lt (Nat.div_le_self _ _) hxb
  have a1 : bits .and .u32 (y : Int) 1 = ((y % 2 : Nat) : Int) := by
    have h := u32_and_nat y 1 hyb (by decide)
    rw [Nat.and_one_is_mod] at h
    exact h
  obtain ⟨z, hz⟩ : ∃ z, y % 2 = z := ⟨_, rfl⟩
  rw [hz] at a1
  have HZ : Hid (bitn (Vg.nat32 xs) i = z) := hide (by rw [← hb, hy, hz])
  have hle : ¬ ((N1 : Int) ≤ (J : Int)) := by omega
  clear hcell hA hb hx hJ hs hy hz hi hj hl ha hxb hN1 hyb
  go_enter Try.func143, Try.ntmps143
  go_wp2
  go_ret
  exact ⟨by rw [HZ.out]; rfl, Below.refl _ _⟩
theorem mod_take (xs : List Nat) (hw : Vg.Wd xs) (j : Nat) (h : j ≤ xs.length) : Vg.nat32 xs % 2 ^ (32 * j) = Vg.nat32 (xs.take j) := by
  have e := Vg.nat32_split xs j h
  have l := Vg.nat32_lt _ (hw.take j)
  rw [List.length_take, Nat.min_eq_left h] at l
  rw [e, show 2 ^ (32 * j) = Vg.P32 j from rfl, Nat.add_mul_mod_self_left, Nat.mod_eq_of_lt l]
theorem zeros_word {xs : List Nat} (hw : Vg.Wd xs) {j : Nat} (h : j < xs.length) (h0 : Vg.nat32 xs % 2 ^ (32 * j) = 0) (hx : xs[j] = 0) : Vg.nat32 xs % 2 ^ (32 * j + 32) = 0 := by
  rw [show 32 * j + 32 = 32 * (j + 1) by omega, mod_take xs hw (j + 1) (by omega), Vg.nat32_snoc h, hx, Nat.mul_zero, Nat.add_zero, ← mod_take xs hw j (by omega)]
  exact h0
theorem zeros_bit {n k : Nat} (h0 : n % 2 ^ k = 0) (hb : bitn n k = 0) : n % 2 ^ (k + 1) = 0 := by
  unfold bitn at hb
  rw [Nat.pow_succ, Nat.mod_mul, h0, hb]; rfl
theorem zeros_lt {xs : List Nat} (hw : Vg.Wd xs) (hn : Vg.nat32 xs ≠ 0) {k : Nat} (h0 : Vg.nat32 xs % 2 ^ k = 0) : k < 32 * xs.length := by
  refine Classical.byContradiction fun c => ?_
  have l := Vg.nat32_lt xs hw
  have m : Vg.P32 xs.length ≤ 2 ^ k := Nat.pow_le_pow_right (by decide) (by omega)
  rw [Nat.mod_eq_of_lt (by omega)] at h0
  exact hn h0
/-- How many noughts a number has at its low end (0 has none): so many it has, at least. -/
def TZr (n B : Nat) (w : World) (e : Ending) (w' : World) : Prop := ∃ k : Nat, e = .returned (.int .i64 k) ∧ (n % 2 ^ k = 0 ∧ k ≤ B) ∧ Below w.heap.size w w'
set_option maxRecDepth 20000 in
set_option maxHeartbeats 8000000 in
theorem zeros_any (a : Value) (xs : List Nat) (w : World) (ha : Rw w a xs) (hl : xs.length ≤ 35184372088831) : Calls Try.prog 139 #[a] w (TZr (Vg.nat32 xs) (32 * xs.length) w) := by
  have HL := hide hl
  have HA := hide ha
  have W1 := fun (w' : World) (h : Below w.heap.size w w') => words_any _ xs w' (ha.keep h) hl
  have W2 := fun (w' : World) (h : Below w.heap.size w w') (i : Nat) (hi : i < 32 * xs.length) => bit_any _ xs i w' (ha.keep h) hl hi
  obtain ⟨A1, c1, rfl⟩ := ha.len
  obtain ⟨N1, hN1⟩ : ∃ n, xs.length = n := ⟨_, rfl⟩
  rw [hN1] at W1 W2 ⊢
  have HN := hide hN1
  have HB := hide W2
  clear hl ha hN1 W2
  go_enter Try.func139, Try.ntmps139
  go_wp2_with fail
  refine (W1 _ (Below.refl _ _)).mono ?_; rintro e w1 ⟨n, rfl, hn, hb1⟩
  have G1 := hide hb1
  have HX := hide hn
  clear hb1 hn W1
  by_cases h0 : n = 0
  · subst h0
    go_wp2
    go_ret
    exact ⟨0, rfl, ⟨by rw [Nat.pow_zero, Nat.mod_one], Nat.zero_le _⟩, G1.out⟩
  · have t1 : ((n : Int) == 0) = false := by rw [beq_eq_false_iff_ne]; omega
    have HZ : Hid (Vg.nat32 xs ≠ 0) := hide fun h => h0 ((HX.out.zero_iff HA.out.1).2 h)
    clear h0
    go_wp2_with fail
    go_loopg [3] N1 (fun k i wr => ∃ K j : Nat, i = .int .i64 K ∧ Hid (j + k = N1 ∧ K = 32 * j ∧ Vg.nat32 xs % 2 ^ K = 0) ∧ Hid (Below w.heap.size w wr))
    case atStart => exact ⟨0, 0, rfl, hide ⟨by omega, rfl, by rw [Nat.pow_zero, Nat.mod_one]⟩, G1⟩
    case round =>
      clear G1
      obtain ⟨K, j, rfl, HJ, HW⟩ := hrel
      have hK := zeros_lt HA.out.1 HZ.out HJ.out.2.2
      have hj : j < xs.length := by have := HJ.out; omega
      obtain ⟨g, o, hA, hcell⟩ := HA.out.at hj
      obtain ⟨x, hx⟩ : ∃ m : Nat, xs[j] = m := ⟨_, rfl⟩
      rw [hx] at hcell
      obtain rfl : A1 = some ⟨g, o, none⟩ := hA _ _ (by rw [HN.out])
      have hc : wr.cell? ⟨g, o + j, none⟩ = some (.int .u32 (x : Nat)) := keep_cell HW.out hcell.1 hcell.2
      have q1 : (K : Int).tdiv 32 = (j : Int) := by rw [Int.tdiv_eq_ediv_of_nonneg (by omega)]; have := HJ.out.2.1; omega
      have w1 : IntKind.i64.wrap (j : Int) = (j : Int) := IntWalk.i64_in _ (by have := HL.out; omega)
      have hjN : (j : Int) < N1 := by have := HN.out; omega
      have HM := hide hx
      have HK := hide hK
      clear hcell hA hx hK
      by_cases e : x = 0
      · subst e
        have w2 : IntKind.i64.wrap ((K : Int) + 32) = (K + 32 : Nat) := by rw [IntWalk.i64_in _ (by have := HL.out; have := HN.out; have := HJ.out.2.1; omega)]; rfl
        go_wp2
        go_roundg (N1 - (j + 1))
        case measure => have := HJ.out; have := HN.out; omega
        case rel =>
          refine ⟨K + 32, j + 1, by simp, hide ⟨by have := HJ.out; have := HN.out; omega, by have := HJ.out; omega, ?_⟩, HW⟩
          have h3 := HJ.out.2.2
          have e := HJ.out.2.1
          rw [e] at h3 ⊢
          exact zeros_word HA.out.1 hj h3 HM.out
      · have t2 : (x == 0) = false := beq_eq_false_iff_ne.2 e
        have t3 : ((x : Int) == 0) = false := by rw [beq_eq_false_iff_ne]; omega
        have H0 : Hid (K ≤ 32 * N1 ∧ Vg.nat32 xs % 2 ^ K = 0) := hide ⟨by have := HK.out; have := HN.out; omega, HJ.out.2.2⟩
        clear HM HK HJ e hj
        go_wp2_with fail
        clear hc q1 w1 hjN
        go_loopg [3] (32 * N1) (fun k i wr' => ∃ T : Nat, i = .int .i64 T ∧ Hid (32 * N1 ≤ T + k ∧ Vg.nat32 xs % 2 ^ T = 0) ∧ Hid (Below w.heap.size w wr'))
        case atStart => exact ⟨K, rfl, hide ⟨by have := H0.out; omega, H0.out.2⟩, HW⟩
        case round =>
          clear HW H0
          obtain ⟨T, rfl, HT, HW⟩ := hrel
          have hT := zeros_lt HA.out.1 HZ.out HT.out.2
          rw [HN.out] at hT
          have C := HB.out _ HW.out T hT
          have w3 : IntKind.i64.wrap ((T : Int) + 1) = (T + 1 : Nat) := by rw [IntWalk.i64_in _ (by have := HL.out; have := HN.out; omega)]; rfl
          have HTT := hide hT
          clear hT
          go_wp2_with fail
          refine C.mono ?_; rintro e w4 ⟨rfl, hb4⟩
          obtain ⟨b, hb⟩ : ∃ b, bitn (Vg.nat32 xs) T = b := ⟨_, rfl⟩
          rw [hb]
          have HBB := hide hb
          have G4 := hide (bch HW.out hb4)
          clear hb hb4 C HW
          by_cases e : b = 0
          · subst e
            go_wp2
            go_roundg (32 * N1 - (T + 1))
            case measure => have := HT.out; have := HTT.out; omega
            case rel => exact ⟨T + 1, by simp, hide ⟨by have := HT.out; have := HTT.out; omega, zeros_bit HT.out.2 HBB.out⟩, G4⟩
          · have t4 : (b == 0) = false := beq_eq_false_iff_ne.2 e
            have t5 : ((b : Int) == 0) = false := by rw [beq_eq_false_iff_ne]; omega
            clear e
            go_wp2
            go_ret
            exact ⟨T, rfl, ⟨HT.out.2, by have := HTT.out; omega⟩, G4.out⟩
end Go.Proofs.Ytljnadoodbninaa
