/- Contracts of the reference's Len and Word. -/
import Derived.Test.YtljnadoodbninaaWFrac
import Derived.Test.YtljnadoodbninaaMSum
namespace Vg
/-- How many bits a number has. -/
def blen (n : Nat) : Nat := if n = 0 then 0 else n.log2 + 1
theorem blen_zero : blen 0 = 0 := rfl
theorem blen_of {n k : Nat} (h1 : 2 ^ k ≤ n) (h2 : n < 2 ^ (k + 1)) : blen n = k + 1 := by
  have hn : n ≠ 0 := by have := Nat.two_pow_pos k; omega
  unfold blen
  rw [if_neg hn, log2_mid h1 h2]
theorem blen_pos {n : Nat} (h : 0 < n) : ∃ k, blen n = k + 1 ∧ 2 ^ k ≤ n ∧ n < 2 ^ (k + 1) := ⟨n.log2, by unfold blen; rw [if_neg (by omega)], Nat.log2_self_le (by omega), Nat.lt_log2_self⟩
theorem blen_half {n : Nat} (h : 0 < n) : blen (n / 2) + 1 = blen n := by
  obtain ⟨k, e, h1, h2⟩ := blen_pos h
  rw [e]
  rcases k with _ | k
  · have : n = 1 := by rw [Nat.pow_zero] at h1; rw [Nat.zero_add, Nat.pow_one] at h2; omega
    subst this; rfl
  · rw [Nat.pow_succ] at h1 h2
    rw [blen_of (k := k) (by omega) (by omega)]
theorem blen_le {n k : Nat} (h : n < 2 ^ k) : blen n ≤ k := by
  rcases Nat.eq_zero_or_pos n with h0 | h0
  · rw [h0]; exact Nat.zero_le _
  · obtain ⟨j, e, h1, h2⟩ := blen_pos h0
    rw [e]
    exact (Nat.pow_lt_pow_iff_right (by decide)).1 (Nat.lt_of_le_of_lt h1 h)
theorem blen_top {xs : List Nat} {n : Nat} (h : WL xs n) (hw : Wd xs) (hn : 0 < n) (hl : n - 1 < xs.length) : blen (nat32 xs) = 32 * (n - 1) + blen xs[n - 1] := by
  have e := nat32_snoc hl
  rw [show n - 1 + 1 = n by omega, h.nat] at e
  have l := nat32_lt _ (hw.take (n - 1))
  rw [List.length_take, Nat.min_eq_left (by omega)] at l
  have h0 := h.2.2 hl hn
  obtain ⟨k, ek, h1, h2⟩ := blen_pos (n := xs[n - 1]) (by omega)
  rw [ek, ← Nat.add_assoc]
  refine blen_of ?_ ?_
  · rw [e, Nat.pow_add]
    exact Nat.le_trans (Nat.mul_le_mul_left _ h1) (Nat.le_add_left _ _)
  · rw [e, Nat.add_assoc, Nat.pow_add]
    have := Nat.mul_le_mul_left (P32 (n - 1)) (show xs[n - 1] + 1 ≤ 2 ^ (k + 1) by omega)
    rw [Nat.mul_add, Nat.mul_one] at this
    exact Nat.lt_of_lt_of_le (by omega) this
end Vg
namespace Go.Proofs.Ytljnadoodbninaa
open Go.RowKit
set_option maxRecDepth 20000 in
set_option maxHeartbeats 4000000 in
theorem len_any (a : Value) (xs : List Nat) (w : World) (ha : Rw w a xs) (hl : xs.length ≤ 35184372088831) : Calls Try.prog 132 #[a] w (TInt (Vg.blen (Vg.nat32 xs)) w) := by
  have HL := hide hl
  have HA := hide ha
  have W1 := fun (w' : World) (h : Below w.heap.size w w') => words_any _ xs w' (ha.keep h) hl
  obtain ⟨A1, c1, rfl⟩ := ha.len
  obtain ⟨N1, hN1⟩ : ∃ n, xs.length = n := ⟨_, rfl⟩
  rw [hN1] at W1 ⊢
  have HN := hide hN1
  clear hl ha hN1
  go_enter Try.func132, Try.ntmps132
  go_wp2_with fail
  refine (W1 _ (Below.refl _ _)).mono ?_; rintro e w1 ⟨n, rfl, hn, hb1⟩
  have G1 := hide hb1
  have HX := hide hn
  clear hb1 hn W1
  by_cases h0 : n = 0
  · subst h0
    have R := hide (show Vg.blen (Vg.nat32 xs) = 0 by rw [(HX.out.zero_iff HA.out.1).1 rfl]; rfl)
    go_wp2
    go_ret
    exact ⟨by rw [R.out]; rfl, G1.out⟩
  · have t1 : ((n : Int) == 0) = false := by rw [beq_eq_false_iff_ne]; omega
    obtain ⟨j, hj⟩ : ∃ j, n = j + 1 := ⟨n - 1, by omega⟩
    have hjl : j < xs.length := by have := HX.out.1; omega
    obtain ⟨g, o, hA, hcell⟩ := HA.out.at hjl
    obtain ⟨x, hx⟩ : ∃ m : Nat, xs[j] = m := ⟨_, rfl⟩
    rw [hx] at hcell
    obtain rfl : A1 = some ⟨g, o, none⟩ := hA _ _ (by rw [HN.out])
    have hc : w1.cell? ⟨g, o + j, none⟩ = some (.int .u32 (x : Nat)) := keep_cell G1.out hcell.1 hcell.2
    have hjN : (j : Int) < N1 := by have := HN.out; omega
    have ew : IntKind.i64.wrap ((n : Int) - 1) = (j : Nat) := by rw [IntWalk.i64_in _ (by have := HL.out; have := HN.out; omega)]; omega
    have ew2 : IntKind.i64.wrap (32 * (j : Int)) = (32 * j : Nat) := by rw [IntWalk.i64_in _ (by have := HL.out; have := HN.out; omega)]; omega
    have hxb : x < 4294967296 := by rw [← hx]; exact HA.out.1.at hjl
    have HB := hide (show Vg.blen (Vg.nat32 xs) = 32 * j + Vg.blen x ∧ Vg.blen x ≤ 32 ∧ 32 * j ≤ 1125899906842592 from by
      have e := Vg.blen_top HX.out HA.out.1 (by omega) (by omega)
      have ej : n - 1 = j := by omega
      simp only [ej, hx] at e
      refine ⟨e, Vg.blen_le (by omega), ?_⟩
      have := HL.out; have := HN.out; omega)
    clear h0 hj hA hcell hx hxb
    go_wp2_with fail
    go_loopg [4, 5] x (fun m k v wr => ∃ K X : Nat, k = .int .i64 K ∧ v = .int .u32 X ∧ Hid (X = m ∧ K + Vg.blen X = Vg.blen (Vg.nat32 xs) ∧ K ≤ 1125899906842624) ∧ Hid (Below w.heap.size w wr))
    case atStart => exact ⟨32 * j, x, by simp, rfl, hide ⟨rfl, HB.out.1.symm, by have := HB.out; omega⟩, G1⟩
    case round =>
      clear G1 hc
      obtain ⟨K, X, rfl, rfl, HK, HW⟩ := hrel
      by_cases c : (0 : Int) < X
      · have ew : IntKind.i64.wrap ((K : Int) + 1) = (K + 1 : Nat) := by rw [IntWalk.i64_in _ (by have := HK.out; omega)]; rfl
        have ex : (X : Int) / 2 = (X / 2 : Nat) := by omega
        obtain ⟨Y, hY⟩ : ∃ Y, X / 2 = Y := ⟨_, rfl⟩
        rw [hY] at ex
        have R := hide (show Y < X ∧ K + 1 + Vg.blen Y = Vg.blen (Vg.nat32 xs) ∧ K + 1 ≤ 1125899906842624 from by
          have e := Vg.blen_half (n := X) (by omega)
          rw [hY] at e
          have := HK.out
          have := HB.out
          omega)
        clear hY
        go_wp2
        go_roundg Y
        case measure => have := HK.out; have := R.out; omega
        case rel => exact ⟨K + 1, Y, by simp, rfl, hide ⟨rfl, R.out.2.1, R.out.2.2⟩, HW⟩
      · have h0 : X = 0 := by omega
        have R := hide (show Vg.blen (Vg.nat32 xs) = K from by have h := HK.out.2.1; rw [h0, Vg.blen_zero] at h; omega)
        subst h0
        clear c
        go_wp2
        go_ret
        exact ⟨by rw [R.out]; rfl, HW.out⟩
def TWd (N : Nat) (w : World) (e : Ending) (w' : World) : Prop := e = .returned (.tuple #[.int .u64 (N : Int), .bool true]) ∧ Below w.heap.size w w'
theorem or_low (x y : Nat) (hx : x < 4294967296) (hy : y < 4294967296) : bits .or .u64 ((y * 4294967296 : Nat) : Int) (x : Int) = ((x + y * 4294967296 : Nat) : Int) := by
  have h := u64_or_nat (y * 4294967296) x (by omega) (by omega)
  rw [h]
  congr 1
  have e := Nat.shiftLeft_add_eq_or_of_lt (i := 32) (b := x) (by omega) y
  rw [Nat.shiftLeft_eq] at e
  rw [← e, Nat.add_comm]
set_option maxRecDepth 20000 in
set_option maxHeartbeats 4000000 in
theorem word_any (a : Value) (xs : List Nat) (w : World) (ha : Rw w a xs) (hl : xs.length ≤ 35184372088831) (hN : Vg.nat32 xs < 18446744073709551616) : Calls Try.prog 137 #[a] w (TWd (Vg.nat32 xs) w) := by
  have HL := hide hl
  have HA := hide ha
  have W1 := fun (w' : World) (h : Below w.heap.size w w') => words_any _ xs w' (ha.keep h) hl
  obtain ⟨A1, c1, rfl⟩ := ha.len
  obtain ⟨N1, hN1⟩ : ∃ n, xs.length = n := ⟨_, rfl⟩
  rw [hN1] at W1 ⊢
  have HN := hide (show xs.length = N1 ∧ Vg.nat32 xs < 18446744073709551616 from ⟨hN1, hN⟩)
  clear hl ha hN1 hN
  go_enter Try.func137, Try.ntmps137
  go_wp2_with fail
  refine (W1 _ (Below.refl _ _)).mono ?_; rintro e w1 ⟨n, rfl, hn, hb1⟩
  have G1 := hide hb1
  have HX := hide hn
  clear hb1 hn W1
  have hn2 : n ≤ 2 := by
    refine Classical.byContradiction fun c => ?_
    have h := HX.out.le (by omega)
    have m := Vg.P32_mono (show 2 ≤ n - 1 by omega)
    have e : Vg.P32 2 = 18446744073709551616 := by decide
    have := HN.out.2
    omega
  have t0 : ¬ ((2 : Int) < n) := by omega
  have ew0 : IntKind.i64.wrap ((n : Int) - 1) = (n : Int) - 1 := by rw [IntWalk.i64_in _ (by omega)]
  have H2 := hide hn2
  clear hn2
  go_wp2_with fail
  go_loopg [5, 6] n (fun k v i wr => ∃ V : Nat, v = .int .u64 V ∧ i = .int .i64 ((k : Int) - 1) ∧ Hid (k ≤ n ∧ V = Vg.nat32 (xs.drop k)) ∧ Hid (Below w.heap.size w wr))
  case atStart => exact ⟨0, rfl, rfl, hide ⟨Nat.le_refl _, ((Vg.nat32_zero_iff _).2 HX.out.2.1).symm⟩, G1⟩
  case round =>
    clear G1 t0 ew0
    obtain ⟨V, rfl, rfl, HK, HW⟩ := hrel
    by_cases c : (0 : Int) ≤ (gk : Int) - 1
    · obtain ⟨j, rfl⟩ : ∃ j, gk = j + 1 := ⟨gk - 1, by omega⟩
      have ej : ((j + 1 : Nat) : Int) - 1 = (j : Int) := by omega
      rw [ej]
      have hjl : j < xs.length := by have := HX.out.1; have := HK.out; omega
      obtain ⟨g, o, hA, hcell⟩ := HA.out.at hjl
      obtain ⟨x, hx⟩ : ∃ m : Nat, xs[j] = m := ⟨_, rfl⟩
      rw [hx] at hcell
      obtain rfl : A1 = some ⟨g, o, none⟩ := hA _ _ (by rw [HN.out.1])
      have hc : wr.cell? ⟨g, o + j, none⟩ = some (.int .u32 (x : Nat)) := keep_cell HW.out hcell.1 hcell.2
      have hjN : (j : Int) < N1 := by have := HN.out; omega
      have ew : IntKind.i64.wrap ((j : Int) - 1) = (j : Int) - 1 := by rw [IntWalk.i64_in _ (by have := H2.out; have := HK.out; omega)]
      have hxb : x < 4294967296 := by rw [← hx]; exact HA.out.1.at hjl
      have ux : IntKind.u64.wrap (x : Int) = (x : Int) := by rw [IntKind.wrap_u64]; omega
      have hd := Vg.nat32_drop hjl
      have hVb : V < 4294967296 := by
        rw [HK.out.2]
        have l := Vg.nat32_lt _ ((HA.out.1.take n).drop (j + 1))
        have e : Vg.nat32 (xs.drop (j + 1)) = Vg.nat32 ((xs.take n).drop (j + 1)) := by
          have s1 := Vg.nat32_split (xs.drop (j + 1)) (n - (j + 1)) (by rw [List.length_drop]; have := HX.out.1; omega)
          rw [List.drop_drop, show j + 1 + (n - (j + 1)) = n by have := HK.out; omega, (Vg.nat32_zero_iff _).2 HX.out.2.1, Nat.mul_zero, Nat.add_zero] at s1
          rw [s1, List.drop_take, Nat.add_zero]
        rw [e]
        rw [List.length_drop, List.length_take, Nat.min_eq_left HX.out.1] at l
        have m := Vg.P32_mono (show n - (j + 1) ≤ 1 by have := H2.out; omega)
        have e1 : Vg.P32 1 = 4294967296 := by decide
        omega
      obtain ⟨V2, hV2⟩ : ∃ V2, V * 4294967296 = V2 := ⟨_, rfl⟩
      have ev : IntKind.u64.wrap ((V : Int) * 4294967296) = (V2 : Int) := by rw [IntKind.wrap_u64]; omega
      have ev2 : (V : Int) * 4294967296 % 18446744073709551616 = (V2 : Int) := by omega
      have eo := or_low x V hxb hVb
      rw [hV2] at eo
      obtain ⟨T, hT⟩ : ∃ T, x + V2 = T := ⟨_, rfl⟩
      rw [hT] at eo
      have R := hide (show T = Vg.nat32 (xs.drop j) from by rw [hd, hx, ← HK.out.2]; omega)
      have HJ := hide (show j ≤ n from by have := HK.out; omega)
      clear hA hcell hx hxb hVb hV2 hT hd HK ej c
      go_wp2
      go_roundg j
      case measure => omega
      case rel => exact ⟨T, rfl, rfl, hide ⟨HJ.out, R.out⟩, HW⟩
    · have h0 : gk = 0 := by omega
      subst h0
      have R := hide (show Vg.nat32 xs = V from by rw [HK.out.2, List.drop_zero])
      clear c
      go_wp2
      go_ret2
      exact ⟨by rw [R.out]; rfl, HW.out⟩
end Go.Proofs.Ytljnadoodbninaa
