/- Contract of the reference's Right. -/
import Derived.Test.YtljnadoodbninaaWZeros
namespace Go.Proofs.Ytljnadoodbninaa
open Go.RowKit
theorem or_high (x y : Nat) (hx : x < 4294967296) (hy : y < 4294967296) : bits .or .u64 (x : Int) ((y : Int) * 4294967296) = ((x + y * 4294967296 : Nat) : Int) := by
  have h := u64_or_nat x (y * 2 ^ 32) (by omega) (by omega)
  rw [Nat.or_comm, ← Nat.shiftLeft_eq, ← Nat.shiftLeft_add_eq_or_of_lt (by omega : x < 2 ^ 32), Nat.shiftLeft_eq] at h
  rw [show ((y : Int) * 4294967296) = ((y * 2 ^ 32 : Nat) : Int) by omega, h]
  omega
/-- A word of a number by 2^(32 q + s). -/
theorem right_word {xs : List Nat} (hw : Vg.Wd xs) {n i : Nat} (hi : i < xs.length) (hq : n / 32 ≤ i) {v : Nat} (hv : v = Vg.nat32 (xs.drop i) % 18446744073709551616) :
    v / 2 ^ (n % 32) % 4294967296 = Vg.nat32 xs / 2 ^ n / Vg.P32 (i - n / 32) % 4294967296 := by
  have hs : n % 32 < 32 := Nat.mod_lt _ (by decide)
  rw [hv, ← Vg.nat32_div xs hw i (by omega), Nat.div_div_eq_div_mul (Vg.nat32 xs), show 2 ^ n * Vg.P32 (i - n / 32) = Vg.P32 i * 2 ^ (n % 32) by unfold Vg.P32; rw [← Nat.pow_add, ← Nat.pow_add]; congr 1; omega, ← Nat.div_div_eq_div_mul]
  generalize Vg.nat32 xs / Vg.P32 i = D
  generalize n % 32 = s at *
  rw [show (18446744073709551616 : Nat) = 2 ^ 64 from rfl, show (4294967296 : Nat) = 2 ^ 32 from rfl]
  obtain ⟨t, ht⟩ : ∃ t, 64 = s + (32 + t) := ⟨32 - s, by omega⟩
  rw [ht, Nat.pow_add 2 s, Nat.mod_mul_right_div_self, Nat.pow_add, Nat.mod_mul_right_mod]
theorem drop_two {xs : List Nat} (hw : Vg.Wd xs) {i : Nat} (h : i + 1 < xs.length) : xs[i] + xs[i + 1] * 4294967296 = Vg.nat32 (xs.drop i) % 18446744073709551616 := by
  have h1 := hw.at (i := i) (by omega)
  have h2 := hw.at h
  rw [Vg.nat32_drop (i := i) (by omega), Vg.nat32_drop h]
  omega
theorem drop_one {xs : List Nat} (hw : Vg.Wd xs) {i : Nat} (h : i < xs.length) (h0 : ∀ b ∈ xs.drop (i + 1), b = 0) : xs[i] = Vg.nat32 (xs.drop i) % 18446744073709551616 := by
  have h1 := hw.at h
  rw [Vg.nat32_drop h, (Vg.nat32_zero_iff _).2 h0]
  omega
/-- The quotient by 2^n, and a truth. -/
def TRi (N B : Nat) (w : World) (e : Ending) (w' : World) : Prop := ∃ v ys b, e = .returned (.tuple #[v, .bool b]) ∧ Rw w' v ys ∧ Vg.nat32 ys = N ∧ Vg.WL ys ys.length ∧ ys.length ≤ B ∧ Below w.heap.size w w'
set_option maxRecDepth 20000 in
set_option maxHeartbeats 8000000 in
theorem right_any (a : Value) (xs : List Nat) (n : Nat) (w : World) (ha : Rw w a xs) (hl : xs.length ≤ 35184372088831) (hn : n ≤ 9223372036854775807) : Calls Try.prog 140 #[a, .int .i64 n] w (TRi (Vg.nat32 xs / 2 ^ n) xs.length w) := by
  have HL := hide (show _ ∧ _ from ⟨hl, hn⟩)
  have HA := hide ha
  obtain ⟨i0, hi, hz0, hz1, hz2⟩ := info_parts info32
  have W1 := fun (w' : World) (h : Below w.heap.size w w') => words_any _ xs w' (ha.keep h) hl
  obtain ⟨A1, c1, rfl⟩ := ha.len
  obtain ⟨N1, hN1⟩ : ∃ n, xs.length = n := ⟨_, rfl⟩
  rw [hN1] at W1 ⊢
  have HN := hide hN1
  obtain ⟨q, hq⟩ : ∃ j, n / 32 = j := ⟨_, rfl⟩
  obtain ⟨s, hs⟩ : ∃ j, n % 32 = j := ⟨_, rfl⟩
  have HQ := hide (show n / 32 = q ∧ n % 32 = s from ⟨hq, hs⟩)
  have q1 : (n : Int).tdiv 32 = (q : Int) := by rw [Int.tdiv_eq_ediv_of_nonneg (by omega)]; omega
  have q2 : (n : Int).tmod 32 = (s : Int) := by rw [Int.tmod_eq_emod_of_nonneg (by omega)]; omega
  have r1 : IntKind.i64.wrap (q : Int) = (q : Int) := IntWalk.i64_in _ (by omega)
  have r2 : IntKind.i64.wrap (s : Int) = (s : Int) := IntWalk.i64_in _ (by omega)
  have r3 : IntKind.u64.wrap (s : Int) = (s : Int) := by rw [IntKind.wrap_u64]; omega
  have r4 : IntKind.u64.wrap (31 - (s : Int)) = 31 - (s : Int) := by rw [IntKind.wrap_u64]; omega
  have hs32 : s < 32 := by omega
  clear hl ha hN1 hn hq hs
  go_enter Try.func140, Try.ntmps140
  go_wp2_with fail
  refine (W1 _ (Below.refl _ _)).mono ?_; rintro e w1 ⟨m, rfl, hm, hb1⟩
  have G1 := hide hb1
  have HX := hide hm
  clear hb1 hm W1
  have hmN : m ≤ N1 := by have := HX.out.1; have := HN.out; omega
  by_cases h0 : m = 0
  · subst h0
    go_wp2
    go_ret2
    refine ⟨_, [], false, rfl, ⟨(by intro b hb; cases hb), .inl ⟨rfl, _, _, rfl⟩⟩, ?_, ⟨Nat.le_refl _, (by intro b hb; cases hb), fun h => absurd h (by simp)⟩, Nat.zero_le _, G1.out⟩
    rw [(HX.out.zero_iff HA.out.1).1 rfl, Nat.zero_div]; rfl
  have t0 : ((m : Int) == 0) = false := by rw [beq_eq_false_iff_ne]; omega
  have t0' : (m == 0) = false := by rw [beq_eq_false_iff_ne]; omega
  clear h0
  by_cases h1 : m ≤ q
  · have HQM : Hid (Vg.nat32 xs / 2 ^ n = 0) := hide (by
      have l := HX.out.lt HA.out.1
      have p : Vg.P32 m ≤ 2 ^ n := Nat.pow_le_pow_right (by decide) (by have := HQ.out; omega)
      exact Nat.div_eq_of_lt (by omega))
    go_wp2
    go_ret2
    exact ⟨_, [], true, rfl, ⟨(by intro b hb; cases hb), .inl ⟨rfl, _, _, rfl⟩⟩, HQM.out.symm, ⟨Nat.le_refl _, (by intro b hb; cases hb), fun h => absurd h (by simp)⟩, Nat.zero_le _, G1.out⟩
  have hqm : q < m := by omega
  have t1 : ¬ m ≤ q := h1
  have hqN : (q : Int) < N1 := by omega
  have hq1 : q < xs.length := by have := HN.out; omega
  obtain ⟨g, o, hA, hcell⟩ := HA.out.at hq1
  obtain ⟨x0, hx0⟩ : ∃ m : Nat, xs[q] = m := ⟨_, rfl⟩
  rw [hx0] at hcell
  obtain rfl : A1 = some ⟨g, o, none⟩ := hA _ _ (by rw [HN.out])
  have hc0 : w1.cell? ⟨g, o + q, none⟩ = some (.int .u32 (x0 : Nat)) := keep_cell G1.out hcell.1 hcell.2
  have AX : Hid (∀ g' o', some (⟨g, o, none⟩ : Addr) = some ⟨g', o', none⟩ → g = g' ∧ o = o') := hide (fun g' o' h => by injection h with h; injection h with h1 h2; exact ⟨h1, h2⟩)
  clear hcell hA hx0 h1
  go_upto_region 7 with fail
  go_cut [8] from 9999 (fun v wx => ∃ L : Bool, v = .bool L ∧ Hid (Below w.heap.size w wx))
  case first =>
    go_wp2_with fail
    all_goals
      go_meet
      exact ⟨_, rfl, G1⟩
  case rest =>
  obtain ⟨L0, rfl, HW⟩ := hcut
  clear hc0 G1
  go_wp2_with fail
  go_loopg [8, 9] q (fun k l i wr => ∃ (L : Bool) (j : Nat), l = .bool L ∧ i = .int .i64 j ∧ Hid (j + k = q) ∧ Hid (Below w.heap.size w wr))
  case atStart => exact ⟨L0, 0, rfl, rfl, hide (by omega), HW⟩
  case round =>
    clear HW
    obtain ⟨L, j, rfl, rfl, HJ, HW⟩ := hrel
    by_cases c : (j : Int) < q
    · have hj : j < xs.length := by have := HN.out; omega
      obtain ⟨g', o', hA, hcell⟩ := HA.out.at hj
      obtain ⟨x, hx⟩ : ∃ m : Nat, xs[j] = m := ⟨_, rfl⟩
      rw [hx] at hcell
      obtain ⟨rfl, rfl⟩ := AX.out _ _ (hA _ _ (by rw [HN.out]))
      have hc : wr.cell? ⟨g, o + j, none⟩ = some (.int .u32 (x : Nat)) := keep_cell HW.out hcell.1 hcell.2
      have ew : IntKind.i64.wrap ((j : Int) + 1) = (j + 1 : Nat) := by rw [IntWalk.i64_in _ (by have := HL.out; have := HN.out; omega)]; rfl
      have hjN : (j : Int) < N1 := by omega
      clear hcell hA hx
      cases L
      · go_wp2
        go_roundg (q - (j + 1))
        case measure => have := HJ.out; omega
        case rel => exact ⟨_, j + 1, rfl, by simp, hide (by have := HJ.out; omega), HW⟩
      · go_wp2
        go_roundg (q - (j + 1))
        case measure => have := HJ.out; omega
        case rel => exact ⟨_, j + 1, rfl, by simp, hide (by have := HJ.out; omega), HW⟩
    · go_wp2_with fail
      go_loopg [10, 11, 12] (m - q) (fun k l i v wr' => ∃ j : Nat, i = .int .i64 j ∧ Hid (j + k = m ∧ q ≤ j) ∧ Hid (wr'.ownsRow w.heap.size 78 1 l (Vg.dg (j - q) (Vg.nat32 xs / 2 ^ n)).length ((Vg.dg (j - q) (Vg.nat32 xs / 2 ^ n)).map wv) ∧ Below w.heap.size w wr'))
      case atStart => exact ⟨q, rfl, hide ⟨by omega, Nat.le_refl _⟩, hide ⟨by rw [Nat.sub_self]; exact own_nil32, HW.out⟩⟩
      case round =>
        clear HW HJ c
        obtain ⟨j, rfl, HJ, HO⟩ := hrel
        by_cases c : (j : Int) < m
        · have hj : j < xs.length := by have := HN.out; omega
          obtain ⟨g', o', hA, hcell⟩ := HA.out.at hj
          obtain ⟨x, hx⟩ : ∃ m : Nat, xs[j] = m := ⟨_, rfl⟩
          rw [hx] at hcell
          obtain ⟨rfl, rfl⟩ := AX.out _ _ (hA _ _ (by rw [HN.out]))
          have hc : wr.cell? ⟨g, o + j, none⟩ = some (.int .u32 (x : Nat)) := keep_cell HO.out.2 hcell.1 hcell.2
          have ew : IntKind.i64.wrap ((j : Int) + 1) = (j + 1 : Nat) := by rw [IntWalk.i64_in _ (by have := HL.out; have := HN.out; omega)]; rfl
          have hjN : (j : Int) < N1 := by omega
          have hxb : x < 4294967296 := by rw [← hx]; exact HA.out.1.at hj
          have ux : IntKind.u64.wrap (x : Int) = (x : Int) := by rw [IntKind.wrap_u64]; omega
          have HM := hide hx
          clear hcell hA hx
          by_cases c2 : j + 1 < m
          · have hj2 : j + 1 < xs.length := by have := HX.out.1; omega
            obtain ⟨g', o', hA, hcell⟩ := HA.out.at hj2
            obtain ⟨y, hy⟩ : ∃ m : Nat, xs[j + 1] = m := ⟨_, rfl⟩
            rw [hy] at hcell
            obtain ⟨rfl, rfl⟩ := AX.out _ _ (hA _ _ (by rw [HN.out]))
            have hcy : wr.cell? ⟨g, o + (j + 1), none⟩ = some (.int .u32 (y : Nat)) := keep_cell HO.out.2 hcell.1 hcell.2
            have hjN2 : ((j + 1 : Nat) : Int) < N1 := by have := HN.out; omega
            have hyb : y < 4294967296 := by rw [← hy]; exact HA.out.1.at hj2
            have uy : IntKind.u64.wrap (y : Int) = (y : Int) := by rw [IntKind.wrap_u64]; omega
            have uy2 : IntKind.u64.wrap ((y : Int) * 4294967296) = (y : Int) * 4294967296 := by rw [IntKind.wrap_u64]; omega
            have ov := or_high x y hxb hyb
            have HY := hide hy
            clear hcell hA hy
            have HD : Hid (x + y * 4294967296 = Vg.nat32 (xs.drop j) % 18446744073709551616) := hide (by rw [← HM.out, ← HY.out]; exact drop_two HA.out.1 (by have := HX.out.1; omega))
            obtain ⟨vv, hvv⟩ : ∃ v : Nat, x + y * 4294967296 = v := ⟨_, rfl⟩
            have hvb : vv < 18446744073709551616 := by rw [← hvv, HD.out]; exact Nat.mod_lt _ (by decide)
            have HV := hide (show vv = Vg.nat32 (xs.drop j) % 18446744073709551616 from hvv ▸ HD.out)
            obtain ⟨y1, hy1⟩ : ∃ y, vv / 2 ^ s = y := ⟨_, rfl⟩
            have d1 : (vv : Int) / 2 ^ s = (y1 : Int) := by rw [← hy1]; norm_cast
            have d2 : (vv : Int) / 2 ^ min s 64 = (y1 : Int) := by rw [Nat.min_eq_left (by omega)]; exact d1
            have a1 := and_low y1 (by rw [← hy1]; exact Nat.le_trans (Nat.div_le_self _ _) (by omega))
            obtain ⟨z1, hz⟩ : ∃ z, y1 % 4294967296 = z := ⟨_, rfl⟩
            rw [hz] at a1
            have u1 := wrap32_nat (x := z1) (by omega)
            have HZ : Hid (z1 = Vg.nat32 xs / 2 ^ n / Vg.P32 (j - q) % 4294967296) := hide (by
              have h := right_word HA.out.1 (n := n) (i := j) hj (by rw [HQ.out.1]; exact HJ.out.2) HV.out
              rw [HQ.out.1, HQ.out.2] at h
              rw [← h, hy1, hz])
            rw [hvv] at ov
            clear hy1 hz HD HV HM hvv
            go_wp2_with (at_builtin; refine wpList_append_own _ rfl _ _ 43 rfl w.heap.size 78 i0 (.int .u32 0) 1 4 Try.underlying43 hi hz0 hz1 hz2 rfl (by decide) _ (Vg.dg (j - q) (Vg.nat32 xs / 2 ^ n)).length ((Vg.dg (j - q) (Vg.nat32 xs / 2 ^ n)).map wv) rfl (HO.out.1.alloc _) ⟨wr.heap.size, 0, none⟩ 1 1 [.int .u32 (z1 : Nat)] rfl rfl (by intro j u hj; rcases j with _ | j <;> simp at hj; subst hj; simp [Addr.add]) (by intro u hu; simp at hu; subst hu; rfl) (by have := HL.out; have := HN.out; rw [Vg.dg_len]; unfold maxLen; omega) (by have := HL.out; have := HN.out; rw [Vg.dg_len]; omega) (by have := HO.out.2.size; simp; omega) ?_; intro v' w1 hown' hgrow _)
            have R := hide (own_more32 HO.out.1 HO.out.2 hown' hgrow)
            clear hown' hgrow HO
            go_wp2
            go_roundg (m - (j + 1))
            case measure => have := HJ.out; omega
            case rel =>
              refine ⟨j + 1, by simp, hide (by have := HJ.out; omega), hide ?_⟩
              have h := R.out
              rw [HZ.out, ← Vg.dg_succ, show j - q + 1 = j + 1 - q by have := HJ.out; omega] at h
              exact h
          · have HD : Hid (x = Vg.nat32 (xs.drop j) % 18446744073709551616) := hide (by rw [← HM.out]; exact drop_one HA.out.1 hj (fun b hb => HX.out.2.1 b (by rw [show m = j + 1 by omega]; exact hb)))
            obtain ⟨vv, hvv⟩ : ∃ v : Nat, x = v := ⟨_, rfl⟩
            have hvb : vv < 18446744073709551616 := by rw [← hvv, HD.out]; exact Nat.mod_lt _ (by decide)
            have HV := hide (show vv = Vg.nat32 (xs.drop j) % 18446744073709551616 from hvv ▸ HD.out)
            obtain ⟨y1, hy1⟩ : ∃ y, vv / 2 ^ s = y := ⟨_, rfl⟩
            have d1 : (vv : Int) / 2 ^ s = (y1 : Int) := by rw [← hy1]; norm_cast
            have d2 : (vv : Int) / 2 ^ min s 64 = (y1 : Int) := by rw [Nat.min_eq_left (by omega)]; exact d1
            have a1 := and_low y1 (by rw [← hy1]; exact Nat.le_trans (Nat.div_le_self _ _) (by omega))
            obtain ⟨z1, hz⟩ : ∃ z, y1 % 4294967296 = z := ⟨_, rfl⟩
            rw [hz] at a1
            have u1 := wrap32_nat (x := z1) (by omega)
            have HZ : Hid (z1 = Vg.nat32 xs / 2 ^ n / Vg.P32 (j - q) % 4294967296) := hide (by
              have h := right_word HA.out.1 (n := n) (i := j) hj (by rw [HQ.out.1]; exact HJ.out.2) HV.out
              rw [HQ.out.1, HQ.out.2] at h
              rw [← h, hy1, hz])
            subst hvv
            clear hy1 hz HD HV HM
            go_wp2_with (at_builtin; refine wpList_append_own _ rfl _ _ 43 rfl w.heap.size 78 i0 (.int .u32 0) 1 4 Try.underlying43 hi hz0 hz1 hz2 rfl (by decide) _ (Vg.dg (j - q) (Vg.nat32 xs / 2 ^ n)).length ((Vg.dg (j - q) (Vg.nat32 xs / 2 ^ n)).map wv) rfl (HO.out.1.alloc _) ⟨wr.heap.size, 0, none⟩ 1 1 [.int .u32 (z1 : Nat)] rfl rfl (by intro j u hj; rcases j with _ | j <;> simp at hj; subst hj; simp [Addr.add]) (by intro u hu; simp at hu; subst hu; rfl) (by have := HL.out; have := HN.out; rw [Vg.dg_len]; unfold maxLen; omega) (by have := HL.out; have := HN.out; rw [Vg.dg_len]; omega) (by have := HO.out.2.size; simp; omega) ?_; intro v' w1 hown' hgrow _)
            have R := hide (own_more32 HO.out.1 HO.out.2 hown' hgrow)
            clear hown' hgrow HO
            go_wp2
            go_roundg (m - (j + 1))
            case measure => have := HJ.out; omega
            case rel =>
              refine ⟨j + 1, by simp, hide (by have := HJ.out; omega), hide ?_⟩
              have h := R.out
              rw [HZ.out, ← Vg.dg_succ, show j - q + 1 = j + 1 - q by have := HJ.out; omega] at h
              exact h
        · have hjm : j = m := by have := HJ.out; omega
          subst hjm
          have NM := fun (w' : World) (h : Below w.heap.size w w') (a : Value) (hr : Rw w' a (Vg.dg (j - q) (Vg.nat32 xs / 2 ^ n))) => norm_any a _ w' hr (by rw [Vg.dg_len]; have := HL.out; have := HN.out; omega)
          have HR := hide (Rw.own (Vg.dg_wd _ _) HO.out.1)
          have HDD : Hid (Vg.nat32 (Vg.dg (j - q) (Vg.nat32 xs / 2 ^ n)) = Vg.nat32 xs / 2 ^ n) := hide (Vg.nat32_dg _ _ (by
            have l := HX.out.lt HA.out.1
            rw [Nat.div_lt_iff_lt_mul (Nat.two_pow_pos _)]
            refine Nat.lt_of_lt_of_le l ?_
            unfold Vg.P32
            rw [← Nat.pow_add]
            exact Nat.pow_le_pow_right (by decide) (by have := HQ.out; omega)))
          go_wp2_with fail
          refine (NM _ HO.out.2 _ HR.out).mono ?_; rintro e w9 ⟨v9, ys, rfl, h1, h2, h3, h4, hb9⟩
          rw [Vg.dg_len] at h4
          have R9 := hide (show _ ∧ _ ∧ _ ∧ _ ∧ _ from ⟨h1, h2.trans HDD.out, h3, h4, bch HO.out.2 hb9⟩)
          clear h1 h2 h3 h4 hb9 NM HO
          go_wp2
          go_ret2
          exact ⟨_, ys, _, rfl, R9.out.1, R9.out.2.1, R9.out.2.2.1, by have := R9.out.2.2.2.1; omega, R9.out.2.2.2.2⟩
end Go.Proofs.Ytljnadoodbninaa
