/- Contract of the reference's rounded, Bits, at a ratio that is a binary64 number: it is told as it is. -/
import Derived.Test.YtljnadoodbninaaWMade
import Derived.Test.YtljnadoodbninaaWBound
import Derived.Deep.DeepCutAuto
namespace Vg
theorem pow_le_iff {a b : Nat} : 2 ^ a < 2 ^ b ↔ a < b := Nat.pow_lt_pow_iff_right (by decide)
/-- Where a ratio's first bit lies. -/
theorem rnd_place {V n m l a b P : Nat} (e : V * m = n * 2 ^ P) (h1 : 2 ^ l ≤ V) (h2 : V < 2 ^ (l + 1)) (a1 : 2 ^ a ≤ n) (a2 : n < 2 ^ (a + 1)) (b1 : 2 ^ b ≤ m) (b2 : m < 2 ^ (b + 1)) : l + b ≤ a + P ∧ a + P ≤ l + b + 1 := by
  constructor
  · have k : 2 ^ l * 2 ^ b ≤ V * m := Nat.mul_le_mul h1 b1
    rw [e, ← Nat.pow_add] at k
    have k2 := Nat.mul_lt_mul_of_pos_right a2 (Nat.two_pow_pos P)
    rw [← Nat.pow_add] at k2
    have := pow_le_iff.1 (Nat.lt_of_le_of_lt k k2)
    omega
  · have k : V * m < 2 ^ (l + 1) * 2 ^ (b + 1) := Nat.mul_lt_mul'' h2 b2
    rw [e, ← Nat.pow_add] at k
    have k2 := Nat.mul_le_mul_right (2 ^ P) a1
    rw [← Nat.pow_add] at k2
    have := pow_le_iff.1 (Nat.lt_of_le_of_lt k2 k)
    omega
theorem rnd_test {V n m l P t : Nat} (e : V * m = n * 2 ^ P) (hm : 0 < m) (h1 : 2 ^ l ≤ V) (h2 : V < 2 ^ (l + 1)) : (n < m * 2 ^ t ↔ l < t + P) ∧ (n * 2 ^ t < m ↔ l + t < P) := by
  have key : ∀ g, V < 2 ^ g ↔ l < g := fun g => by
    constructor
    · intro h; exact pow_le_iff.1 (Nat.lt_of_le_of_lt h1 h)
    · intro h; exact Nat.lt_of_lt_of_le h2 (Nat.pow_le_pow_right (by decide) h)
  have hP := Nat.two_pow_pos P
  constructor
  · rw [← key, ← Nat.mul_lt_mul_right hP, ← e, Nat.mul_assoc, ← Nat.pow_add, Nat.mul_comm V, Nat.mul_lt_mul_left hm]
  · have k : n * 2 ^ t < m ↔ V * 2 ^ t < 2 ^ P := by
      rw [← Nat.mul_lt_mul_right hP, Nat.mul_right_comm, ← e, Nat.mul_right_comm, Nat.mul_comm m, Nat.mul_lt_mul_right hm]
    rw [k]
    constructor
    · intro h
      have := Nat.mul_le_mul_right (2 ^ t) h1
      rw [← Nat.pow_add] at this
      exact pow_le_iff.1 (Nat.lt_of_le_of_lt this h)
    · intro h
      have := Nat.mul_lt_mul_of_pos_right h2 (Nat.two_pow_pos t)
      rw [← Nat.pow_add] at this
      exact Nat.lt_of_lt_of_le this (Nat.pow_le_pow_right (by decide) (by omega))
theorem rnd_exact {V n m k L P : Nat} (e : V * m = n * 2 ^ P) (hV : V = k * 2 ^ L) : (P ≤ L → n = k * (m * 2 ^ (L - P))) ∧ (L < P → n * 2 ^ (P - L) = k * m) := by
  have hP := Nat.two_pow_pos P
  constructor
  · intro h
    refine Nat.eq_of_mul_eq_mul_right hP ?_
    rw [← e, hV, Nat.mul_assoc k (m * _), Nat.mul_assoc m, ← Nat.pow_add, show L - P + P = L by omega, Nat.mul_right_comm, ← Nat.mul_assoc]
  · intro h
    refine Nat.eq_of_mul_eq_mul_right (Nat.two_pow_pos L) ?_
    rw [Nat.mul_assoc, ← Nat.pow_add, show P - L + L = P by omega, ← e, hV, Nat.mul_right_comm]
end Vg
namespace Go.Proofs.Ytljnadoodbninaa
open Go.RowKit
set_option maxRecDepth 20000 in
set_option maxHeartbeats 8000000 in
theorem rounded_exact (d : Int) (hd : d = 1 ∨ d = -1 ∨ d = 0) (s : Bool) (A1 A2 : Option Addr) (n1 c1 n2 c2 : Nat) (xs ys : List Nat) (w : World) (h1 : Rw w (.slice A1 n1 c1) xs) (h2 : Rw w (.slice A2 n2 c2) ys) (hm : 0 < Vg.nat32 ys) (l1 : xs.length ≤ 65536) (l2 : ys.length ≤ 65536)
    (k L : Nat) (hk : 0 < k) (hk2 : k < 9007199254740992) (hkL : 4503599627370496 ≤ k ∨ L = 0) (hL : L ≤ 2045) (e : k * 2 ^ L * Vg.nat32 ys = Vg.nat32 xs * Vg.LP) :
    Calls Try.prog 124 #[.int .i64 d, .agg #[.bool s, .slice A1 n1 c1, .slice A2 n2 c2], .int .i64 53, .int .i64 1023] w fun e w' => e = .returned (.int .u64 (mk s (L * 4503599627370496 + k) : Nat)) ∧ Below w.heap.size w w' := by
  obtain ⟨RR, hRR⟩ : ∃ R, mk s (L * 4503599627370496 + k) = R := ⟨_, rfl⟩
  rw [hRR]
  have HRR := hide hRR
  clear hRR
  obtain ⟨P, hP⟩ : ∃ P, (1074 : Nat) = P := ⟨_, rfl⟩
  have eP : Vg.LP = 2 ^ P := by unfold Vg.LP Vg.tp; rw [hP]
  rw [eP] at e
  clear eP
  obtain ⟨N, hN⟩ : ∃ n, Vg.nat32 xs = n := ⟨_, rfl⟩
  obtain ⟨M, hM⟩ : ∃ n, Vg.nat32 ys = n := ⟨_, rfl⟩
  have RS := fun (w' : World) (h : Below w.heap.size w w') => rsign_any s A1 A2 n1 c1 n2 c2 xs w' (h1.keep h) (by omega)
  have LN := fun (w' : World) (h : Below w.heap.size w w') => len_any _ xs w' (h1.keep h) (by omega)
  have LM := fun (w' : World) (h : Below w.heap.size w w') => len_any _ ys w' (h2.keep h) (by omega)
  have FN := fun (t : Nat) (ht : t ≤ 4096000) (w' : World) (h : Below w.heap.size w w') => left_any _ xs t w' (h1.keep h) (by omega)
  have FM := fun (t : Nat) (ht : t ≤ 4096000) (w' : World) (h : Below w.heap.size w w') => left_any _ ys t w' (h2.keep h) (by omega)
  rw [hN] at e RS LN FN
  rw [hM] at e hm LM FM
  have KN := hide (show Rw w _ xs ∧ Vg.nat32 xs = N ∧ xs.length ≤ 65536 from ⟨h1, hN, l1⟩)
  have KM := hide (show Rw w _ ys ∧ Vg.nat32 ys = M ∧ ys.length ≤ 65536 from ⟨h2, hM, l2⟩)
  have hN0 : 0 < N := by
    rcases Nat.eq_zero_or_pos N with h | h
    · rw [h, Nat.zero_mul] at e
      have := Nat.mul_pos (Nat.mul_pos hk (Nat.two_pow_pos L)) hm
      omega
    · exact h
  obtain ⟨V, hV⟩ : ∃ V, k * 2 ^ L = V := ⟨_, rfl⟩
  have hV0 : 0 < V := hV ▸ Nat.mul_pos hk (Nat.two_pow_pos L)
  obtain ⟨l, hl0, hl1, hl2⟩ := Vg.blen_pos hV0
  obtain ⟨a, ea, ha1, ha2⟩ := Vg.blen_pos hN0
  obtain ⟨b, eb, hb1, hb2⟩ := Vg.blen_pos hm
  have ba : a < 2097152 := by
    have := Vg.pow_le_iff.1 (Nat.lt_of_le_of_lt ha1 (hN ▸ Vg.nat32_lt xs h1.1))
    omega
  have bb : b < 2097152 := by
    have := Vg.pow_le_iff.1 (Nat.lt_of_le_of_lt hb1 (hM ▸ Vg.nat32_lt ys h2.1))
    omega
  rw [hV] at e
  have pl := Vg.rnd_place e hl1 hl2 ha1 ha2 hb1 hb2
  have TS := hide (fun t => Vg.rnd_test (t := t) e hm hl1 hl2)
  have EX := hide (Vg.rnd_exact e hV.symm)
  have hl : 52 + L = l ∧ 4503599627370496 ≤ k ∨ L = 0 ∧ l < 52 := by
    rcases Nat.lt_or_ge k 4503599627370496 with h | h
    · refine .inr ⟨by omega, ?_⟩
      have hL0 : L = 0 := by omega
      rw [hL0, Nat.pow_zero, Nat.mul_one] at hV
      exact Vg.pow_le_iff.1 (Nat.lt_of_le_of_lt hl1 (by omega))
    · refine .inl ⟨?_, h⟩
      have k1 : 2 ^ (52 + L) ≤ V := by rw [← hV, Nat.pow_add]; exact Nat.mul_le_mul_right _ h
      have k2 : V < 2 ^ (53 + L) := by rw [← hV, Nat.pow_add]; exact Nat.mul_lt_mul_of_pos_right hk2 (Nat.two_pow_pos L)
      have := Vg.pow_le_iff.1 (Nat.lt_of_le_of_lt k1 hl2)
      have := Vg.pow_le_iff.1 (Nat.lt_of_le_of_lt hl1 k2)
      omega
  obtain ⟨la, hla⟩ : ∃ la, a + 1 = la := ⟨_, rfl⟩
  obtain ⟨lb, hlb⟩ : ∃ lb, b + 1 = lb := ⟨_, rfl⟩
  rw [ea, hla] at LN
  rw [eb, hlb] at LM
  obtain ⟨F0, hF0⟩ : ∃ F0, (la : Int) - lb = F0 := ⟨_, rfl⟩
  have wF0 : IntKind.i64.wrap ((la : Int) - lb) = F0 := by rw [IntWalk.i64_in _ (by omega), hF0]
  have HF := hide (show F0 = (a : Int) - b from by omega)
  obtain ⟨z, hz⟩ : ∃ z, sg s N = z := ⟨_, rfl⟩
  rw [hz] at RS
  have HZ : Hid ((z = 1 ∨ z = -1) ∧ decide (z < 0) = s) := hide (by
    rw [← hz]; unfold sg; rw [if_neg (by omega)]; cases s <;> simp)
  have tz : (z == 0) = false := by rw [beq_eq_false_iff_ne]; have := HZ.out.1; omega
  have HP := hide (show P = 1074 ∧ (l + b ≤ a + P ∧ a + P ≤ l + b + 1) ∧ (52 + L = l ∧ 4503599627370496 ≤ k ∨ L = 0 ∧ l < 52) ∧ L ≤ 2045 ∧ 0 < k ∧ k < 9007199254740992 ∧ 0 < M ∧ 0 < N ∧ a < 2097152 ∧ b < 2097152 from ⟨hP.symm, pl, hl, hL, hk, hk2, hm, hN0, ba, bb⟩)
  have HD := hide hd
  clear hP hm l1 l2 hk hk2 hkL hL e hN hM h1 h2 hN0 hV hV0 hl0 hl1 hl2 hla hlb hF0 ea ha1 ha2 eb hb1 hb2 ba bb pl hl hz hd
  go_enter Try.func124, Try.ntmps124
  go_wp2_with fail
  refine (RS _ b_one).mono ?_; rintro e w1 ⟨rfl, hb⟩
  have k0 : w1.cell? ⟨w.heap.size, 0, none⟩ = some (.bool s) := keep_cell hb (by simp) (by simp [go_sem])
  have k1 : w1.cell? ⟨w.heap.size, 1, none⟩ = some (.slice A1 n1 c1) := keep_cell hb (by simp) (by simp [go_sem])
  have k2 : w1.cell? ⟨w.heap.size, 2, none⟩ = some (.slice A2 n2 c2) := keep_cell hb (by simp) (by simp [go_sem])
  have z0 : w.heap.size < w1.heap.size := by have := hb.size; simp at this; omega
  have g := bch_one hb
  clear hb RS
  go_upto_region 4 with fail
  go_cut [10] (fun v wx => (∃ b, v = .bool b) ∧ wx.cell? ⟨w.heap.size, 0, none⟩ = some (.bool s) ∧ wx.cell? ⟨w.heap.size, 1, none⟩ = some (.slice A1 n1 c1) ∧ wx.cell? ⟨w.heap.size, 2, none⟩ = some (.slice A2 n2 c2) ∧ w.heap.size < wx.heap.size ∧ Below w.heap.size w wx)
  case first =>
    as_aux_lemma =>
    rcases HZ.out.1 with h | h <;> rcases HD.out with h' | h' | h'
    all_goals
      subst h h'
      go_wp2
      go_meet
      exact ⟨⟨_, rfl⟩, k0, k1, k2, z0, g⟩
  case rest =>
  as_aux_lemma =>
  clear k0 k1 k2 z0 g
  obtain ⟨⟨aw, rfl⟩, k0, k1, k2, z0, g⟩ := hcut
  go_upto_region 5 with fail
  go_cut [11] (fun v wx => (∃ b, v = .bool b) ∧ wx.cell? ⟨w.heap.size, 0, none⟩ = some (.bool s) ∧ wx.cell? ⟨w.heap.size, 1, none⟩ = some (.slice A1 n1 c1) ∧ wx.cell? ⟨w.heap.size, 2, none⟩ = some (.slice A2 n2 c2) ∧ w.heap.size < wx.heap.size ∧ Below w.heap.size w wx)
  case first =>
    as_aux_lemma =>
    rcases HD.out with h' | h' | h'
    all_goals
      subst h'
      go_wp2
      go_meet
      exact ⟨⟨_, rfl⟩, k0, k1, k2, z0, g⟩
  case rest =>
  as_aux_lemma =>
  clear k0 k1 k2 z0 g HD
  obtain ⟨⟨nr, rfl⟩, k0, k1, k2, z0, g⟩ := hcut
  go_wp2_with fail
  refine (LN _ g).mono ?_; rintro e w2 ⟨rfl, hb⟩
  have g := bch g hb
  clear hb LN k0 k1 k2 z0
  go_wp2_with fail
  refine (LM _ g).mono ?_; rintro e w3 ⟨rfl, hb⟩
  have g := bch g hb
  clear hb LM
  obtain ⟨T, hT⟩ : ∃ T, decide ((l : Int) < F0 + P) = T := ⟨_, rfl⟩
  have HT : Hid (T = true ↔ (l : Int) < F0 + P) := hide (by rw [← hT, decide_eq_true_eq])
  clear hT
  go_upto_region 9 with fail
  go_cut [76] (fun v wx => v = .bool T ∧ Below w.heap.size w wx)
  case first =>
    as_aux_lemma =>
    rcases Int.lt_or_le F0 0 with hf | hf
    · obtain ⟨t, ht⟩ : ∃ t : Nat, F0 = -(t : Int) := ⟨F0.natAbs, by omega⟩
      have e1 : decide ((0 : Int) ≤ F0) = false := decide_eq_false (by omega)
      have e2 : decide (F0 < 0) = true := decide_eq_true hf
      have e3 : IntKind.i64.wrap (-F0) = (t : Int) := by rw [IntWalk.i64_in _ (by have := HF.out; have := HP.out; omega)]; omega
      have FL := FN t (by have := HF.out; have := HP.out; omega)
      have CMt := (TS.out t).2
      have HTT : Hid (T = true ↔ N * 2 ^ t < M) := hide (by rw [HT.out, CMt]; have := HP.out.1; omega)
      have htb := hide (show t ≤ 2097152 from by have := HF.out; have := HP.out; omega)
      clear CMt hf ht
      go_wp2_with fail
      refine (FL _ g).mono ?_; rintro e w4 ⟨v4, zs, rfl, q1, q2, q3, q4, hb⟩
      have g := bch g hb
      have CC := cmp_any v4 _ zs ys w4 q1 (KM.out.1.keep g) (by have := KN.out.2.2; have := htb.out; omega) (by have := KM.out.2.2; omega)
      rw [q2, KM.out.2.1] at CC
      clear hb q1 q2 q3 q4 FL
      go_wp2_with fail
      refine CC.mono ?_; rintro e w5 ⟨rfl, hb⟩
      have g := bch g hb
      obtain ⟨cz, hcz⟩ : ∃ c, cmpz (N * 2 ^ t) M = c := ⟨_, rfl⟩
      have e4 : decide (cz < 0) = T := by
        rw [Bool.eq_iff_iff, decide_eq_true_eq, HTT.out, ← hcz]
        rcases Nat.lt_trichotomy (N * 2 ^ t) M with h | h | h
        · rw [cmpz_lt h]; exact ⟨fun _ => h, fun _ => by decide⟩
        · rw [cmpz_eq h]; exact ⟨fun h => absurd h (by decide), fun _ => by omega⟩
        · rw [cmpz_gt h]; exact ⟨fun h => absurd h (by decide), fun _ => by omega⟩
      rw [hcz]
      clear hb CC hcz HTT
      cases T
      · go_wp2
        go_meet
        exact ⟨rfl, g⟩
      · go_wp2
        go_meet
        exact ⟨rfl, g⟩
    · obtain ⟨t, ht⟩ : ∃ t : Nat, F0 = (t : Int) := ⟨F0.natAbs, by omega⟩
      subst ht
      have e1 : decide ((0 : Int) ≤ (t : Int)) = true := decide_eq_true hf
      have e2 : decide ((t : Int) < 0) = false := decide_eq_false (by omega)
      have FL := FM t (by have := HF.out; have := HP.out; omega)
      have CMt := (TS.out t).1
      have HTT : Hid (T = true ↔ N < M * 2 ^ t) := hide (by rw [HT.out, CMt]; omega)
      have htb := hide (show t ≤ 2097152 from by have := HF.out; have := HP.out; omega)
      clear CMt hf
      go_wp2_with fail
      refine (FL _ g).mono ?_; rintro e w4 ⟨v4, zs, rfl, q1, q2, q3, q4, hb⟩
      have g := bch g hb
      have CC := cmp_any _ v4 xs zs w4 (KN.out.1.keep g) q1 (by have := KN.out.2.2; omega) (by have := KM.out.2.2; have := htb.out; omega)
      rw [q2, KN.out.2.1] at CC
      clear hb q1 q2 q3 q4 FL
      go_wp2_with fail
      refine CC.mono ?_; rintro e w5 ⟨rfl, hb⟩
      have g := bch g hb
      obtain ⟨cz, hcz⟩ : ∃ c, cmpz N (M * 2 ^ t) = c := ⟨_, rfl⟩
      have e4 : decide (cz < 0) = T := by
        rw [Bool.eq_iff_iff, decide_eq_true_eq, HTT.out, ← hcz]
        rcases Nat.lt_trichotomy N (M * 2 ^ t) with h | h | h
        · rw [cmpz_lt h]; exact ⟨fun _ => h, fun _ => by decide⟩
        · rw [cmpz_eq h]; exact ⟨fun h => absurd h (by decide), fun _ => by omega⟩
        · rw [cmpz_gt h]; exact ⟨fun h => absurd h (by decide), fun _ => by omega⟩
      rw [hcz]
      clear hb CC hcz HTT
      cases T
      · go_wp2
        go_meet
        exact ⟨rfl, g⟩
      · go_wp2
        go_meet
        exact ⟨rfl, g⟩
  case rest =>
  as_aux_lemma =>
  clear g TS
  obtain ⟨rfl, g⟩ := hcut
  obtain ⟨F, hF⟩ : ∃ F, (l : Int) - P = F := ⟨_, rfl⟩
  have HFF : Hid (F = (l : Int) - P ∧ (T = true → F0 = F + 1) ∧ (T = false → F0 = F)) := hide (by
    have h1 := HP.out.2.1
    have h2 := HF.out
    refine ⟨hF.symm, fun h => ?_, fun h => ?_⟩
    · have := HT.out.1 h; omega
    · have := mt HT.out.2 (by rw [h]; decide); omega)
  have wF : IntKind.i64.wrap F = F := IntWalk.i64_in _ (by have := HP.out; omega)
  have hF1 : decide ((1023 : Int) < F) = false := decide_eq_false (by have := HP.out; omega)
  have w1 : IntKind.i64.wrap (F - 53) = F - 53 := IntWalk.i64_in _ (by have := HP.out; omega)
  have w2 : IntKind.i64.wrap (F - 53 + 1) = F - 53 + 1 := IntWalk.i64_in _ (by have := HP.out; omega)
  obtain ⟨X, hX⟩ : ∃ X, (L : Int) - P = X := ⟨_, rfl⟩
  have HX := hide hX
  clear hF hX HT
  go_upto_region 11 with fail
  · as_aux_lemma =>
    have e : wrap64 (F0 - 1) = F := by
      have h := HFF.out.2.1 (by assumption)
      have := HP.out
      have := HFF.out.1
      unfold wrap64; omega
    rw [e]
    clear e
    by_cases hA : l < 52
    · have hL0 : L = 0 := by have := HP.out.2.2.1; omega
      obtain ⟨Y, hY⟩ : ∃ Y, F - 53 + 1 = Y := ⟨_, rfl⟩
      have w3 : IntKind.i64.wrap (F - 53 + 1) = Y := by rw [w2, hY]
      clear w2
      have tA : decide (Y < -1074) = true := decide_eq_true (by have := HFF.out.1; have := HP.out.1; omega)
      have hX2 : (-1074 : Int) = X := by have := HX.out; have := HP.out.1; omega
      have hX0 : X < 0 := by omega
      have HA := hide (show (-1074 : Int) = X ∧ X < 0 from ⟨hX2, hX0⟩)
      clear hY hA hL0 wF hX2 hX0
      go_upto_region 18 with fail
      rw [HA.out.1]
      have hX0 := HA.out.2
      clear HA tA w1 w3
      as_aux_lemma =>
      obtain ⟨t, ht0⟩ : ∃ t, P - L = t := ⟨_, rfl⟩
      have tX : decide ((0 : Int) ≤ X) = false := decide_eq_false (by omega)
      have wX : IntKind.i64.wrap (-X) = (t : Int) := by rw [IntWalk.i64_in _ (by have := HX.out; have := HP.out; omega)]; have := HX.out; omega
      have ht := hide (show t ≤ 2048 from by have := HP.out.1; omega)
      have FL := FN t (by have := ht.out; omega)
      have EQ := hide (show N * 2 ^ t = k * M from by rw [← ht0]; exact EX.out.2 (by have := HX.out; omega))
      clear ht0 hX0
      go_wp2_with fail
      refine (FL _ g).mono ?_; rintro e w6 ⟨v6, zs, rfl, q1, q2, q3, q4, hb⟩
      have g := bch g hb
      obtain ⟨A6, c6, rfl⟩ := q1.len
      have ZR := hide (show Rw w6 _ zs ∧ Vg.nat32 zs = _ ∧ zs.length ≤ 2097152 from ⟨q1, q2, by have := KN.out.2.2; have := KM.out.2.2; have := ht.out; omega⟩)
      have HLEN := hide (show zs.length + 65536 + xs.length + ys.length ≤ 4194304 from by have := ZR.out.2.2; have := KN.out.2.2; have := KM.out.2.2; omega)
      clear q1 q2 q3 q4 hb FL
      have HMP := hide (show 0 < M from by have := HP.out; omega)
      have BY := by_any _ _ zs ys w6 ZR.out.1 (KM.out.1.keep g) (by have := HLEN.out; omega) (by rw [KM.out.2.1]; exact HMP.out)
      have QR : Vg.nat32 zs / Vg.nat32 ys = k ∧ Vg.nat32 zs % Vg.nat32 ys = 0 := by
        rw [ZR.out.2.1, KM.out.2.1, EQ.out]
        exact ⟨Nat.mul_div_cancel _ HMP.out, Nat.mul_mod_left _ _⟩
      have QR := hide QR
      have MR := hide (KM.out.1.keep g)
      have MD := hide (show 0 < Vg.nat32 ys ∧ ys.length ≤ 4194304 from ⟨by rw [KM.out.2.1]; exact HMP.out, by have := HLEN.out; omega⟩)
      go_wp2_with fail
      refine BY.mono ?_; rintro e w7 ⟨v7, v8, qs, rs, rfl, ⟨q1, q2, q3⟩, ⟨p1, p2, p3, p4⟩, hb⟩
      rw [QR.out.1] at q2
      rw [QR.out.2] at p2
      clear QR
      have g := bch g hb
      have MR := hide (MR.out.keep hb)
      obtain ⟨A8, c8, rfl⟩ := p1.len
      have hr0 : rs.length = 0 := (p3.zero_iff p1.1).2 p2
      have WD := word_any v7 qs w7 q1 (by have := HLEN.out; omega) (by rw [q2]; have := HP.out; omega)
      rw [q2] at WD
      have P1 := hide p1
      have P2 := hide (show Vg.nat32 rs = 0 ∧ rs.length = 0 from ⟨p2, hr0⟩)
      rw [hr0]
      clear q1 q2 q3 p1 p2 p3 p4 hb BY hr0
      go_wp2_with fail
      refine WD.mono ?_; rintro e w8 ⟨rfl, hb⟩
      have g := bch g hb
      have MR := hide (MR.out.keep hb)
      have L8 := left_any _ rs 1 w8 (P1.out.keep hb) (by have := P2.out.2; omega)
      rw [P2.out.1, P2.out.2, Nat.zero_mul] at L8
      clear hb WD P1
      go_wp2_with fail
      refine L8.mono ?_; rintro e w9 ⟨v9, zs9, rfl, q1, q2, q3, q4, hb⟩
      have g := bch g hb
      have CC := cmp_any v9 _ zs9 ys w9 q1 (MR.out.keep hb) (by omega) (by have := MD.out.2; omega)
      rw [q2] at CC
      clear hb L8 q1 q2 q3 q4 MR
      go_wp2_with fail
      refine CC.mono ?_; rintro e w10 ⟨rfl, hb⟩
      rw [cmpz_lt MD.out.1]
      have g := bch g hb
      have MK := fun (w : World) => made_any s k L X (by have := HX.out; have := HP.out.1; omega) (by have := HP.out; omega) (by have := HP.out; omega) (by have := HP.out.2.2.1; omega) w
      rw [HRR.out] at MK
      have tk : ((k : Int) == 9007199254740992) = false := by rw [beq_eq_false_iff_ne]; have := HP.out; omega
      have tzs := HZ.out.2
      clear hb CC MD HMP HLEN
      cases aw <;> cases nr
      all_goals
        go_wp2_with fail
        refine (MK _).mono ?_; rintro e w11 ⟨rfl, hb⟩
        have g := bch g hb
        clear hb MK
        go_wp2
        go_ret
        exact ⟨rfl, g⟩
    · have hL1 : 52 + L = l := by have := HP.out.2.2.1; omega
      have w3 : IntKind.i64.wrap (F - 53 + 1) = X := by rw [w2]; have := HFF.out.1; have := HX.out; omega
      clear w2
      have tA : decide (X < -1074) = false := decide_eq_false (by have := HX.out; have := HP.out.1; omega)
      clear hA hL1 wF
      go_upto_region 18 with fail
      clear tA w1 w3
      rcases Int.lt_or_le X 0 with hX0 | hX0
      · as_aux_lemma =>
        obtain ⟨t, ht0⟩ : ∃ t, P - L = t := ⟨_, rfl⟩
        have tX : decide ((0 : Int) ≤ X) = false := decide_eq_false (by omega)
        have wX : IntKind.i64.wrap (-X) = (t : Int) := by rw [IntWalk.i64_in _ (by have := HX.out; have := HP.out; omega)]; have := HX.out; omega
        have ht := hide (show t ≤ 2048 from by have := HP.out.1; omega)
        have FL := FN t (by have := ht.out; omega)
        have EQ := hide (show N * 2 ^ t = k * M from by rw [← ht0]; exact EX.out.2 (by have := HX.out; omega))
        clear ht0 hX0
        go_wp2_with fail
        refine (FL _ g).mono ?_; rintro e w6 ⟨v6, zs, rfl, q1, q2, q3, q4, hb⟩
        have g := bch g hb
        obtain ⟨A6, c6, rfl⟩ := q1.len
        have ZR := hide (show Rw w6 _ zs ∧ Vg.nat32 zs = _ ∧ zs.length ≤ 2097152 from ⟨q1, q2, by have := KN.out.2.2; have := KM.out.2.2; have := ht.out; omega⟩)
        have HLEN := hide (show zs.length + 65536 + xs.length + ys.length ≤ 4194304 from by have := ZR.out.2.2; have := KN.out.2.2; have := KM.out.2.2; omega)
        clear q1 q2 q3 q4 hb FL
        have HMP := hide (show 0 < M from by have := HP.out; omega)
        have BY := by_any _ _ zs ys w6 ZR.out.1 (KM.out.1.keep g) (by have := HLEN.out; omega) (by rw [KM.out.2.1]; exact HMP.out)
        have QR : Vg.nat32 zs / Vg.nat32 ys = k ∧ Vg.nat32 zs % Vg.nat32 ys = 0 := by
          rw [ZR.out.2.1, KM.out.2.1, EQ.out]
          exact ⟨Nat.mul_div_cancel _ HMP.out, Nat.mul_mod_left _ _⟩
        have QR := hide QR
        have MR := hide (KM.out.1.keep g)
        have MD := hide (show 0 < Vg.nat32 ys ∧ ys.length ≤ 4194304 from ⟨by rw [KM.out.2.1]; exact HMP.out, by have := HLEN.out; omega⟩)
        go_wp2_with fail
        refine BY.mono ?_; rintro e w7 ⟨v7, v8, qs, rs, rfl, ⟨q1, q2, q3⟩, ⟨p1, p2, p3, p4⟩, hb⟩
        rw [QR.out.1] at q2
        rw [QR.out.2] at p2
        clear QR
        have g := bch g hb
        have MR := hide (MR.out.keep hb)
        obtain ⟨A8, c8, rfl⟩ := p1.len
        have hr0 : rs.length = 0 := (p3.zero_iff p1.1).2 p2
        have WD := word_any v7 qs w7 q1 (by have := HLEN.out; omega) (by rw [q2]; have := HP.out; omega)
        rw [q2] at WD
        have P1 := hide p1
        have P2 := hide (show Vg.nat32 rs = 0 ∧ rs.length = 0 from ⟨p2, hr0⟩)
        rw [hr0]
        clear q1 q2 q3 p1 p2 p3 p4 hb BY hr0
        go_wp2_with fail
        refine WD.mono ?_; rintro e w8 ⟨rfl, hb⟩
        have g := bch g hb
        have MR := hide (MR.out.keep hb)
        have L8 := left_any _ rs 1 w8 (P1.out.keep hb) (by have := P2.out.2; omega)
        rw [P2.out.1, P2.out.2, Nat.zero_mul] at L8
        clear hb WD P1
        go_wp2_with fail
        refine L8.mono ?_; rintro e w9 ⟨v9, zs9, rfl, q1, q2, q3, q4, hb⟩
        have g := bch g hb
        have CC := cmp_any v9 _ zs9 ys w9 q1 (MR.out.keep hb) (by omega) (by have := MD.out.2; omega)
        rw [q2] at CC
        clear hb L8 q1 q2 q3 q4 MR
        go_wp2_with fail
        refine CC.mono ?_; rintro e w10 ⟨rfl, hb⟩
        rw [cmpz_lt MD.out.1]
        have g := bch g hb
        have MK := fun (w : World) => made_any s k L X (by have := HX.out; have := HP.out.1; omega) (by have := HP.out; omega) (by have := HP.out; omega) (by have := HP.out.2.2.1; omega) w
        rw [HRR.out] at MK
        have tk : ((k : Int) == 9007199254740992) = false := by rw [beq_eq_false_iff_ne]; have := HP.out; omega
        have tzs := HZ.out.2
        clear hb CC MD HMP HLEN
        cases aw <;> cases nr
        all_goals
          go_wp2_with fail
          refine (MK _).mono ?_; rintro e w11 ⟨rfl, hb⟩
          have g := bch g hb
          clear hb MK
          go_wp2
          go_ret
          exact ⟨rfl, g⟩
      · as_aux_lemma =>
        obtain ⟨t, ht0⟩ : ∃ t, L - P = t := ⟨_, rfl⟩
        have hXt : X = (t : Int) := by have := HX.out; omega
        have tX : decide ((0 : Int) ≤ X) = true := decide_eq_true hX0
        have ht := hide (show t ≤ 2048 from by have := HP.out; omega)
        have FL := FM t (by have := ht.out; omega)
        have EQ := hide (show N = k * (M * 2 ^ t) from by rw [← ht0]; exact EX.out.1 (by have := HX.out; omega))
        rw [← hXt] at FL
        clear ht0 hX0 hXt
        go_wp2_with fail
        refine (FL _ g).mono ?_; rintro e w6 ⟨v6, zs, rfl, q1, q2, q3, q4, hb⟩
        have g := bch g hb
        obtain ⟨A6, c6, rfl⟩ := q1.len
        have ZR := hide (show Rw w6 _ zs ∧ Vg.nat32 zs = _ ∧ zs.length ≤ 2097152 from ⟨q1, q2, by have := KN.out.2.2; have := KM.out.2.2; have := ht.out; omega⟩)
        have HLEN := hide (show zs.length + 65536 + xs.length + ys.length ≤ 4194304 from by have := ZR.out.2.2; have := KN.out.2.2; have := KM.out.2.2; omega)
        clear q1 q2 q3 q4 hb FL
        have HMP := hide (show 0 < M * 2 ^ t from Nat.mul_pos (by have := HP.out; omega) (Nat.two_pow_pos t))
        have BY := by_any _ _ xs zs w6 (KN.out.1.keep g) ZR.out.1 (by have := HLEN.out; omega) (by rw [ZR.out.2.1]; exact HMP.out)
        have QR : Vg.nat32 xs / Vg.nat32 zs = k ∧ Vg.nat32 xs % Vg.nat32 zs = 0 := by
          rw [KN.out.2.1, ZR.out.2.1, EQ.out]
          exact ⟨Nat.mul_div_cancel _ HMP.out, Nat.mul_mod_left _ _⟩
        have QR := hide QR
        have MR := hide ZR.out.1
        have MD := hide (show 0 < Vg.nat32 zs ∧ zs.length ≤ 4194304 from ⟨by rw [ZR.out.2.1]; exact HMP.out, by have := HLEN.out; omega⟩)
        go_wp2_with fail
        refine BY.mono ?_; rintro e w7 ⟨v7, v8, qs, rs, rfl, ⟨q1, q2, q3⟩, ⟨p1, p2, p3, p4⟩, hb⟩
        rw [QR.out.1] at q2
        rw [QR.out.2] at p2
        clear QR
        have g := bch g hb
        have MR := hide (MR.out.keep hb)
        obtain ⟨A8, c8, rfl⟩ := p1.len
        have hr0 : rs.length = 0 := (p3.zero_iff p1.1).2 p2
        have WD := word_any v7 qs w7 q1 (by have := HLEN.out; omega) (by rw [q2]; have := HP.out; omega)
        rw [q2] at WD
        have P1 := hide p1
        have P2 := hide (show Vg.nat32 rs = 0 ∧ rs.length = 0 from ⟨p2, hr0⟩)
        rw [hr0]
        clear q1 q2 q3 p1 p2 p3 p4 hb BY hr0
        go_wp2_with fail
        refine WD.mono ?_; rintro e w8 ⟨rfl, hb⟩
        have g := bch g hb
        have MR := hide (MR.out.keep hb)
        have L8 := left_any _ rs 1 w8 (P1.out.keep hb) (by have := P2.out.2; omega)
        rw [P2.out.1, P2.out.2, Nat.zero_mul] at L8
        clear hb WD P1
        go_wp2_with fail
        refine L8.mono ?_; rintro e w9 ⟨v9, zs9, rfl, q1, q2, q3, q4, hb⟩
        have g := bch g hb
        have CC := cmp_any v9 _ zs9 zs w9 q1 (MR.out.keep hb) (by omega) (by have := MD.out.2; omega)
        rw [q2] at CC
        clear hb L8 q1 q2 q3 q4 MR
        go_wp2_with fail
        refine CC.mono ?_; rintro e w10 ⟨rfl, hb⟩
        rw [cmpz_lt MD.out.1]
        have g := bch g hb
        have MK := fun (w : World) => made_any s k L X (by have := HX.out; have := HP.out.1; omega) (by have := HP.out; omega) (by have := HP.out; omega) (by have := HP.out.2.2.1; omega) w
        rw [HRR.out] at MK
        have tk : ((k : Int) == 9007199254740992) = false := by rw [beq_eq_false_iff_ne]; have := HP.out; omega
        have tzs := HZ.out.2
        clear hb CC MD HMP HLEN
        cases aw <;> cases nr
        all_goals
          go_wp2_with fail
          refine (MK _).mono ?_; rintro e w11 ⟨rfl, hb⟩
          have g := bch g hb
          clear hb MK
          go_wp2
          go_ret
          exact ⟨rfl, g⟩
  · as_aux_lemma =>
    have e : F0 = F := HFF.out.2.2 (by assumption)
    rw [e]
    clear e
    by_cases hA : l < 52
    · have hL0 : L = 0 := by have := HP.out.2.2.1; omega
      obtain ⟨Y, hY⟩ : ∃ Y, F - 53 + 1 = Y := ⟨_, rfl⟩
      have w3 : IntKind.i64.wrap (F - 53 + 1) = Y := by rw [w2, hY]
      clear w2
      have tA : decide (Y < -1074) = true := decide_eq_true (by have := HFF.out.1; have := HP.out.1; omega)
      have hX2 : (-1074 : Int) = X := by have := HX.out; have := HP.out.1; omega
      have hX0 : X < 0 := by omega
      have HA := hide (show (-1074 : Int) = X ∧ X < 0 from ⟨hX2, hX0⟩)
      clear hY hA hL0 wF hX2 hX0
      go_upto_region 18 with fail
      rw [HA.out.1]
      have hX0 := HA.out.2
      clear HA tA w1 w3
      as_aux_lemma =>
      obtain ⟨t, ht0⟩ : ∃ t, P - L = t := ⟨_, rfl⟩
      have tX : decide ((0 : Int) ≤ X) = false := decide_eq_false (by omega)
      have wX : IntKind.i64.wrap (-X) = (t : Int) := by rw [IntWalk.i64_in _ (by have := HX.out; have := HP.out; omega)]; have := HX.out; omega
      have ht := hide (show t ≤ 2048 from by have := HP.out.1; omega)
      have FL := FN t (by have := ht.out; omega)
      have EQ := hide (show N * 2 ^ t = k * M from by rw [← ht0]; exact EX.out.2 (by have := HX.out; omega))
      clear ht0 hX0
      go_wp2_with fail
      refine (FL _ g).mono ?_; rintro e w6 ⟨v6, zs, rfl, q1, q2, q3, q4, hb⟩
      have g := bch g hb
      obtain ⟨A6, c6, rfl⟩ := q1.len
      have ZR := hide (show Rw w6 _ zs ∧ Vg.nat32 zs = _ ∧ zs.length ≤ 2097152 from ⟨q1, q2, by have := KN.out.2.2; have := KM.out.2.2; have := ht.out; omega⟩)
      have HLEN := hide (show zs.length + 65536 + xs.length + ys.length ≤ 4194304 from by have := ZR.out.2.2; have := KN.out.2.2; have := KM.out.2.2; omega)
      clear q1 q2 q3 q4 hb FL
      have HMP := hide (show 0 < M from by have := HP.out; omega)
      have BY := by_any _ _ zs ys w6 ZR.out.1 (KM.out.1.keep g) (by have := HLEN.out; omega) (by rw [KM.out.2.1]; exact HMP.out)
      have QR : Vg.nat32 zs / Vg.nat32 ys = k ∧ Vg.nat32 zs % Vg.nat32 ys = 0 := by
        rw [ZR.out.2.1, KM.out.2.1, EQ.out]
        exact ⟨Nat.mul_div_cancel _ HMP.out, Nat.mul_mod_left _ _⟩
      have QR := hide QR
      have MR := hide (KM.out.1.keep g)
      have MD := hide (show 0 < Vg.nat32 ys ∧ ys.length ≤ 4194304 from ⟨by rw [KM.out.2.1]; exact HMP.out, by have := HLEN.out; omega⟩)
      go_wp2_with fail
      refine BY.mono ?_; rintro e w7 ⟨v7, v8, qs, rs, rfl, ⟨q1, q2, q3⟩, ⟨p1, p2, p3, p4⟩, hb⟩
      rw [QR.out.1] at q2
      rw [QR.out.2] at p2
      clear QR
      have g := bch g hb
      have MR := hide (MR.out.keep hb)
      obtain ⟨A8, c8, rfl⟩ := p1.len
      have hr0 : rs.length = 0 := (p3.zero_iff p1.1).2 p2
      have WD := word_any v7 qs w7 q1 (by have := HLEN.out; omega) (by rw [q2]; have := HP.out; omega)
      rw [q2] at WD
      have P1 := hide p1
      have P2 := hide (show Vg.nat32 rs = 0 ∧ rs.length = 0 from ⟨p2, hr0⟩)
      rw [hr0]
      clear q1 q2 q3 p1 p2 p3 p4 hb BY hr0
      go_wp2_with fail
      refine WD.mono ?_; rintro e w8 ⟨rfl, hb⟩
      have g := bch g hb
      have MR := hide (MR.out.keep hb)
      have L8 := left_any _ rs 1 w8 (P1.out.keep hb) (by have := P2.out.2; omega)
      rw [P2.out.1, P2.out.2, Nat.zero_mul] at L8
      clear hb WD P1
      go_wp2_with fail
      refine L8.mono ?_; rintro e w9 ⟨v9, zs9, rfl, q1, q2, q3, q4, hb⟩
      have g := bch g hb
      have CC := cmp_any v9 _ zs9 ys w9 q1 (MR.out.keep hb) (by omega) (by have := MD.out.2; omega)
      rw [q2] at CC
      clear hb L8 q1 q2 q3 q4 MR
      go_wp2_with fail
      refine CC.mono ?_; rintro e w10 ⟨rfl, hb⟩
      rw [cmpz_lt MD.out.1]
      have g := bch g hb
      have MK := fun (w : World) => made_any s k L X (by have := HX.out; have := HP.out.1; omega) (by have := HP.out; omega) (by have := HP.out; omega) (by have := HP.out.2.2.1; omega) w
      rw [HRR.out] at MK
      have tk : ((k : Int) == 9007199254740992) = false := by rw [beq_eq_false_iff_ne]; have := HP.out; omega
      have tzs := HZ.out.2
      clear hb CC MD HMP HLEN
      cases aw <;> cases nr
      all_goals
        go_wp2_with fail
        refine (MK _).mono ?_; rintro e w11 ⟨rfl, hb⟩
        have g := bch g hb
        clear hb MK
        go_wp2
        go_ret
        exact ⟨rfl, g⟩
    · have hL1 : 52 + L = l := by have := HP.out.2.2.1; omega
      have w3 : IntKind.i64.wrap (F - 53 + 1) = X := by rw [w2]; have := HFF.out.1; have := HX.out; omega
      clear w2
      have tA : decide (X < -1074) = false := decide_eq_false (by have := HX.out; have := HP.out.1; omega)
      clear hA hL1 wF
      go_upto_region 18 with fail
      clear tA w1 w3
      rcases Int.lt_or_le X 0 with hX0 | hX0
      · as_aux_lemma =>
        obtain ⟨t, ht0⟩ : ∃ t, P - L = t := ⟨_, rfl⟩
        have tX : decide ((0 : Int) ≤ X) = false := decide_eq_false (by omega)
        have wX : IntKind.i64.wrap (-X) = (t : Int) := by rw [IntWalk.i64_in _ (by have := HX.out; have := HP.out; omega)]; have := HX.out; omega
        have ht := hide (show t ≤ 2048 from by have := HP.out.1; omega)
        have FL := FN t (by have := ht.out; omega)
        have EQ := hide (show N * 2 ^ t = k * M from by rw [← ht0]; exact EX.out.2 (by have := HX.out; omega))
        clear ht0 hX0
        go_wp2_with fail
        refine (FL _ g).mono ?_; rintro e w6 ⟨v6, zs, rfl, q1, q2, q3, q4, hb⟩
        have g := bch g hb
        obtain ⟨A6, c6, rfl⟩ := q1.len
        have ZR := hide (show Rw w6 _ zs ∧ Vg.nat32 zs = _ ∧ zs.length ≤ 2097152 from ⟨q1, q2, by have := KN.out.2.2; have := KM.out.2.2; have := ht.out; omega⟩)
        have HLEN := hide (show zs.length + 65536 + xs.length + ys.length ≤ 4194304 from by have := ZR.out.2.2; have := KN.out.2.2; have := KM.out.2.2; omega)
        clear q1 q2 q3 q4 hb FL
        have HMP := hide (show 0 < M from by have := HP.out; omega)
        have BY := by_any _ _ zs ys w6 ZR.out.1 (KM.out.1.keep g) (by have := HLEN.out; omega) (by rw [KM.out.2.1]; exact HMP.out)
        have QR : Vg.nat32 zs / Vg.nat32 ys = k ∧ Vg.nat32 zs % Vg.nat32 ys = 0 := by
          rw [ZR.out.2.1, KM.out.2.1, EQ.out]
          exact ⟨Nat.mul_div_cancel _ HMP.out, Nat.mul_mod_left _ _⟩
        have QR := hide QR
        have MR := hide (KM.out.1.keep g)
        have MD := hide (show 0 < Vg.nat32 ys ∧ ys.length ≤ 4194304 from ⟨by rw [KM.out.2.1]; exact HMP.out, by have := HLEN.out; omega⟩)
        go_wp2_with fail
        refine BY.mono ?_; rintro e w7 ⟨v7, v8, qs, rs, rfl, ⟨q1, q2, q3⟩, ⟨p1, p2, p3, p4⟩, hb⟩
        rw [QR.out.1] at q2
        rw [QR.out.2] at p2
        clear QR
        have g := bch g hb
        have MR := hide (MR.out.keep hb)
        obtain ⟨A8, c8, rfl⟩ := p1.len
        have hr0 : rs.length = 0 := (p3.zero_iff p1.1).2 p2
        have WD := word_any v7 qs w7 q1 (by have := HLEN.out; omega) (by rw [q2]; have := HP.out; omega)
        rw [q2] at WD
        have P1 := hide p1
        have P2 := hide (show Vg.nat32 rs = 0 ∧ rs.length = 0 from ⟨p2, hr0⟩)
        rw [hr0]
        clear q1 q2 q3 p1 p2 p3 p4 hb BY hr0
        go_wp2_with fail
        refine WD.mono ?_; rintro e w8 ⟨rfl, hb⟩
        have g := bch g hb
        have MR := hide (MR.out.keep hb)
        have L8 := left_any _ rs 1 w8 (P1.out.keep hb) (by have := P2.out.2; omega)
        rw [P2.out.1, P2.out.2, Nat.zero_mul] at L8
        clear hb WD P1
        go_wp2_with fail
        refine L8.mono ?_; rintro e w9 ⟨v9, zs9, rfl, q1, q2, q3, q4, hb⟩
        have g := bch g hb
        have CC := cmp_any v9 _ zs9 ys w9 q1 (MR.out.keep hb) (by omega) (by have := MD.out.2; omega)
        rw [q2] at CC
        clear hb L8 q1 q2 q3 q4 MR
        go_wp2_with fail
        refine CC.mono ?_; rintro e w10 ⟨rfl, hb⟩
        rw [cmpz_lt MD.out.1]
        have g := bch g hb
        have MK := fun (w : World) => made_any s k L X (by have := HX.out; have := HP.out.1; omega) (by have := HP.out; omega) (by have := HP.out; omega) (by have := HP.out.2.2.1; omega) w
        rw [HRR.out] at MK
        have tk : ((k : Int) == 9007199254740992) = false := by rw [beq_eq_false_iff_ne]; have := HP.out; omega
        have tzs := HZ.out.2
        clear hb CC MD HMP HLEN
        cases aw <;> cases nr
        all_goals
          go_wp2_with fail
          refine (MK _).mono ?_; rintro e w11 ⟨rfl, hb⟩
          have g := bch g hb
          clear hb MK
          go_wp2
          go_ret
          exact ⟨rfl, g⟩
      · as_aux_lemma =>
        obtain ⟨t, ht0⟩ : ∃ t, L - P = t := ⟨_, rfl⟩
        have hXt : X = (t : Int) := by have := HX.out; omega
        have tX : decide ((0 : Int) ≤ X) = true := decide_eq_true hX0
        have ht := hide (show t ≤ 2048 from by have := HP.out; omega)
        have FL := FM t (by have := ht.out; omega)
        have EQ := hide (show N = k * (M * 2 ^ t) from by rw [← ht0]; exact EX.out.1 (by have := HX.out; omega))
        rw [← hXt] at FL
        clear ht0 hX0 hXt
        go_wp2_with fail
        refine (FL _ g).mono ?_; rintro e w6 ⟨v6, zs, rfl, q1, q2, q3, q4, hb⟩
        have g := bch g hb
        obtain ⟨A6, c6, rfl⟩ := q1.len
        have ZR := hide (show Rw w6 _ zs ∧ Vg.nat32 zs = _ ∧ zs.length ≤ 2097152 from ⟨q1, q2, by have := KN.out.2.2; have := KM.out.2.2; have := ht.out; omega⟩)
        have HLEN := hide (show zs.length + 65536 + xs.length + ys.length ≤ 4194304 from by have := ZR.out.2.2; have := KN.out.2.2; have := KM.out.2.2; omega)
        clear q1 q2 q3 q4 hb FL
        have HMP := hide (show 0 < M * 2 ^ t from Nat.mul_pos (by have := HP.out; omega) (Nat.two_pow_pos t))
        have BY := by_any _ _ xs zs w6 (KN.out.1.keep g) ZR.out.1 (by have := HLEN.out; omega) (by rw [ZR.out.2.1]; exact HMP.out)
        have QR : Vg.nat32 xs / Vg.nat32 zs = k ∧ Vg.nat32 xs % Vg.nat32 zs = 0 := by
          rw [KN.out.2.1, ZR.out.2.1, EQ.out]
          exact ⟨Nat.mul_div_cancel _ HMP.out, Nat.mul_mod_left _ _⟩
        have QR := hide QR
        have MR := hide ZR.out.1
        have MD := hide (show 0 < Vg.nat32 zs ∧ zs.length ≤ 4194304 from ⟨by rw [ZR.out.2.1]; exact HMP.out, by have := HLEN.out; omega⟩)
        go_wp2_with fail
        refine BY.mono ?_; rintro e w7 ⟨v7, v8, qs, rs, rfl, ⟨q1, q2, q3⟩, ⟨p1, p2, p3, p4⟩, hb⟩
        rw [QR.out.1] at q2
        rw [QR.out.2] at p2
        clear QR
        have g := bch g hb
        have MR := hide (MR.out.keep hb)
        obtain ⟨A8, c8, rfl⟩ := p1.len
        have hr0 : rs.length = 0 := (p3.zero_iff p1.1).2 p2
        have WD := word_any v7 qs w7 q1 (by have := HLEN.out; omega) (by rw [q2]; have := HP.out; omega)
        rw [q2] at WD
        have P1 := hide p1
        have P2 := hide (show Vg.nat32 rs = 0 ∧ rs.length = 0 from ⟨p2, hr0⟩)
        rw [hr0]
        clear q1 q2 q3 p1 p2 p3 p4 hb BY hr0
        go_wp2_with fail
        refine WD.mono ?_; rintro e w8 ⟨rfl, hb⟩
        have g := bch g hb
        have MR := hide (MR.out.keep hb)
        have L8 := left_any _ rs 1 w8 (P1.out.keep hb) (by have := P2.out.2; omega)
        rw [P2.out.1, P2.out.2, Nat.zero_mul] at L8
        clear hb WD P1
        go_wp2_with fail
        refine L8.mono ?_; rintro e w9 ⟨v9, zs9, rfl, q1, q2, q3, q4, hb⟩
        have g := bch g hb
        have CC := cmp_any v9 _ zs9 zs w9 q1 (MR.out.keep hb) (by omega) (by have := MD.out.2; omega)
        rw [q2] at CC
        clear hb L8 q1 q2 q3 q4 MR
        go_wp2_with fail
        refine CC.mono ?_; rintro e w10 ⟨rfl, hb⟩
        rw [cmpz_lt MD.out.1]
        have g := bch g hb
        have MK := fun (w : World) => made_any s k L X (by have := HX.out; have := HP.out.1; omega) (by have := HP.out; omega) (by have := HP.out; omega) (by have := HP.out.2.2.1; omega) w
        rw [HRR.out] at MK
        have tk : ((k : Int) == 9007199254740992) = false := by rw [beq_eq_false_iff_ne]; have := HP.out; omega
        have tzs := HZ.out.2
        clear hb CC MD HMP HLEN
        cases aw <;> cases nr
        all_goals
          go_wp2_with fail
          refine (MK _).mono ?_; rintro e w11 ⟨rfl, hb⟩
          have g := bch g hb
          clear hb MK
          go_wp2
          go_ret
          exact ⟨rfl, g⟩
end Go.Proofs.Ytljnadoodbninaa
