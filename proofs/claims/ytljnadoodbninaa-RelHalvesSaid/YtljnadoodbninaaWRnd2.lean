/- Contract of the reference's rounded, to the nearest, at a multiple of half of the least unit. -/
import Derived.Test.YtljnadoodbninaaWRnd
import Derived.Test.YtljnadoodbninaaMMid
import Derived.Deep.CutRange
namespace Vg
theorem rnd_sc1 {V n m P L t : Nat} (e : V * m = n * 2 ^ P) (h : P = t + (L + 1)) : n * 2 ^ t * 2 ^ (L + 1) = V * m := by
  rw [Nat.mul_assoc, ← Nat.pow_add, ← h, e]
theorem rnd_sc2 {V n m P L t : Nat} (e : V * m = n * 2 ^ P) (h : L + 1 = P + t) : n * 2 ^ (L + 1) = V * (m * 2 ^ t) := by
  rw [h, Nat.pow_add, ← Nat.mul_assoc, ← e, Nat.mul_assoc]
/-- A quotient and its half, otherwise scaled. -/
theorem rnd_quo {z m V D : Nat} (h : z * D = V * m) (hm : 0 < m) (hD : 0 < D) : z / m = V / D ∧ (m < z % m * 2 ↔ D < 2 * (V % D)) ∧ (z % m * 2 < m ↔ 2 * (V % D) < D) := by
  have e1 : z / m = V / D := by rw [← Nat.mul_div_mul_right z m hD, h, Nat.mul_comm m D, Nat.mul_div_mul_right V D hm]
  have e2 : z % m * D = V % D * m := by rw [← Nat.mul_mod_mul_right D z m, h, Nat.mul_comm m D, Nat.mul_mod_mul_right]
  have e3 : z % m * 2 * D = 2 * (V % D) * m := by rw [Nat.mul_right_comm, e2, Nat.mul_comm, Nat.mul_assoc]
  refine ⟨e1, ?_, ?_⟩
  · rw [← Nat.mul_lt_mul_right hD, e3, Nat.mul_comm m D, Nat.mul_lt_mul_right hm]
  · rw [← Nat.mul_lt_mul_right hD, e3, Nat.mul_comm m D, Nat.mul_lt_mul_right hm]
end Vg
namespace Go.Proofs.Ytljnadoodbninaa
open Go.RowKit
/-- What is added at the last bit. -/
theorem halve_inc {V d q : Nat} (hq : V / 2 ^ d = q) : (2 ^ d < 2 * (V % 2 ^ d) → Vg.halve V d = q + 1) ∧ (2 * (V % 2 ^ d) < 2 ^ d → Vg.halve V d = q) ∧ (2 * (V % 2 ^ d) = 2 ^ d → Vg.halve V d = q + q % 2) := by
  unfold Vg.halve
  rw [hq]
  refine ⟨fun h => ?_, fun h => ?_, fun h => ?_⟩
  · rw [if_pos (.inl h)]
  · rw [if_neg (by omega)]; rfl
  · by_cases c : q % 2 = 1
    · rw [if_pos (.inr ⟨h.symm, c⟩), c]
    · rw [if_neg (by omega)]; omega
set_option maxRecDepth 20000 in
set_option maxHeartbeats 8000000 in
theorem rounded_near (s : Bool) (A1 A2 : Option Addr) (n1 c1 n2 c2 : Nat) (xs ys : List Nat) (w : World) (h1 : Rw w (.slice A1 n1 c1) xs) (h2 : Rw w (.slice A2 n2 c2) ys) (hm : 0 < Vg.nat32 ys) (l1 : xs.length ≤ 65536) (l2 : ys.length ≤ 65536)
    (V : Nat) (hV0 : 0 < V) (hVl : V.log2 ≤ 2098) (e : V * Vg.nat32 ys = Vg.nat32 xs * (2 * Vg.LP)) (hR : Vg.UH V < 9218868437227405312) :
    Calls Try.prog 124 #[.int .i64 0, .agg #[.bool s, .slice A1 n1 c1, .slice A2 n2 c2], .int .i64 53, .int .i64 1023] w fun e w' => e = .returned (.int .u64 (mk s (Vg.UH V) : Nat)) ∧ Below w.heap.size w w' := by
  obtain ⟨RR, hRR⟩ : ∃ R, mk s (Vg.UH V) = R := ⟨_, rfl⟩
  rw [hRR]
  obtain ⟨P0, hP0⟩ : ∃ P, (1074 : Nat) = P := ⟨_, rfl⟩
  obtain ⟨P, hP1⟩ : ∃ P, P0 + 1 = P := ⟨_, rfl⟩
  have eP : 2 * Vg.LP = 2 ^ P := by unfold Vg.LP Vg.tp; rw [hP0, ← hP1, Nat.pow_succ, Nat.mul_comm]
  have hP : 1075 = P := by omega
  clear hP0 hP1
  rw [eP] at e
  clear eP
  obtain ⟨N, hN⟩ : ∃ n, Vg.nat32 xs = n := ⟨_, rfl⟩
  obtain ⟨M, hM⟩ : ∃ n, Vg.nat32 ys = n := ⟨_, rfl⟩
  have RS := fun (w' : World) (h : Below w.heap.size w w') => rsign_any s A1 A2 n1 c1 n2 c2 xs w' (h1.keep h) (by omega)
  have LN := fun (w' : World) (h : Below w.heap.size w w') => len_any _ xs w' (h1.keep h) (by omega)
  have LM := fun (w' : World) (h : Below w.heap.size w w') => len_any _ ys w' (h2.keep h) (by omega)
  have FN := fun (t : Nat) (ht : t ≤ 4096000) (w' : World) (h : Below w.heap.size w w') => left_any _ xs t w' (h1.keep h) (by omega)
  have FM := fun (t : Nat) (ht : t ≤ 4096000) (w' : World) (h : Below w.heap.size w w') => left_any _ ys t w' (h2.keep h) (by omega)
  rw [hN] at e RS LN FN
  rw [hM] at e hm LM FM
  have KN := hide (show Rw w _ xs ∧ Vg.nat32 xs = N ∧ xs.length ≤ 65536 from ⟨h1, hN, l1⟩)
  have KM := hide (show Rw w _ ys ∧ Vg.nat32 ys = M ∧ ys.length ≤ 65536 from ⟨h2, hM, l2⟩)
  have hN0 : 0 < N := by
    rcases Nat.eq_zero_or_pos N with h | h
    · rw [h, Nat.zero_mul] at e
      have := Nat.mul_pos hV0 hm
      omega
    · exact h
  obtain ⟨l, hl0⟩ : ∃ l, V.log2 = l := ⟨_, rfl⟩
  have hl1 : 2 ^ l ≤ V := by rw [← hl0]; exact Nat.log2_self_le (by omega)
  have hl2 : V < 2 ^ (l + 1) := by rw [← hl0]; exact Nat.lt_log2_self
  rw [hl0] at hVl
  obtain ⟨a, ea, ha1, ha2⟩ := Vg.blen_pos hN0
  obtain ⟨b, eb, hb1, hb2⟩ := Vg.blen_pos hm
  have ba : a < 2097152 := by
    have := Vg.pow_le_iff.1 (Nat.lt_of_le_of_lt ha1 (hN ▸ Vg.nat32_lt xs h1.1))
    omega
  have bb : b < 2097152 := by
    have := Vg.pow_le_iff.1 (Nat.lt_of_le_of_lt hb1 (hM ▸ Vg.nat32_lt ys h2.1))
    omega
  have pl := Vg.rnd_place e hl1 hl2 ha1 ha2 hb1 hb2
  have TS := hide (fun t => Vg.rnd_test (t := t) e hm hl1 hl2)
  have EE := hide e
  obtain ⟨L, hL⟩ : ∃ L, l - 53 = L := ⟨_, rfl⟩
  obtain ⟨G, hG⟩ : ∃ G, Vg.halve V (L + 1) = G := ⟨_, rfl⟩
  have hUH : Vg.UH V = L * 4503599627370496 + G := by unfold Vg.UH; rw [hl0, hL, hG]
  have hG2 : G ≤ 9007199254740992 := by
    rw [← hG]
    exact Vg.halve_le (Nat.lt_of_lt_of_le hl2 (by rw [show (9007199254740992 : Nat) = 2 ^ 53 from rfl, ← Nat.pow_add]; exact Nat.pow_le_pow_right (by decide) (by omega)))
  have hG1 : 4503599627370496 ≤ G ∨ L = 0 := by
    rcases Nat.lt_or_ge l 53 with h | h
    · right; omega
    · left
      rw [← hG]
      exact Vg.le_halve (Nat.le_trans (by rw [show (4503599627370496 : Nat) = 2 ^ 52 from rfl, ← Nat.pow_add]; exact Nat.pow_le_pow_right (by decide) (by omega)) hl1)
  obtain ⟨q, hq⟩ : ∃ q, V / 2 ^ (L + 1) = q := ⟨_, rfl⟩
  have hinc := hide (halve_inc hq)
  have hq2 : q ≤ G := by rw [← hG]; unfold Vg.halve; rw [hq]; omega
  rw [hUH] at hR hRR
  rw [hG] at hinc
  have MK := made_any s G L ((L : Int) - 1074) rfl hG2 (by omega) hG1
  rw [hRR] at MK
  have HG := hide (show G ≤ 9007199254740992 ∧ (G = 9007199254740992 → L ≤ 2044) ∧ q ≤ G ∧ L ≤ 2045 from ⟨hG2, by omega, hq2, by omega⟩)
  have HQ := hide hq
  clear hG hG1 hG2 hUH hR hRR hq hq2
  obtain ⟨la, hla⟩ : ∃ la, a + 1 = la := ⟨_, rfl⟩
  obtain ⟨lb, hlb⟩ : ∃ lb, b + 1 = lb := ⟨_, rfl⟩
  rw [ea, hla] at LN
  rw [eb, hlb] at LM
  obtain ⟨F0, hF0⟩ : ∃ F0, (la : Int) - lb = F0 := ⟨_, rfl⟩
  have wF0 : IntKind.i64.wrap ((la : Int) - lb) = F0 := by rw [IntWalk.i64_in _ (by omega), hF0]
  have HF := hide (show F0 = (a : Int) - b from by omega)
  obtain ⟨z, hz⟩ : ∃ z, sg s N = z := ⟨_, rfl⟩
  rw [hz] at RS
  have HZ : Hid ((z = 1 ∨ z = -1) ∧ decide (z < 0) = s) := hide (by
    rw [← hz]; unfold sg; rw [if_neg (by omega)]; cases s <;> simp)
  have tz : (z == 0) = false := by rw [beq_eq_false_iff_ne]; have := HZ.out.1; omega
  have HP := hide (show P = 1075 ∧ (l + b ≤ a + P ∧ a + P ≤ l + b + 1) ∧ L = l - 53 ∧ l ≤ 2098 ∧ 0 < M ∧ 0 < N ∧ a < 2097152 ∧ b < 2097152 from ⟨hP.symm, pl, hL.symm, hVl, hm, hN0, ba, bb⟩)
  clear hP hm l1 l2 hL e hN hM h1 h2 hN0 hV0 hVl hl0 hl1 hl2 hla hlb hF0 ea ha1 ha2 eb hb1 hb2 ba bb pl hz
  go_enter Try.func124, Try.ntmps124
  go_wp2_with fail
  refine (RS _ b_one).mono ?_; rintro e w1 ⟨rfl, hb⟩
  have k0 : w1.cell? ⟨w.heap.size, 0, none⟩ = some (.bool s) := keep_cell hb (by simp) (by simp [go_sem])
  have k1 : w1.cell? ⟨w.heap.size, 1, none⟩ = some (.slice A1 n1 c1) := keep_cell hb (by simp) (by simp [go_sem])
  have k2 : w1.cell? ⟨w.heap.size, 2, none⟩ = some (.slice A2 n2 c2) := keep_cell hb (by simp) (by simp [go_sem])
  have z0 : w.heap.size < w1.heap.size := by have := hb.size; simp at this; omega
  have g := bch_one hb
  clear hb RS
  go_wp2_with fail
  refine (LN _ g).mono ?_; rintro e w2 ⟨rfl, hb⟩
  replace g := bch g hb
  clear hb LN k0 k1 k2 z0
  go_wp2_with fail
  refine (LM _ g).mono ?_; rintro e w3 ⟨rfl, hb⟩
  replace g := bch g hb
  clear hb LM
  obtain ⟨T, hT⟩ : ∃ T, decide ((l : Int) < F0 + P) = T := ⟨_, rfl⟩
  have HT : Hid (T = true ↔ (l : Int) < F0 + P) := hide (by rw [← hT, decide_eq_true_eq])
  clear hT
  go_upto_region 9 with fail
  go_cut [76] from 54 to 76 (fun v wx => v = .bool T ∧ Below w.heap.size w wx)
  case first =>
    as_aux_lemma =>
    clear MK
    rcases Int.lt_or_le F0 0 with hf | hf
    · obtain ⟨t, ht⟩ : ∃ t : Nat, F0 = -(t : Int) := ⟨F0.natAbs, by omega⟩
      have e1 : decide ((0 : Int) ≤ F0) = false := decide_eq_false (by omega)
      have e2 : decide (F0 < 0) = true := decide_eq_true hf
      have e3 : IntKind.i64.wrap (-F0) = (t : Int) := by rw [IntWalk.i64_in _ (by have := HF.out; have := HP.out; omega)]; omega
      have FL := FN t (by have := HF.out; have := HP.out; omega)
      have CMt := (TS.out t).2
      have HTT : Hid (T = true ↔ N * 2 ^ t < M) := hide (by rw [HT.out, CMt]; have := HP.out.1; omega)
      have htb := hide (show t ≤ 2097152 from by have := HF.out; have := HP.out; omega)
      clear CMt hf ht
      go_wp2_with fail
      refine (FL _ g).mono ?_; rintro e w4 ⟨v4, zs, rfl, q1, q2, q3, q4, hb⟩
      replace g := bch g hb
      have CC := cmp_any v4 _ zs ys w4 q1 (KM.out.1.keep g) (by have := KN.out.2.2; have := htb.out; omega) (by have := KM.out.2.2; omega)
      rw [q2, KM.out.2.1] at CC
      clear hb q1 q2 q3 q4 FL
      go_wp2_with fail
      refine CC.mono ?_; rintro e w5 ⟨rfl, hb⟩
      replace g := bch g hb
      obtain ⟨cz, hcz⟩ : ∃ c, cmpz (N * 2 ^ t) M = c := ⟨_, rfl⟩
      have e4 : decide (cz < 0) = T := by
        rw [Bool.eq_iff_iff, decide_eq_true_eq, HTT.out, ← hcz]
        unfold cmpz; split
        · exact ⟨fun _ => by assumption, fun _ => by decide⟩
        · constructor
          · intro h; split at h <;> omega
          · intro h; omega
      rw [hcz]
      clear hb CC hcz HTT
      cases T
      · go_wp2
        go_meet
        exact ⟨rfl, g⟩
      · go_wp2
        go_meet
        exact ⟨rfl, g⟩
    · obtain ⟨t, ht⟩ : ∃ t : Nat, F0 = (t : Int) := ⟨F0.natAbs, by omega⟩
      subst ht
      have e1 : decide ((0 : Int) ≤ (t : Int)) = true := decide_eq_true hf
      have e2 : decide ((t : Int) < 0) = false := decide_eq_false (by omega)
      have FL := FM t (by have := HF.out; have := HP.out; omega)
      have CMt := (TS.out t).1
      have HTT : Hid (T = true ↔ N < M * 2 ^ t) := hide (by rw [HT.out, CMt]; omega)
      have htb := hide (show t ≤ 2097152 from by have := HF.out; have := HP.out; omega)
      clear CMt hf
      go_wp2_with fail
      refine (FL _ g).mono ?_; rintro e w4 ⟨v4, zs, rfl, q1, q2, q3, q4, hb⟩
      replace g := bch g hb
      have CC := cmp_any _ v4 xs zs w4 (KN.out.1.keep g) q1 (by have := KN.out.2.2; omega) (by have := KM.out.2.2; have := htb.out; omega)
      rw [q2, KN.out.2.1] at CC
      clear hb q1 q2 q3 q4 FL
      go_wp2_with fail
      refine CC.mono ?_; rintro e w5 ⟨rfl, hb⟩
      replace g := bch g hb
      obtain ⟨cz, hcz⟩ : ∃ c, cmpz N (M * 2 ^ t) = c := ⟨_, rfl⟩
      have e4 : decide (cz < 0) = T := by
        rw [Bool.eq_iff_iff, decide_eq_true_eq, HTT.out, ← hcz]
        unfold cmpz; split
        · exact ⟨fun _ => by assumption, fun _ => by decide⟩
        · constructor
          · intro h; split at h <;> omega
          · intro h; omega
      rw [hcz]
      clear hb CC hcz HTT
      cases T
      · go_wp2
        go_meet
        exact ⟨rfl, g⟩
      · go_wp2
        go_meet
        exact ⟨rfl, g⟩
  case rest =>
  as_aux_lemma =>
  clear g TS wF0 tz
  obtain ⟨rfl, g⟩ := hcut
  obtain ⟨F, hF⟩ : ∃ F, (l : Int) - P = F := ⟨_, rfl⟩
  have HFF : Hid (F = (l : Int) - P ∧ (T = true → F0 = F + 1) ∧ (T = false → F0 = F)) := hide (by
    have h1 := HP.out.2.1
    have h2 := HF.out
    refine ⟨hF.symm, fun h => ?_, fun h => ?_⟩
    · have := HT.out.1 h; omega
    · have := mt HT.out.2 (by rw [h]; decide); omega)
  clear hF HT
  go_upto_if 76 with fail
  go_cut [14] from 77 to 78 (fun v wx => v = .int .i64 F ∧ Below w.heap.size w wx)
  case first =>
    as_aux_lemma =>
    have wF : IntKind.i64.wrap F = F := IntWalk.i64_in _ (by have := HP.out; have := HFF.out; omega)
    have wF1 : IntKind.i64.wrap (F0 - 1) = F0 - 1 := IntWalk.i64_in _ (by have := HP.out; have := HF.out; omega)
    cases T
    · obtain rfl := HFF.out.2.2 rfl
      go_wp2
      go_meet
      exact ⟨rfl, g⟩
    · have e : F0 - 1 = F := by have := HFF.out.2.1 rfl; omega
      rw [e] at wF1
      go_wp2
      go_meet
      exact ⟨rfl, g⟩
  case rest =>
  as_aux_lemma =>
  clear g
  obtain ⟨rfl, g⟩ := hcut
  have hF1 : decide ((1023 : Int) < F) = false := decide_eq_false (by have := HP.out; have := HFF.out; omega)
  have wa : IntKind.i64.wrap (F - 53) = F - 53 := IntWalk.i64_in _ (by have := HP.out; have := HFF.out; omega)
  obtain ⟨Y, hY⟩ : ∃ Y, F - 53 + 1 = Y := ⟨_, rfl⟩
  have wb : IntKind.i64.wrap (F - 53 + 1) = Y := by rw [hY]; exact IntWalk.i64_in _ (by have := HP.out; have := HFF.out; omega)
  obtain ⟨X, hX⟩ : ∃ X, (L : Int) - 1074 = X := ⟨_, rfl⟩
  rw [hX] at MK
  have HX := hide (show X = (L : Int) - 1074 ∧ (Y < -1074 → X = -1074) ∧ (¬ Y < -1074 → X = Y) from ⟨hX.symm, by have := HP.out; have := HFF.out; omega, by have := HP.out; have := HFF.out; omega⟩)
  obtain ⟨T2, hT2⟩ : ∃ T, decide (Y < -1074) = T := ⟨_, rfl⟩
  have HT2 : Hid (T2 = true ↔ Y < -1074) := hide (by rw [← hT2, decide_eq_true_eq])
  clear hX hY
  go_upto_region 16 with fail
  go_cut [103] from 98 to 103 (fun v wx => v = .bool T2 ∧ Below w.heap.size w wx)
  case first =>
    as_aux_lemma =>
    clear MK FN FM
    go_wp2
    go_meet
    exact ⟨rfl, g⟩
  case rest =>
  as_aux_lemma =>
  clear g hT2 hF1 wa wb
  obtain ⟨rfl, g⟩ := hcut
  go_upto_if 103 with fail
  go_cut [15] from 104 to 107 (fun v wx => v = .int .i64 X ∧ Below w.heap.size w wx)
  case first =>
    as_aux_lemma =>
    clear MK FN FM
    cases T2
    · obtain rfl : X = Y := HX.out.2.2 (fun h => absurd (HT2.out.2 h) (by decide))
      go_wp2
      go_meet
      exact ⟨rfl, g⟩
    · obtain rfl : X = -1074 := HX.out.2.1 (HT2.out.1 rfl)
      go_wp2
      go_meet
      exact ⟨rfl, g⟩
  case rest =>
  as_aux_lemma =>
  clear g HT2
  obtain ⟨rfl, g⟩ := hcut
  obtain ⟨T3, hT3⟩ : ∃ T, decide ((0 : Int) ≤ X) = T := ⟨_, rfl⟩
  have HT3 : Hid (T3 = true ↔ 0 ≤ X) := hide (by rw [← hT3, decide_eq_true_eq])
  go_upto_region 18 with fail
  go_cut [109] from 108 to 109 (fun v wx => v = .bool T3 ∧ Below w.heap.size w wx)
  case first =>
    as_aux_lemma =>
    clear MK FN FM
    go_wp2
    go_meet
    exact ⟨rfl, g⟩
  case rest =>
  as_aux_lemma =>
  clear g hT3
  obtain ⟨rfl, g⟩ := hcut
  go_upto_if 109 with fail
  go_cut [12, 13] from 110 to 116 (fun v13 v12 wx => ∃ (A B : Option Addr) (zs ms : List Nat) (d d' : Nat), v13 = .slice A zs.length d ∧ v12 = .slice B ms.length d' ∧ Hid (Rw wx v13 zs ∧ Rw wx v12 ms ∧ Vg.nat32 zs * 2 ^ (L + 1) = V * Vg.nat32 ms ∧ 0 < Vg.nat32 ms ∧ zs.length ≤ 2097152 ∧ ms.length ≤ 2097152) ∧ Below w.heap.size w wx)
  case first =>
    as_aux_lemma =>
    clear MK
    have HMP := hide (show 0 < M from by have := HP.out; omega)
    cases T3
    · have hX0 : X < 0 := by have := mt HT3.out.2 (by decide); omega
      obtain ⟨t, ht0⟩ : ∃ t, 1074 - L = t := ⟨_, rfl⟩
      have wX : IntKind.i64.wrap (-X) = (t : Int) := by rw [IntWalk.i64_in _ (by have := HX.out; have := HG.out; omega)]; have := HX.out; omega
      have ht := hide (show t ≤ 2048 from by omega)
      have FL := FN t (by have := ht.out; omega)
      have EQ := hide (Vg.rnd_sc1 (t := t) (L := L) EE.out (by have := HP.out.1; have := HX.out.1; omega))
      clear ht0 hX0 HT3 FM
      go_wp2_with fail
      refine (FL _ g).mono ?_; rintro e w6 ⟨v6, zs, rfl, q1, q2, q3, q4, hb⟩
      replace g := bch g hb
      obtain ⟨A6, c6, rfl⟩ := q1.len
      have ZR := hide (show Rw w6 _ zs ∧ Rw w6 _ ys ∧ Vg.nat32 zs * 2 ^ (L + 1) = V * Vg.nat32 ys ∧ 0 < Vg.nat32 ys ∧ zs.length ≤ 2097152 ∧ ys.length ≤ 2097152 from ⟨q1, KM.out.1.keep g, by rw [q2, KM.out.2.1]; exact EQ.out, by rw [KM.out.2.1]; exact HMP.out, by have := KN.out.2.2; have := ht.out; omega, by have := KM.out.2.2; omega⟩)
      clear q1 q2 q3 q4 hb FL EQ
      go_wp2
      go_meet
      exact ⟨_, _, zs, ys, _, _, rfl, by obtain ⟨A, c, h⟩ := KM.out.1.len; injection h with h1 h2; rw [h2], ZR, g⟩
    · have hX0 : 0 ≤ X := HT3.out.1 rfl
      obtain ⟨t, ht0⟩ : ∃ t, L - 1074 = t := ⟨_, rfl⟩
      have hXt : X = (t : Int) := by have := HX.out; omega
      have ht := hide (show t ≤ 2048 from by have := HG.out; omega)
      have FL := FM t (by have := ht.out; omega)
      have EQ := hide (Vg.rnd_sc2 (t := t) (L := L) EE.out (by have := HP.out.1; have := HX.out.1; omega))
      rw [← hXt] at FL
      have HMP2 := hide (show 0 < M * 2 ^ t from Nat.mul_pos HMP.out (Nat.two_pow_pos t))
      clear ht0 hX0 HT3 FN hXt
      go_wp2_with fail
      refine (FL _ g).mono ?_; rintro e w6 ⟨v6, ms, rfl, q1, q2, q3, q4, hb⟩
      replace g := bch g hb
      obtain ⟨A6, c6, rfl⟩ := q1.len
      have ZR := hide (show Rw w6 _ xs ∧ Rw w6 _ ms ∧ Vg.nat32 xs * 2 ^ (L + 1) = V * Vg.nat32 ms ∧ 0 < Vg.nat32 ms ∧ xs.length ≤ 2097152 ∧ ms.length ≤ 2097152 from ⟨KN.out.1.keep g, q1, by rw [q2, KN.out.2.1]; exact EQ.out, by rw [q2]; exact HMP2.out, by have := KN.out.2.2; omega, by have := KM.out.2.2; have := ht.out; omega⟩)
      clear q1 q2 q3 q4 hb FL EQ
      go_wp2
      go_meet
      exact ⟨_, _, xs, ms, _, _, by obtain ⟨A, c, h⟩ := KN.out.1.len; injection h with h1 h2; rw [h2], rfl, ZR, g⟩
  case rest =>
  as_aux_lemma =>
  clear g FN FM HT3 EE KN KM
  obtain ⟨A, B, zs, ms, d, d', rfl, rfl, ZR, g⟩ := hcut
  have QR := Vg.rnd_quo ZR.out.2.2.1 ZR.out.2.2.2.1 (Nat.two_pow_pos (L + 1))
  have BY := by_any _ _ zs ms wc ZR.out.1 ZR.out.2.1 (by have := ZR.out.2.2.2.2; omega) ZR.out.2.2.2.1
  rw [HQ.out] at QR
  have HQ1 := hide QR.1
  have HQR := hide QR.2
  clear QR
  go_wp2_with fail
  refine BY.mono ?_; rintro e w7 ⟨v7, v8, qs, rs, rfl, ⟨q1, q2, q3⟩, ⟨p1, p2, p3, p4⟩, hb⟩
  rw [HQ1.out] at q2
  replace g := bch g hb
  have MR := hide (ZR.out.2.1.keep hb)
  obtain ⟨A8, c8, rfl⟩ := p1.len
  have WD := word_any v7 qs w7 q1 (by have := ZR.out.2.2.2.2; omega) (by rw [q2]; have := HG.out; omega)
  rw [q2] at WD
  have P1 := hide (show Rw w7 _ rs ∧ Vg.nat32 rs = _ ∧ rs.length ≤ 8388608 from ⟨p1, p2, by have := ZR.out.2.2.2.2; omega⟩)
  clear q1 q2 q3 p1 p2 p3 p4 hb BY
  go_wp2_with fail
  refine WD.mono ?_; rintro e w8 ⟨rfl, hb⟩
  replace g := bch g hb
  replace MR := hide (MR.out.keep hb)
  have L8 := left_any _ rs 1 w8 (P1.out.1.keep hb) (by have := P1.out.2.2; omega)
  rw [P1.out.2.1] at L8
  clear hb WD
  go_wp2_with fail
  refine L8.mono ?_; rintro e w9 ⟨v9, zs9, rfl, q1, q2, q3, q4, hb⟩
  replace g := bch g hb
  have CC := cmp_any v9 _ zs9 ms w9 q1 (MR.out.keep hb) (by have := P1.out.2.2; omega) (by have := ZR.out.2.2.2.2; omega)
  rw [q2, Nat.pow_one] at CC
  clear hb L8 q1 q2 q3 q4 MR P1
  go_wp2_with fail
  refine CC.mono ?_; rintro e w10 ⟨rfl, hb⟩
  replace g := bch g hb
  obtain ⟨cz, hcz⟩ : ∃ c, cmpz (Vg.nat32 zs % Vg.nat32 ms * 2) (Vg.nat32 ms) = c := ⟨_, rfl⟩
  have HCZ : Hid (cz = 1 ∧ G = q + 1 ∨ cz = -1 ∧ G = q ∨ cz = 0 ∧ (q % 2 = 0 ∧ G = q ∨ q % 2 = 1 ∧ G = q + 1)) := hide (by
    obtain ⟨j1, j2⟩ := HQR.out
    obtain ⟨i1, i2, i3⟩ := hinc.out
    rw [← hcz]
    unfold cmpz
    by_cases c1 : Vg.nat32 zs % Vg.nat32 ms * 2 < Vg.nat32 ms
    · rw [if_pos c1]; exact .inr (.inl ⟨rfl, i2 (j2.1 c1)⟩)
    · rw [if_neg c1]
      by_cases c2 : Vg.nat32 ms < Vg.nat32 zs % Vg.nat32 ms * 2
      · rw [if_pos c2]; exact .inl ⟨rfl, i1 (j1.1 c2)⟩
      · rw [if_neg c2]
        have e1 := mt j2.2 c1
        have e2 := mt j1.2 c2
        have := i3 (by omega)
        exact .inr (.inr ⟨rfl, by omega⟩))
  rw [hcz]
  clear hb CC HQR hinc ZR hcz
  obtain ⟨q', hq'⟩ : ∃ q', q + 1 = q' := ⟨_, rfl⟩
  have uq : IntKind.u64.wrap ((q : Int) + 1) = (q' : Int) := by rw [IntKind.wrap_u64]; have := HG.out; omega
  obtain ⟨pq, hpq⟩ : ∃ r, q % 2 = r := ⟨_, rfl⟩
  have tq : (q : Int).tmod 2 = (pq : Int) := by rw [Int.tmod_eq_emod_of_nonneg (by omega)]; omega
  have uq2 : IntKind.u64.wrap (pq : Int) = (pq : Int) := by rw [IntKind.wrap_u64]; omega
  rw [hpq, hq'] at HCZ
  clear hpq hq'
  go_upto_region 24 with fail
  go_cut [153] from 132 to 153 (fun v wx => ∃ b : Bool, v = .bool b ∧ Hid ((b = true → G = q') ∧ (b = false → G = q)) ∧ Below w.heap.size w wx)
  case first =>
    as_aux_lemma =>
    clear MK
    rcases HCZ.out with ⟨rfl, h2⟩ | ⟨rfl, h2⟩ | ⟨rfl, ⟨rfl, h2⟩ | ⟨rfl, h2⟩⟩
    all_goals
      clear HCZ
      go_wp2
      go_meet
    · exact ⟨true, rfl, hide ⟨fun _ => h2, fun h => absurd h (by decide)⟩, g⟩
    · exact ⟨false, rfl, hide ⟨fun h => absurd h (by decide), fun _ => h2⟩, g⟩
    · exact ⟨false, rfl, hide ⟨fun h => absurd h (by decide), fun _ => h2⟩, g⟩
    · exact ⟨true, rfl, hide ⟨fun _ => h2, fun h => absurd h (by decide)⟩, g⟩
  case rest =>
  as_aux_lemma =>
  clear g HCZ tq uq2
  obtain ⟨bi, rfl, HBI, g⟩ := hcut
  go_upto_if 153 with fail
  go_cut [18] from 154 to 155 (fun v wx => v = .int .u64 G ∧ Below w.heap.size w wx)
  case first =>
    as_aux_lemma =>
    clear MK
    cases bi
    · have EG := hide (HBI.out.2 rfl)
      clear HBI
      go_wp2
      go_meet
      exact ⟨by rw [EG.out], g⟩
    · have EG := hide (HBI.out.1 rfl)
      clear HBI
      go_wp2
      go_meet
      exact ⟨by rw [EG.out], g⟩
  case rest =>
  as_aux_lemma =>
  clear g HBI uq
  obtain ⟨rfl, g⟩ := hcut
  have tzs := HZ.out.2
  have wx : IntKind.i64.wrap (X + 53) = X + 53 := IntWalk.i64_in _ (by have := HX.out; have := HG.out; omega)
  by_cases c : G = 9007199254740992
  · have tk : ((G : Int) == 9007199254740992) = true := by rw [beq_iff_eq]; omega
    have tx : decide ((1023 : Int) < X + 53) = false := decide_eq_false (by have := HX.out; have := HG.out; omega)
    clear c
    go_wp2_with fail
    refine (MK _).mono ?_; rintro e w11 ⟨rfl, hb⟩
    replace g := bch g hb
    clear hb MK
    go_wp2
    go_ret
    exact ⟨rfl, g⟩
  · have tk : ((G : Int) == 9007199254740992) = false := by rw [beq_eq_false_iff_ne]; omega
    clear c
    go_wp2_with fail
    refine (MK _).mono ?_; rintro e w11 ⟨rfl, hb⟩
    replace g := bch g hb
    clear hb MK
    go_wp2
    go_ret
    exact ⟨rfl, g⟩
end Go.Proofs.Ytljnadoodbninaa
