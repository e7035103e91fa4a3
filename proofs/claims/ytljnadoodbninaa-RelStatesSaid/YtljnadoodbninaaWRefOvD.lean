/- The reference's Overlap, where r ≤ q ∧ p ≤ s ∧ p = r. -/
import Derived.Test.YtljnadoodbninaaWRefOv
namespace Go.Proofs.Ytljnadoodbninaa
open Go.RowKit
set_option maxRecDepth 20000 in
set_option maxHeartbeats 16000000 in
theorem rov_D (a b c d : Nat) (p q r s : Int) (hx : Vg.Rd a b p q) (hy : Vg.Rd c d r s) (h1 : p ≤ q) (h2 : r ≤ s) (hG : r ≤ q ∧ p ≤ s ∧ p = r) (w : World) :
    Calls Try.prog 57 #[.agg #[.int .u64 a, .int .u64 b], .agg #[.int .u64 c, .int .u64 d]] w (TO (IsOv p q r s) w) := by
  have HX := hide hx
  have HY := hide hy
  have H12 := hide (show p ≤ q ∧ r ≤ s from ⟨h1, h2⟩)
  have HG : Hid (r ≤ q ∧ p ≤ s ∧ p = r) := hide hG
  clear hx hy h1 h2 hG
  go_enter Try.func57, Try.ntmps57
  go_upto_region 1 with fail
  go_cut [5, 6] (fun v5 v6 wx => Below w.heap.size w wx ∧ ∃ (B0 B1 : Nat) (P Q R S n : Int) (N M : Bool), v5 = .pointer (some ⟨B0, 0, none⟩) ∧ v6 = .pointer (some ⟨B1, 0, none⟩) ∧
    wx.cell? ⟨B0, 0, none⟩ = some (.bool N) ∧ wx.cell? ⟨B0, 1, none⟩ = some (.int .i64 P) ∧ wx.cell? ⟨B0, 2, none⟩ = some (.int .i64 Q) ∧ B0 < wx.heap.size ∧
    wx.cell? ⟨B1, 0, none⟩ = some (.bool M) ∧ wx.cell? ⟨B1, 1, none⟩ = some (.int .i64 R) ∧ wx.cell? ⟨B1, 2, none⟩ = some (.int .i64 S) ∧ B1 < wx.heap.size ∧
    Hid (Vg.Rws p q r s P Q R S n) ∧ Fact N (q < p) ∧ Fact M (s < r))
  case first =>
    go_wp2_with fail
    refine (rows_any a b c d p q r s HX.out HY.out _).mono ?_; rintro e w2 ⟨P, Q, R, S, n, N, M, rfl, hr, gN, gM, hb⟩
    have HR := hide hr
    have g := b_two.trans (hb.mono (by simp; omega))
    clear hb hr
    go_wp2_with fail
    go_meet
    refine ⟨(g.alloc g.size _).alloc (by have := g.size; simp; omega) _, _, _, P, Q, R, S, n, N, M, rfl, rfl, ?_, ?_, ?_, ?_, ?_, ?_, ?_, ?_, HR, gN, gM⟩
    all_goals (simp [go_sem]; try omega)
  case rest =>
  obtain ⟨g, B0, B1, P, Q, R, S, n, N, M, rfl, rfl, k00, k01, k02, z0, k10, k11, k12, z1, HR, gN, gM⟩ := hcut
  have hov := ov_rws HR.out
  have iv := Ivn.of HR.out HX.out.iv HY.out.iv
  have eN : N = true ↔ Q < P := Iff.trans gN HR.out.2.1.2
  have eM : M = true ↔ S < R := Iff.trans gM HR.out.2.2.2.2.2.2.1.2
  cases N
  · cases M
    · have h1 : P ≤ Q := Int.not_lt.1 fun h => by have := eN.2 h; cases this
      have h2 : R ≤ S := Int.not_lt.1 fun h => by have := eM.2 h; cases this
      have hG' : R ≤ Q ∧ P ≤ S ∧ P = R := by
        obtain ⟨-, pq, pr, ps, qr, qs, rs, -⟩ := HR.out
        have hG := HG.out
        clear hov iv eN eM gN gM
        omega
      have HO := hide hov
      clear hov iv eN eM gN gM HG
      clear H12
      have HG2 := hide hG'
      clear hG'
      go_upto_region 12 with fail
      go_cut [12] (fun v wx => Below w.heap.size w wx ∧ ∃ D : Nat, v = .slice (some ⟨D, 0, none⟩) 12 12 ∧ Hid (∀ i, i < 12 → wx.cell? ⟨D, i, none⟩ = some (.bool (ovT P Q R S i))))
      case first =>
        have hG' := HG2.out
        rcases Int.lt_trichotomy Q R with c0 | c0 | c0 <;> rcases Int.lt_trichotomy S P with c1 | c1 | c1 <;> rcases Int.lt_trichotomy P R with c2 | c2 | c2 <;> rcases Int.lt_trichotomy Q S with c3 | c3 | c3 <;> rcases Int.lt_trichotomy P Q with c4 | c4 | c4 <;> rcases Int.lt_trichotomy R S with c5 | c5 | c5 <;> first | (exfalso; omega) | skip
        all_goals
          have C := hide (show _ ∧ _ ∧ _ ∧ _ ∧ _ ∧ _ from ⟨c0, c1, c2, c3, c4, c5⟩)
          first | have t0 : decide (Q < R) = true := decide_eq_true (by omega) | have t0 : decide (Q < R) = false := decide_eq_false (by omega)
          first | have t1 : decide (P < Q) = true := decide_eq_true (by omega) | have t1 : decide (P < Q) = false := decide_eq_false (by omega)
          first | have t2 : (Q == R) = true := beq_iff_eq.2 (by omega) | have t2 : (Q == R) = false := beq_eq_false_iff_ne.2 (by omega)
          first | have t3 : decide (R < S) = true := decide_eq_true (by omega) | have t3 : decide (R < S) = false := decide_eq_false (by omega)
          first | have t4 : decide (P < R) = true := decide_eq_true (by omega) | have t4 : decide (P < R) = false := decide_eq_false (by omega)
          first | have t5 : decide (R < Q) = true := decide_eq_true (by omega) | have t5 : decide (R < Q) = false := decide_eq_false (by omega)
          first | have t6 : decide (Q < S) = true := decide_eq_true (by omega) | have t6 : decide (Q < S) = false := decide_eq_false (by omega)
          first | have t7 : (P == R) = true := beq_iff_eq.2 (by omega) | have t7 : (P == R) = false := beq_eq_false_iff_ne.2 (by omega)
          first | have t8 : decide (R < P) = true := decide_eq_true (by omega) | have t8 : decide (R < P) = false := decide_eq_false (by omega)
          first | have t9 : (Q == S) = true := beq_iff_eq.2 (by omega) | have t9 : (Q == S) = false := beq_eq_false_iff_ne.2 (by omega)
          first | have t10 : decide (S < Q) = true := decide_eq_true (by omega) | have t10 : decide (S < Q) = false := decide_eq_false (by omega)
          first | have t11 : decide (P < S) = true := decide_eq_true (by omega) | have t11 : decide (P < S) = false := decide_eq_false (by omega)
          first | have t12 : (S == P) = true := beq_iff_eq.2 (by omega) | have t12 : (S == P) = false := beq_eq_false_iff_ne.2 (by omega)
          clear c0 c1 c2 c3 c4 c5 h1 h2 hG' k00 k01 k02 k10 k11 k12 z0 z1
          go_wp2_with fail
          clear t0 t1 t2 t3 t4 t5 t6 t7 t8 t9 t10 t11 t12
          go_meet
          refine ⟨g.alloc g.size _, _, rfl, hide fun i hi => ?_⟩
          have C := C.out
          obtain rfl | rfl | rfl | rfl | rfl | rfl | rfl | rfl | rfl | rfl | rfl | rfl : i = 0 ∨ i = 1 ∨ i = 2 ∨ i = 3 ∨ i = 4 ∨ i = 5 ∨ i = 6 ∨ i = 7 ∨ i = 8 ∨ i = 9 ∨ i = 10 ∨ i = 11 := by omega
          all_goals (simp [go_sem, ovT]; try omega)
      case rest =>
      have H12 := hide (show P ≤ Q ∧ R ≤ S from ⟨h1, h2⟩)
      clear g k00 k01 k02 z0 k10 k11 k12 z1 h1 h2
      obtain ⟨g, D, rfl, HC⟩ := hcut
      go_wp2_with fail
      go_loopg [13] 12 (fun k v wr => ∃ i : Nat, v = .int .i64 i ∧ Hid (i + k = 12 ∧ ∀ j, j < i → ovT P Q R S j = false) ∧ wr = wc)
      case atStart => exact ⟨0, rfl, hide ⟨rfl, fun j h => (by omega)⟩, rfl⟩
      case round =>
        obtain ⟨i, rfl, HI, rfl⟩ := hrel
        by_cases c1 : (i : Int) < 12
        · have hi : i < 12 := by omega
          have hc := HC.out i hi
          obtain ⟨b, hb⟩ : ∃ b, ovT P Q R S i = b := ⟨_, rfl⟩
          rw [hb] at hc
          cases b
          · have F := hide hb
            clear hb
            go_wp2
            go_roundg (11 - i)
            case measure => have := HI.out; omega
            case rel => exact ⟨i + 1, by simp, hide ⟨by have := HI.out; omega, fun j hj => by by_cases e : j = i; (subst e; exact F.out); exact HI.out.2 j (by omega)⟩, rfl⟩
          · have F := hide (ovT_hit H12.out.1 H12.out.2 hi HI.out.2 hb)
            clear hb
            go_wp2
            go_ret
            exact ⟨_, rfl, (HO.out.trans F.out).symm, g⟩
        · have F := hide (ovT_miss H12.out.1 H12.out.2 fun j hj => HI.out.2 j (by have := HI.out.1; omega))
          go_wp2
          go_ret
          exact ⟨_, rfl, (HO.out.trans F.out).symm, g⟩
    · exact absurd (gM.1 rfl) (by have := H12.out; omega)
  · exact absurd (gN.1 rfl) (by have := H12.out; omega)
end Go.Proofs.Ytljnadoodbninaa
