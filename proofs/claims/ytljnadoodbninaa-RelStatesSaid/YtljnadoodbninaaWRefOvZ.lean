/- The contract of the reference's Overlap. -/
import Derived.Test.YtljnadoodbninaaWRefOvA
import Derived.Test.YtljnadoodbninaaWRefOvB
import Derived.Test.YtljnadoodbninaaWRefOvC
import Derived.Test.YtljnadoodbninaaWRefOvD
import Derived.Test.YtljnadoodbninaaWRefOvE
namespace Go.Proofs.Ytljnadoodbninaa
open Go.RowKit
set_option maxRecDepth 20000 in
set_option maxHeartbeats 16000000 in
theorem rov_N (a b c d : Nat) (p q r s : Int) (hx : Vg.Rd a b p q) (hy : Vg.Rd c d r s) (hG : q < p ∨ s < r) (w : World) :
    Calls Try.prog 57 #[.agg #[.int .u64 a, .int .u64 b], .agg #[.int .u64 c, .int .u64 d]] w (TO (IsOv p q r s) w) := by
  have HX := hide hx
  have HY := hide hy
  have HG := hide hG
  clear hx hy hG
  go_enter Try.func57, Try.ntmps57
  go_upto_region 1 with fail
  go_cut [5, 6] (fun v5 v6 wx => Below w.heap.size w wx ∧ ∃ (B0 B1 : Nat) (P Q R S n : Int) (N M : Bool), v5 = .pointer (some ⟨B0, 0, none⟩) ∧ v6 = .pointer (some ⟨B1, 0, none⟩) ∧
    wx.cell? ⟨B0, 0, none⟩ = some (.bool N) ∧ wx.cell? ⟨B0, 1, none⟩ = some (.int .i64 P) ∧ wx.cell? ⟨B0, 2, none⟩ = some (.int .i64 Q) ∧ B0 < wx.heap.size ∧
    wx.cell? ⟨B1, 0, none⟩ = some (.bool M) ∧ wx.cell? ⟨B1, 1, none⟩ = some (.int .i64 R) ∧ wx.cell? ⟨B1, 2, none⟩ = some (.int .i64 S) ∧ B1 < wx.heap.size ∧
    Hid (Vg.Rws p q r s P Q R S n) ∧ Fact N (q < p) ∧ Fact M (s < r))
  case first =>
    go_wp2_with fail
    refine (rows_any a b c d p q r s HX.out HY.out _).mono ?_; rintro e w2 ⟨P, Q, R, S, n, N, M, rfl, hr, gN, gM, hb⟩
    have HR := hide hr
    have g := b_two.trans (hb.mono (by simp; omega))
    clear hb hr
    go_wp2_with fail
    go_meet
    refine ⟨(g.alloc g.size _).alloc (by have := g.size; simp; omega) _, _, _, P, Q, R, S, n, N, M, rfl, rfl, ?_, ?_, ?_, ?_, ?_, ?_, ?_, ?_, HR, gN, gM⟩
    all_goals (simp [go_sem]; try omega)
  case rest =>
  obtain ⟨g, B0, B1, P, Q, R, S, n, N, M, rfl, rfl, k00, k01, k02, z0, k10, k11, k12, z1, HR, gN, gM⟩ := hcut
  have hov := ov_rws HR.out
  have iv := Ivn.of HR.out HX.out.iv HY.out.iv
  have eN : N = true ↔ Q < P := Iff.trans gN HR.out.2.1.2
  have eM : M = true ↔ S < R := Iff.trans gM HR.out.2.2.2.2.2.2.1.2
  cases N
  · cases M
    · exfalso
      have h1 : P ≤ Q := Int.not_lt.1 fun h => by have := eN.2 h; cases this
      have h2 : R ≤ S := Int.not_lt.1 fun h => by have := eM.2 h; cases this
      have e1 : ¬ q < p := fun h => by have := gN.2 h; cases this
      have e2 : ¬ s < r := fun h => by have := gM.2 h; cases this
      have := HG.out
      omega
    · have HO := hide (show ov p q r s = 2 by rw [hov]; unfold ov; have : S < R := eM.1 rfl; have : ¬ Q < P := fun h => (by have := eN.2 h; cases this); rw [if_neg (by omega), if_neg (by omega), if_pos (by omega)])
      clear hov iv eN eM gN gM HG
      go_wp2_with fail
      go_ret
      exact ⟨_, rfl, HO.out.symm, g⟩
  · cases M
    · have HO := hide (show ov p q r s = 1 by rw [hov]; unfold ov; have : Q < P := eN.1 rfl; have : ¬ S < R := fun h => (by have := eM.2 h; cases this); rw [if_neg (by omega), if_pos (by omega)])
      clear hov iv eN eM gN gM HG
      go_wp2_with fail
      go_ret
      exact ⟨_, rfl, HO.out.symm, g⟩
    · have HO := hide (show ov p q r s = 0 by rw [hov]; unfold ov; have := eN.1 rfl; have := eM.1 rfl; rw [if_pos (by omega)])
      clear hov iv eN eM gN gM HG
      go_wp2_with fail
      go_ret
      exact ⟨_, rfl, HO.out.symm, g⟩
theorem rov_any (a b c d : Nat) (p q r s : Int) (hx : Vg.Rd a b p q) (hy : Vg.Rd c d r s) (w : World) :
    Calls Try.prog 57 #[.agg #[.int .u64 a, .int .u64 b], .agg #[.int .u64 c, .int .u64 d]] w (TO (IsOv p q r s) w) := by
  by_cases h : q < p ∨ s < r
  · exact rov_N a b c d p q r s hx hy h w
  by_cases c1 : q < r
  · exact rov_A a b c d p q r s hx hy (by omega) (by omega) c1 w
  by_cases c2 : s < p
  · exact rov_B a b c d p q r s hx hy (by omega) (by omega) c2 w
  rcases Int.lt_trichotomy p r with e | e | e
  · exact rov_C a b c d p q r s hx hy (by omega) (by omega) ⟨by omega, by omega, e⟩ w
  · exact rov_D a b c d p q r s hx hy (by omega) (by omega) ⟨by omega, by omega, e⟩ w
  · exact rov_E a b c d p q r s hx hy (by omega) (by omega) ⟨by omega, by omega, e⟩ w
end Go.Proofs.Ytljnadoodbninaa
