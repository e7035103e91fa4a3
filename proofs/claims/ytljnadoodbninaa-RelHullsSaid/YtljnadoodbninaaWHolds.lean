/- Contract of the reference's Holds: does a real lie in an interval? -/
import Derived.Test.YtljnadoodbninaaWOf6
import Derived.Handy
import Derived.Test.YtljnadoodbninaaWTold
namespace Vg
/-- Is the end p not above Z by Q, not below it? -/
def Lo (p Z : Int) (Q : Nat) : Prop := ecmp (ei p) (eZ p) LP 0 Z Q ≤ 0
def Hi (q Z : Int) (Q : Nat) : Prop := ecmp 0 Z Q (ei q) (eZ q) LP ≤ 0
/-- Does a real lie between two places? -/
def Hol (p q Z : Int) (Q : Nat) : Prop := p ≤ q ∧ Lo p Z Q ∧ Hi q Z Q
end Vg
namespace Go.Proofs.Ytljnadoodbninaa
open Go.RowKit
set_option maxRecDepth 20000 in
set_option maxHeartbeats 8000000 in
theorem holds_any (a b : Nat) (p q : Int) (h : Vg.Rd a b p q) (v : Value) (Z : Int) (Q B : Nat) (w : World) (hv : Rt w v Z Q B) (hQ : 0 < Q) (hB : B ≤ 35184372087808) :
    Calls Try.prog 39 #[.agg #[.int .u64 a, .int .u64 b], v] w (TB (Vg.Hol p q Z Q) w) := by
  have O1 := fun w => of6_any a b p q h w
  obtain ⟨s, V1, m1, d1, V2, m2, d2, xs, ys, rfl, hr⟩ := hv
  have HV := hide (show Rt w (.agg #[.bool s, .slice V1 m1 d1, .slice V2 m2 d2]) Z Q B from ⟨_, _, _, _, _, _, _, xs, ys, rfl, hr⟩)
  have CM := fun (x y : Value) (i Z j Z' : Int) (Q B Q' B' : Nat) (w' : World) (ha : En w' x i Z Q B) (hb : En w' y j Z' Q' B') (hl : B + B' ≤ 35184372088831) (hQ : 0 < Q) (hQ' : 0 < Q') => ecmp_any x y i Z j Z' Q B Q' B' w' ha hb hl hQ hQ'
  have HQ := hide (show _ ∧ _ from ⟨hQ, hB⟩)
  obtain ⟨c1, hc1⟩ : ∃ c, Vg.ecmp (Vg.ei p) (Vg.eZ p) Vg.LP 0 Z Q = c := ⟨_, rfl⟩
  obtain ⟨c2, hc2⟩ : ∃ c, Vg.ecmp 0 Z Q (Vg.ei q) (Vg.eZ q) Vg.LP = c := ⟨_, rfl⟩
  have HC := hide (show _ ∧ _ from ⟨hc1, hc2⟩)
  obtain ⟨φ, hφ⟩ : ∃ φ, Vg.Hol p q Z Q = φ := ⟨_, rfl⟩
  have HP : Hid (φ ↔ p ≤ q ∧ c1 ≤ 0 ∧ c2 ≤ 0) := hide (by rw [← hφ, ← hc1, ← hc2]; exact Iff.rfl)
  rw [hφ]
  clear hQ hB hr h hc1 hc2 hφ
  go_enter Try.func39, Try.ntmps39
  go_wp2_with fail
  refine (O1 _).mono ?_; rintro e w1 ⟨n, i1, s1, A1, n1, b1, A2, n2, b2, i2, s2, A3, n3, c3, A4, n4, c4, rfl, hh, hb⟩
  have x0 : w1.cell? ⟨w.heap.size + 1, 0, none⟩ = some (.bool s) := keep_cell hb (by simp) (by simp [go_sem])
  have x1 : w1.cell? ⟨w.heap.size + 1, 1, none⟩ = some (.slice V1 m1 d1) := keep_cell hb (by simp) (by simp [go_sem])
  have x2 : w1.cell? ⟨w.heap.size + 1, 2, none⟩ = some (.slice V2 m2 d2) := keep_cell hb (by simp) (by simp [go_sem])
  have g : Below w.heap.size w w1 := b_two.trans (hb.mono (by simp <;> omega))
  have z : w.heap.size + 1 < w1.heap.size := by have := hb.size; simp at this; omega
  have HV := hide (HV.out.keep g)
  clear hb O1
  rcases hh with ⟨hlt, rfl⟩ | ⟨hle, rfl, D1, D2⟩
  · have HN := hide (show ¬ φ from fun h => by have := (HP.out.1 h).1; omega)
    clear hlt HP HC CM
    go_wp2_with fail
    go_ret
    exact ⟨false, rfl, no HN.out, by go_grown⟩
  · have HL := hide hle
    clear hle
    obtain ⟨_, _, _, _, _, _, _, e1, -⟩ := id D1
    obtain ⟨_, _, _, _, _, _, _, e2, -⟩ := id D2
    have i1e : i1 = Vg.ei p := by injection e1 with e1; injection e1 with e1; simp only [List.cons.injEq, Value.int.injEq] at e1; exact e1.1.2
    have i2e : i2 = Vg.ei q := by injection e2 with e2; injection e2 with e2; simp only [List.cons.injEq, Value.int.injEq] at e2; exact e2.1.2
    subst i1e i2e
    clear e1 e2
    have D1 := hide D1
    have D2 := hide D2
    have D3 : Hid (En w1 (.agg #[.int .i64 0, .bool s, .slice V1 m1 d1, .slice V2 m2 d2]) 0 Z Q B) := hide ⟨_, _, _, _, _, _, _, rfl, HV.out⟩
    go_upto_region 3 with fail
    obtain ⟨W2, hW⟩ : ∃ W2, (w1.alloc (.cells #[.bool false, .int .i64 (Vg.ei p), .bool s1, .slice A1 n1 b1, .slice A2 n2 b2, .int .i64 (Vg.ei q), .bool s2, .slice A3 n3 c3, .slice A4 n4 c4] 71)).alloc (.cells #[.int .i64 0, .bool s, .slice V1 m1 d1, .slice V2 m2 d2] 69) = W2 := ⟨_, rfl⟩
    obtain ⟨S1, hS1⟩ : ∃ S1, w1.heap.size = S1 := ⟨_, rfl⟩
    have k0 : W2.cell? ⟨S1, 0, none⟩ = some (.bool false) := by rw [← hW, ← hS1]; simp [go_sem]
    have k1 : W2.cell? ⟨S1, 1, none⟩ = some (.int .i64 (Vg.ei p)) := by rw [← hW, ← hS1]; simp [go_sem]
    have k2 : W2.cell? ⟨S1, 2, none⟩ = some (.bool s1) := by rw [← hW, ← hS1]; simp [go_sem]
    have k3 : W2.cell? ⟨S1, 3, none⟩ = some (.slice A1 n1 b1) := by rw [← hW, ← hS1]; simp [go_sem]
    have k4 : W2.cell? ⟨S1, 4, none⟩ = some (.slice A2 n2 b2) := by rw [← hW, ← hS1]; simp [go_sem]
    have k5 : W2.cell? ⟨S1, 5, none⟩ = some (.int .i64 (Vg.ei q)) := by rw [← hW, ← hS1]; simp [go_sem]
    have k6 : W2.cell? ⟨S1, 6, none⟩ = some (.bool s2) := by rw [← hW, ← hS1]; simp [go_sem]
    have k7 : W2.cell? ⟨S1, 7, none⟩ = some (.slice A3 n3 c3) := by rw [← hW, ← hS1]; simp [go_sem]
    have k8 : W2.cell? ⟨S1, 8, none⟩ = some (.slice A4 n4 c4) := by rw [← hW, ← hS1]; simp [go_sem]
    have l0 : W2.cell? ⟨S1 + 1, 0, none⟩ = some (.int .i64 0) := by rw [← hW, ← hS1]; simp [go_sem]
    have l1 : W2.cell? ⟨S1 + 1, 1, none⟩ = some (.bool s) := by rw [← hW, ← hS1]; simp [go_sem]
    have l2 : W2.cell? ⟨S1 + 1, 2, none⟩ = some (.slice V1 m1 d1) := by rw [← hW, ← hS1]; simp [go_sem]
    have l3 : W2.cell? ⟨S1 + 1, 3, none⟩ = some (.slice V2 m2 d2) := by rw [← hW, ← hS1]; simp [go_sem]
    have z1 : S1 + 1 < W2.heap.size := by rw [← hW, ← hS1]; simp
    have g2 : Below w1.heap.size w1 W2 := by rw [← hW]; exact b_two
    have g := bch g g2
    have D1 := hide (D1.out.keep g2)
    have D2 := hide (D2.out.keep g2)
    have D3 := hide (D3.out.keep g2)
    rw [hW, hS1]
    have C1 := CM _ _ _ _ _ _ _ _ _ _ W2 D1.out D3.out (by have := HQ.out; omega) Vg.LP_pos HQ.out.1
    rw [HC.out.1] at C1
    clear g2 hW hS1 x0 x1 x2 z HV
    go_wp2_with fail
    refine C1.mono ?_; rintro e w3 ⟨rfl, hb⟩
    have k0 := keep_cell hb (by dsimp only; omega) k0
    have k1 := keep_cell hb (by dsimp only; omega) k1
    have k2 := keep_cell hb (by dsimp only; omega) k2
    have k3 := keep_cell hb (by dsimp only; omega) k3
    have k4 := keep_cell hb (by dsimp only; omega) k4
    have k5 := keep_cell hb (by dsimp only; omega) k5
    have k6 := keep_cell hb (by dsimp only; omega) k6
    have k7 := keep_cell hb (by dsimp only; omega) k7
    have k8 := keep_cell hb (by dsimp only; omega) k8
    have l0 := keep_cell hb (by dsimp only; omega) l0
    have l1 := keep_cell hb (by dsimp only; omega) l1
    have l2 := keep_cell hb (by dsimp only; omega) l2
    have l3 := keep_cell hb (by dsimp only; omega) l3
    have z1 := Nat.lt_of_lt_of_le z1 hb.size
    have g := bch g hb
    have D1 := hide (D1.out.keep hb)
    have D2 := hide (D2.out.keep hb)
    have D3 := hide (D3.out.keep hb)
    have C2 := CM _ _ _ _ _ _ _ _ _ _ w3 D3.out D2.out (by have := HQ.out; omega) HQ.out.1 Vg.LP_pos
    rw [HC.out.2] at C2
    clear hb C1 CM
    by_cases h1 : c1 ≤ 0
    · have HN := hide h1
      have t1 : decide (c1 ≤ 0) = true := decide_eq_true h1
      clear h1
      go_wp2_with fail
      refine C2.mono ?_; rintro e w4 ⟨rfl, hb⟩
      have g := bch g hb
      clear hb C2
      have HF : Hid (Fact (decide (c2 ≤ 0)) φ) := hide (by
        unfold Fact
        rw [decide_eq_true_eq, HP.out]
        exact ⟨fun h => ⟨HL.out, HN.out, h⟩, fun h => h.2.2⟩)
      obtain ⟨r, hr⟩ : ∃ r, decide (c2 ≤ 0) = r := ⟨_, rfl⟩
      rw [hr] at HF
      clear HC HP HQ D1 D2 D3
      go_wp2_with fail
      go_ret
      exact ⟨r, rfl, HF.out, g⟩
    · have HN := hide (show ¬ φ from fun h => h1 (HP.out.1 h).2.1)
      have t1 : decide (c1 ≤ 0) = false := decide_eq_false h1
      clear h1 C2
      go_wp2_with fail
      go_ret
      exact ⟨false, rfl, no HN.out, g⟩
end Go.Proofs.Ytljnadoodbninaa
