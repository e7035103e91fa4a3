/- Contracts of the reference's RSign and RCmp: two ratios of lists of words. -/
import Derived.Test.YtljnadoodbninaaWTimes
namespace Go.Proofs.Ytljnadoodbninaa
open Go.RowKit
/-- A ratio's sign. -/
def sg (s : Bool) (n : Nat) : Int := if n = 0 then 0 else if s then -1 else 1
def TInt (z : Int) (w : World) (e : Ending) (w' : World) : Prop := e = .returned (.int .i64 z) ∧ Below w.heap.size w w'
set_option maxRecDepth 20000 in
set_option maxHeartbeats 8000000 in
theorem rsign_any (s : Bool) (A1 A2 : Option Addr) (n1 c1 n2 c2 : Nat) (xs : List Nat) (w : World) (ha : Rw w (.slice A1 n1 c1) xs) (hl : xs.length ≤ 35184372088831) :
    Calls Try.prog 84 #[.agg #[.bool s, .slice A1 n1 c1, .slice A2 n2 c2]] w (TInt (sg s (Vg.nat32 xs)) w) := by
  have NM := fun (w' : World) (h : Below w.heap.size w w') => norm_any _ xs w' (ha.keep h) hl
  clear ha hl
  go_enter Try.func84, Try.ntmps84
  go_wp2_with fail
  refine (NM _ b_one).mono ?_; rintro e w1 ⟨v, ys, rfl, h1, h2, h3, h4, hb⟩
  obtain ⟨A3, c3, rfl⟩ := h1.len
  obtain ⟨N, hN⟩ : ∃ n, ys.length = n := ⟨_, rfl⟩
  have k0 : w1.cell? ⟨w.heap.size, 0, none⟩ = some (.bool s) := keep_cell hb (by simp) (by simp [go_sem])
  have G1 := hide (bch_one hb)
  have hz := h3.zero_iff h1.1
  rw [hN, h2] at hz
  rw [hN]
  clear h1 h2 h3 h4 hb NM hN
  by_cases h0 : N = 0
  · subst h0
    have R := hide (show sg s (Vg.nat32 xs) = 0 from if_pos (hz.1 rfl))
    clear hz
    go_wp2
    go_ret
    exact ⟨by rw [R.out]; rfl, G1.out⟩
  · have t0 : (N == 0) = false := beq_eq_false_iff_ne.2 h0
    have t1 : ((N : Int) == 0) = false := by rw [beq_eq_false_iff_ne]; omega
    have R := hide (show sg s (Vg.nat32 xs) = if s then -1 else 1 from if_neg (fun h => h0 (hz.2 h)))
    clear hz h0
    cases s
    · go_wp2
      go_ret
      exact ⟨by rw [R.out]; rfl, G1.out⟩
    · go_wp2
      go_ret
      exact ⟨by rw [R.out]; rfl, G1.out⟩
/-- How two ratios stand to each other. -/
def rcz (s : Bool) (an ad : Nat) (t : Bool) (bn bd : Nat) : Int :=
  if sg s an < sg t bn then -1 else if sg t bn < sg s an then 1 else if sg s an = 0 then 0 else if s then -(cmpz (an * bd) (bn * ad)) else cmpz (an * bd) (bn * ad)
theorem cmpz_bd (a b : Nat) : cmpz a b = -1 ∨ cmpz a b = 0 ∨ cmpz a b = 1 := by
  unfold cmpz; split
  · exact .inl rfl
  · split
    · exact .inr (.inr rfl)
    · exact .inr (.inl rfl)
set_option maxRecDepth 20000 in
set_option maxHeartbeats 16000000 in
theorem rcmp_any (s t : Bool) (A1 A2 A3 A4 : Option Addr) (n1 c1 n2 c2 n3 c3 n4 c4 : Nat) (xa xb ya yb : List Nat) (w : World) (h1 : Rw w (.slice A1 n1 c1) xa) (h2 : Rw w (.slice A2 n2 c2) xb) (h3 : Rw w (.slice A3 n3 c3) ya) (h4 : Rw w (.slice A4 n4 c4) yb)
    (l1 : xa.length + yb.length ≤ 35184372088831) (l2 : ya.length + xb.length ≤ 35184372088831) :
    Calls Try.prog 58 #[.agg #[.bool s, .slice A1 n1 c1, .slice A2 n2 c2], .agg #[.bool t, .slice A3 n3 c3, .slice A4 n4 c4]] w (TInt (rcz s (Vg.nat32 xa) (Vg.nat32 xb) t (Vg.nat32 ya) (Vg.nat32 yb)) w) := by
  have S1 := fun (w' : World) (h : Below w.heap.size w w') => rsign_any s A1 A2 n1 c1 n2 c2 xa w' (h1.keep h) (by omega)
  have S2 := fun (w' : World) (h : Below w.heap.size w w') => rsign_any t A3 A4 n3 c3 n4 c4 ya w' (h3.keep h) (by omega)
  have T1 := fun (w' : World) (h : Below w.heap.size w w') => times_any _ _ xa yb w' (h1.keep h) (h4.keep h) l1
  have T2 := fun (w' : World) (h : Below w.heap.size w w') => times_any _ _ ya xb w' (h3.keep h) (h2.keep h) l2
  have CM := fun (w' : World) (a b : Value) (ps qs : List Nat) (ha : Rw w' a ps) (hb : Rw w' b qs) (ha2 : ps.length ≤ xa.length + yb.length) (hb2 : qs.length ≤ ya.length + xb.length) => cmp_any a b ps qs w' ha hb (by omega) (by omega)
  obtain ⟨u, hu⟩ : ∃ u, sg s (Vg.nat32 xa) = u := ⟨_, rfl⟩
  obtain ⟨v, hv⟩ : ∃ u, sg t (Vg.nat32 ya) = u := ⟨_, rfl⟩
  rw [hu] at S1
  rw [hv] at S2
  obtain ⟨P, hP⟩ : ∃ u, Vg.nat32 xa * Vg.nat32 yb = u := ⟨_, rfl⟩
  obtain ⟨Q, hQ⟩ : ∃ u, Vg.nat32 ya * Vg.nat32 xb = u := ⟨_, rfl⟩
  rw [hP] at T1
  rw [hQ] at T2
  obtain ⟨z, hz⟩ : ∃ u, cmpz P Q = u := ⟨_, rfl⟩
  have hzb : z = -1 ∨ z = 0 ∨ z = 1 := by rw [← hz]; exact cmpz_bd _ _
  have R : Hid (rcz s (Vg.nat32 xa) (Vg.nat32 xb) t (Vg.nat32 ya) (Vg.nat32 yb) = if u < v then -1 else if v < u then 1 else if u = 0 then 0 else if s then -z else z) := hide (by
    unfold rcz; rw [hu, hv, hP, hQ, hz])
  have ZZ := hide hz
  have wz : IntKind.i64.wrap (-z) = -z := IntWalk.i64_in _ (by omega)
  clear h1 h2 h3 h4 l1 l2 hu hv hP hQ hz hzb
  go_enter Try.func58, Try.ntmps58
  go_wp2_with fail
  refine (S1 _ b_two).mono ?_; rintro e w1 ⟨rfl, hb1⟩
  have k0 : w1.cell? ⟨w.heap.size, 0, none⟩ = some (.bool s) := keep_cell hb1 (by first | (simp; done) | (simp; omega)) (by simp [go_sem])
  have k1 : w1.cell? ⟨w.heap.size, 1, none⟩ = some (.slice A1 n1 c1) := keep_cell hb1 (by first | (simp; done) | (simp; omega)) (by simp [go_sem])
  have k2 : w1.cell? ⟨w.heap.size, 2, none⟩ = some (.slice A2 n2 c2) := keep_cell hb1 (by first | (simp; done) | (simp; omega)) (by simp [go_sem])
  have k3 : w1.cell? ⟨w.heap.size + 1, 0, none⟩ = some (.bool t) := keep_cell hb1 (by first | (simp; done) | (simp; omega)) (by simp [go_sem])
  have k4 : w1.cell? ⟨w.heap.size + 1, 1, none⟩ = some (.slice A3 n3 c3) := keep_cell hb1 (by first | (simp; done) | (simp; omega)) (by simp [go_sem])
  have k5 : w1.cell? ⟨w.heap.size + 1, 2, none⟩ = some (.slice A4 n4 c4) := keep_cell hb1 (by first | (simp; done) | (simp; omega)) (by simp [go_sem])
  have z0 : w.heap.size + 1 < w1.heap.size := by have := hb1.size; simp at this; omega
  have g : Below w.heap.size w w1 := b_two.trans (hb1.mono (by simp <;> omega))
  clear hb1 S1
  go_wp2_with fail
  refine (S2 _ g).mono ?_; rintro e w2 ⟨rfl, hb1⟩
  have k0 := keep_cell hb1 (by first | (dsimp only; omega) | (simp; omega)) k0
  have k1 := keep_cell hb1 (by first | (dsimp only; omega) | (simp; omega)) k1
  have k2 := keep_cell hb1 (by first | (dsimp only; omega) | (simp; omega)) k2
  have k3 := keep_cell hb1 (by first | (dsimp only; omega) | (simp; omega)) k3
  have k4 := keep_cell hb1 (by first | (dsimp only; omega) | (simp; omega)) k4
  have k5 := keep_cell hb1 (by first | (dsimp only; omega) | (simp; omega)) k5
  have z0 := Nat.lt_of_lt_of_le z0 hb1.size
  have g := bch g hb1
  clear hb1 S2
  rcases Int.lt_trichotomy u v with h | h | h
  · have t1 : decide (u < v) = true := decide_eq_true h
    have R2 : Hid (rcz s (Vg.nat32 xa) (Vg.nat32 xb) t (Vg.nat32 ya) (Vg.nat32 yb) = -1) := hide (by rw [R.out, if_pos h])
    clear R h
    go_wp2
    go_ret
    exact ⟨by rw [R2.out]; rfl, g⟩
  · subst h
    have t1 : decide (u < u) = false := decide_eq_false (by omega)
    have R2 : Hid (rcz s (Vg.nat32 xa) (Vg.nat32 xb) t (Vg.nat32 ya) (Vg.nat32 yb) = if u = 0 then 0 else if s then -z else z) := hide (by rw [R.out, if_neg (by omega), if_neg (by omega)])
    clear R
    go_upto_region 7 with fail
    go_region_held3 (fun wx => Below w.heap.size w wx ∧ w.heap.size + 1 < wx.heap.size ∧ wx.cell? ⟨w.heap.size, 0, none⟩ = some (.bool s) ∧ wx.cell? ⟨w.heap.size, 1, none⟩ = some (.slice A1 n1 c1) ∧ wx.cell? ⟨w.heap.size, 2, none⟩ = some (.slice A2 n2 c2) ∧ wx.cell? ⟨w.heap.size + 1, 0, none⟩ = some (.bool t) ∧ wx.cell? ⟨w.heap.size + 1, 1, none⟩ = some (.slice A3 n3 c3) ∧ wx.cell? ⟨w.heap.size + 1, 2, none⟩ = some (.slice A4 n4 c4))
      (((try dsimp only); (repeat' apply And.intro) <;> first | assumption | (simp [*]; done) | exact Below.drew (by assumption) | exact keep_cell hb1 (by first | (dsimp only; omega) | (simp; omega)) (by simp [*]) | (have := hb1.size; omega) | (have := hb1.size; simp at this; omega) | exact bch (by simp [*]) hb1 | exact bch (Below.drew (by simp [*])) hb1))
      (first | (go_at_call 86; first | ((with_reducible refine (T1 _ (by simp [*])).mono ?_); rintro e w' ⟨v1, ys1, rfl, p1, p2, p3, p4, hb1⟩; obtain ⟨A5, c5, rfl⟩ := p1.len) | ((with_reducible refine (T2 _ (by simp [*])).mono ?_); rintro e w' ⟨v2, ys2, rfl, q1, q2, q3, q4, hb1⟩; obtain ⟨A6, c6, rfl⟩ := q1.len; have p1 := p1.keep (by first | exact hb1 | exact hb1.mono (Nat.le_refl _)))) | (go_at_call 85; (with_reducible refine (CM _ _ _ ys1 ys2 (by first | exact p1 | exact p1.keep (Below.refl _ _).drew) (by first | exact q1 | exact q1.keep (Below.refl _ _).drew) p4 q4).mono ?_); rintro e w' ⟨rfl, hb1⟩; rw [p2, q2, ZZ.out]))
    all_goals
      have G8 : Below w.heap.size w w' := by simp [*]
      cases s
      · by_cases hu0 : u = 0
        · have t3 : (u == 0) = true := by rw [beq_iff_eq]; exact hu0
          have R3 : Hid (rcz false (Vg.nat32 xa) (Vg.nat32 xb) t (Vg.nat32 ya) (Vg.nat32 yb) = 0) := hide (by rw [R2.out, if_pos hu0])
          clear R2 hu0
          go_wp2
          go_ret
          exact ⟨by rw [R3.out]; rfl, G8⟩
        · have t3 : (u == 0) = false := beq_eq_false_iff_ne.2 hu0
          have R3 : Hid (rcz false (Vg.nat32 xa) (Vg.nat32 xb) t (Vg.nat32 ya) (Vg.nat32 yb) = z) := hide (by rw [R2.out, if_neg hu0]; rfl)
          clear R2 hu0
          go_wp2
          go_ret
          exact ⟨by rw [R3.out]; rfl, G8⟩
      · by_cases hu0 : u = 0
        · have t3 : (u == 0) = true := by rw [beq_iff_eq]; exact hu0
          have R3 : Hid (rcz true (Vg.nat32 xa) (Vg.nat32 xb) t (Vg.nat32 ya) (Vg.nat32 yb) = 0) := hide (by rw [R2.out, if_pos hu0])
          clear R2 hu0
          go_wp2
          go_ret
          exact ⟨by rw [R3.out]; rfl, G8⟩
        · have t3 : (u == 0) = false := beq_eq_false_iff_ne.2 hu0
          have R3 : Hid (rcz true (Vg.nat32 xa) (Vg.nat32 xb) t (Vg.nat32 ya) (Vg.nat32 yb) = -z) := hide (by rw [R2.out, if_neg hu0]; rfl)
          clear R2 hu0
          go_wp2
          go_ret
          exact ⟨by rw [R3.out]; rfl, G8⟩
  · have t1 : decide (u < v) = false := decide_eq_false (by omega)
    have t2 : decide (v < u) = true := decide_eq_true h
    have R2 : Hid (rcz s (Vg.nat32 xa) (Vg.nat32 xb) t (Vg.nat32 ya) (Vg.nat32 yb) = 1) := hide (by rw [R.out, if_neg (by omega), if_pos h])
    clear R h
    go_wp2
    go_ret
    exact ⟨by rw [R2.out]; rfl, g⟩
end Go.Proofs.Ytljnadoodbninaa
