/- What the relations say of any two reals of two intervals. The walk. -/
import Derived.Test.YtljnadoodbninaaWPts
import Derived.Test.YtljnadoodbninaaWAwake
import Derived.Test.YtljnadoodbninaaWTold
import Derived.Test.YtljnadoodbninaaWAcross
namespace Go.Proofs.Ytljnadoodbninaa.relTwo
open Go.RowKit

theorem lo_same {r Z Y : Int} {Q P : Nat} (hr : Vg.Pl r) (hP : 0 < P) (h : Vg.Lo r Y P) (e : Z * P = Y * Q) : Vg.Lo r Z Q := by
  have br := hr.bd
  by_cases h1 : r = -Vg.PI
  · subst h1; exact Vg.Lo_bot
  by_cases h2 : r = Vg.PI
  · subst h2; exact absurd h Vg.Lo_top
  rw [Vg.Lo_mid h2 h1] at h ⊢
  refine Int.le_of_mul_le_mul_right (a := (P : Int)) ?_ (by omega)
  rw [Int.mul_right_comm, Int.mul_right_comm Z, e, Int.mul_right_comm Y]
  exact Int.mul_le_mul_of_nonneg_right h (by omega)
theorem hi_same {r Z Y : Int} {Q P : Nat} (hr : Vg.Pl r) (hP : 0 < P) (h : Vg.Hi r Y P) (e : Z * P = Y * Q) : Vg.Hi r Z Q := by
  have br := hr.bd
  by_cases h2 : r = Vg.PI
  · subst h2; exact Vg.Hi_top
  by_cases h1 : r = -Vg.PI
  · subst h1; exact absurd h Vg.Hi_bot
  rw [Vg.Hi_mid h2 h1] at h ⊢
  refine Int.le_of_mul_le_mul_right (a := (P : Int)) ?_ (by omega)
  rw [Int.mul_right_comm, Int.mul_right_comm (Vg.sv r), e, Int.mul_right_comm Y]
  exact Int.mul_le_mul_of_nonneg_right h (by omega)
theorem icmp_bd (a b : Int) : Vg.icmp a b = -1 ∧ a < b ∨ Vg.icmp a b = 0 ∧ a = b ∨ Vg.icmp a b = 1 ∧ b < a := by
  unfold Vg.icmp
  by_cases h1 : a < b
  · exact .inl ⟨if_pos h1, h1⟩
  · rw [if_neg h1]
    by_cases h2 : b < a
    · exact .inr (.inr ⟨if_pos h2, h2⟩)
    · exact .inr (.inl ⟨if_neg h2, by omega⟩)
/-- What the walk needs to know, told of letters alone. -/
def TwoF (o3 o4 n1 n2 n3 n4 n5 n6 : Bool) (c : Int) : Prop := (n1 = true → ¬ 0 < c) ∧ (n2 = true → ¬ 0 ≤ c) ∧ (n3 = true → c ≠ 0) ∧ (n4 = true → o3 = true) ∧ (n5 = true → o3 = true) ∧ (n6 = true → o3 = true) ∧ (n5 = true → o4 = true)
def TwoG (A B : Nat) (o1 o2 o3 o4 n1 n2 n3 n4 n5 n6 : Bool) (c : Int) : Prop := 0 < A → 0 < B → o1 = true → o2 = true → TwoF o3 o4 n1 n2 n3 n4 n5 n6 c
/-- What the relations say of two reals. -/
theorem two_reals {p q r s Z Y c : Int} {Q P : Nat} (h1 : Vg.Iv p q) (h2 : Vg.Iv r s) (hQ : 0 < Q) (hP : 0 < P) (hx : Vg.Hol p q Z Q) (hy : Vg.Hol r s Y P) (hc : c = Vg.icmp (Z * P) (Y * Q)) :
    ((q < p ∨ s < r ∨ q ≤ r) → ¬ 0 < c) ∧ ((q < p ∨ s < r ∨ q < r) → ¬ 0 ≤ c) ∧ (min q s < max p r → c ≠ 0) ∧ ((q < p ∨ r ≤ p ∧ q ≤ s) → Vg.Hol r s Z Q) ∧ (p = r ∧ q = s → Vg.Hol r s Z Q) ∧ ((q < p ∨ (p ≤ q ∧ r ≤ s) ∧ bl r p ∧ bl q s) → Vg.Hol r s Z Q) ∧ (p = r ∧ q = s → Vg.Hol p q Y P) := by
  have hb := icmp_bd (Z * P) (Y * Q)
  rw [← hc] at hb
  have sub : r ≤ p → q ≤ s → Vg.Hol r s Z Q := fun a b => by
    rw [Vg.Hol.iff h2.lo h2.hi hQ]
    exact ⟨Vg.Lo_mono h2.lo h1.lo a hx.2.1, Vg.Hi_mono h1.hi h2.hi b hx.2.2⟩
  have e1 := hx.1
  have e2 := hy.1
  refine ⟨fun h => ?_, fun h => ?_, fun h => ?_, fun h => ?_, fun h => ?_, fun h => ?_, fun h => ?_⟩
  · have := Vg.hi_lo h1.hi h2.lo hx.2.2 hy.2.1 (by omega)
    omega
  · have := Vg.hi_lo_lt h1.hi h2.lo hQ hP hx.2.2 hy.2.1 (by omega)
    omega
  · intro h0
    have e : Z * P = Y * Q := by omega
    have k1 := lo_same h2.lo hP hy.2.1 e
    have k2 := hi_same h2.hi hP hy.2.2 e
    have a := Vg.Lo_Hi h1.lo h2.hi hQ hx.2.1 k2
    have b := Vg.Lo_Hi h2.lo h1.hi hQ k1 hx.2.2
    omega
  · exact sub (by omega) (by omega)
  · exact sub (by omega) (by omega)
  · rcases h with h | ⟨-, a, b⟩
    · omega
    · unfold bl at a b; exact sub (by omega) (by omega)
  · obtain ⟨rfl, rfl⟩ := h; exact hy

set_option maxRecDepth 20000 in
set_option maxHeartbeats 16000000 in
theorem walk (a00 a01 a10 a11 : Int) (sp : Bool) (V1 V2 : Option Addr) (l1 d1 l2 d2 : Nat) (xs ys : List Nat) (sq : Bool) (V3 V4 : Option Addr) (l3 d3 l4 d4 : Nat) (xt yt : List Nat) (w : World) (w00 : (Lit.int .u64 a00).wf = true) (w01 : (Lit.int .u64 a01).wf = true) (w10 : (Lit.int .u64 a10).wf = true) (w11 : (Lit.int .u64 a11).wf = true) (r1 : Rw w (.slice V1 l1 d1) xs) (r2 : Rw w (.slice V2 l2 d2) ys) (q1 : xs.length ≤ 1048576) (q2 : ys.length ≤ 1048576) (r3 : Rw w (.slice V3 l3 d3) xt) (r4 : Rw w (.slice V4 l4 d4) yt) (q3 : xt.length ≤ 1048576) (q4 : yt.length ≤ 1048576) :
    Calls Try.prog 13 #[.agg #[.int .u64 a00, .int .u64 a01], .agg #[.int .u64 a10, .int .u64 a11], .agg #[.bool sp, .slice V1 l1 d1, .slice V2 l2 d2], .agg #[.bool sq, .slice V3 l3 d3, .slice V4 l4 d4]] w fun e w' => e = .returned (.bool true) ∧ Below w.heap.size w w' := by
  have b00 := u64_bd w00
  obtain ⟨X0, rfl⟩ := Int.eq_ofNat_of_zero_le b00.1
  have b01 := u64_bd w01
  obtain ⟨Y0, rfl⟩ := Int.eq_ofNat_of_zero_le b01.1
  have b10 := u64_bd w10
  obtain ⟨X1, rfl⟩ := Int.eq_ofNat_of_zero_le b10.1
  have b11 := u64_bd w11
  obtain ⟨Y1, rfl⟩ := Int.eq_ofNat_of_zero_le b11.1
  clear w00 w01 w10 w11
  obtain ⟨p, q, h0⟩ := Vg.Rd.ex X0 Y0 (by omega) (by omega)
  obtain ⟨r, s, h1⟩ := Vg.Rd.ex X1 Y1 (by omega) (by omega)
  have N0 := fun w => in_any (X0 : Int) (Y0 : Int) w
  rw [Int.toNat_natCast, Int.toNat_natCast] at N0
  have N1 := fun w => in_any (X1 : Int) (Y1 : Int) w
  rw [Int.toNat_natCast, Int.toNat_natCast] at N1
  have AW := fun w => awake_any w
  have NP := fun (w' : World) (h : Below w.heap.size w w') => norm_any _ ys w' (r2.keep h) (by omega)
  have NQ := fun (w' : World) (h : Below w.heap.size w w') => norm_any _ yt w' (r4.keep h) (by omega)
  have RC := fun (w' : World) (h : Below w.heap.size w w') => rcmp_any sp sq V1 V2 V3 V4 l1 d1 l2 d2 l3 d3 l4 d4 xs ys xt yt w' (r1.keep h) (r2.keep h) (r3.keep h) (r4.keep h) (by omega) (by omega)
  obtain ⟨c, hc⟩ : ∃ c, rcz sp (Vg.nat32 xs) (Vg.nat32 ys) sq (Vg.nat32 xt) (Vg.nat32 yt) = c := ⟨_, rfl⟩
  rw [hc] at RC
  obtain ⟨o1, ho1⟩ := bool_of (Vg.Hol p q (Vg.zi sp (Vg.nat32 xs)) (Vg.nat32 ys))
  obtain ⟨o2, ho2⟩ := bool_of (Vg.Hol r s (Vg.zi sq (Vg.nat32 xt)) (Vg.nat32 yt))
  obtain ⟨o3, ho3⟩ := bool_of (Vg.Hol r s (Vg.zi sp (Vg.nat32 xs)) (Vg.nat32 ys))
  obtain ⟨o4, ho4⟩ := bool_of (Vg.Hol p q (Vg.zi sq (Vg.nat32 xt)) (Vg.nat32 yt))
  obtain ⟨n1, hn1⟩ := bool_of (q < p ∨ s < r ∨ q ≤ r)
  obtain ⟨n2, hn2⟩ := bool_of (q < p ∨ s < r ∨ q < r)
  obtain ⟨n3, hn3⟩ := bool_of (min q s < max p r)
  obtain ⟨n4, hn4⟩ := bool_of (q < p ∨ r ≤ p ∧ q ≤ s)
  obtain ⟨n5, hn5⟩ := bool_of (p = r ∧ q = s)
  obtain ⟨n6, hn6⟩ := bool_of (q < p ∨ (p ≤ q ∧ r ≤ s) ∧ bl r p ∧ bl q s)
  have FA : Hid (TwoG (Vg.nat32 ys) (Vg.nat32 yt) o1 o2 o3 o4 n1 n2 n3 n4 n5 n6 c) := hide (by
    intro hQ hP e1 e2
    have h := two_reals h0.iv h1.iv hQ hP (ho1.1 e1) (ho2.1 e2) (c := c) (by rw [← hc]; exact rcz_icmp _ _ _ _ _ _ hQ hP)
    rwa [← hn1, ← hn2, ← hn3, ← hn4, ← hn5, ← hn6, ← ho3, ← ho4] at h)
  have RP := fun (hQ : 0 < Vg.nat32 ys) (w' : World) (h : Below w.heap.size w w') => (Rt.self (s := sp) (B := 35184372087808) r1 r2 hQ (by omega) (by omega)).keep h
  have RQ := fun (hQ : 0 < Vg.nat32 yt) (w' : World) (h : Below w.heap.size w w') => (Rt.self (s := sq) (B := 35184372087808) r3 r4 hQ (by omega) (by omega)).keep h
  have K1 := fun (hQ : 0 < Vg.nat32 ys) (w' : World) (h : Below w.heap.size w w') => (holds_any X0 Y0 p q h0 _ _ _ _ w' (RP hQ w' h) hQ (by omega)).mono (fun _ _ h => TB.bool ho1 h)
  have K2 := fun (hQ : 0 < Vg.nat32 yt) (w' : World) (h : Below w.heap.size w w') => (holds_any X1 Y1 r s h1 _ _ _ _ w' (RQ hQ w' h) hQ (by omega)).mono (fun _ _ h => TB.bool ho2 h)
  have K3 := fun (hQ : 0 < Vg.nat32 ys) (w' : World) (h : Below w.heap.size w w') => (holds_any X1 Y1 r s h1 _ _ _ _ w' (RP hQ w' h) hQ (by omega)).mono (fun _ _ h => TB.bool ho3 h)
  have K4 := fun (hQ : 0 < Vg.nat32 yt) (w' : World) (h : Below w.heap.size w w') => (holds_any X0 Y0 p q h0 _ _ _ _ w' (RQ hQ w' h) hQ (by omega)).mono (fun _ _ h => TB.bool ho4 h)
  have M1 := fun w => (prec_any X0 Y0 X1 Y1 p q r s h0 h1 w).mono (fun _ _ h => TB.bool hn1 h)
  have M2 := fun w => (sprec_any X0 Y0 X1 Y1 p q r s h0 h1 w).mono (fun _ _ h => TB.bool hn2 h)
  have M3 := fun w => (disjoint_any X0 Y0 X1 Y1 p q r s h0 h1 w).mono (fun _ _ h => TB.bool hn3 h)
  have M4 := fun w => (subset_any X0 Y0 X1 Y1 p q r s h0 h1 w).mono (fun _ _ h => TB.bool hn4 h)
  have M5 := fun w => (equal_any X0 Y0 X1 Y1 p q r s h0 h1 w).mono (fun _ _ h => TB.bool hn5 h)
  have M6 := fun w => (interior_any X0 Y0 X1 Y1 p q r s h0 h1 w).mono (fun _ _ h => TB.bool hn6 h)
  clear RP RQ ho1 ho2 ho3 ho4 hn1 hn2 hn3 hn4 hn5 hn6 hc h0 h1 b00 b01 b10 b11 r1 r2 r3 r4 q1 q2 q3 q4
  have HK := hide (show _ ∧ _ ∧ _ ∧ _ from ⟨K1, K2, K3, K4⟩)
  have HM := hide (show _ ∧ _ ∧ _ ∧ _ ∧ _ ∧ _ from ⟨M1, M2, M3, M4, M5, M6⟩)
  have HN := hide (show _ ∧ _ ∧ _ from ⟨NP, NQ, RC⟩)
  clear K1 K2 K3 K4 M1 M2 M3 M4 M5 M6 NP NQ RC
  have hst := sto
  go_enter Try.func13, Try.ntmps13
  go_wp2_with fail
  refine (AW _).mono ?_; rintro e w1 ⟨rfl, hb⟩
  have x0 : w1.cell? ⟨w.heap.size, 0, none⟩ = some (.int .u64 (X0 : Int)) := keep_cell hb (by first | (simp; done) | (simp; omega)) (by simp [go_sem])
  have x1 : w1.cell? ⟨w.heap.size, 1, none⟩ = some (.int .u64 (Y0 : Int)) := keep_cell hb (by first | (simp; done) | (simp; omega)) (by simp [go_sem])
  have y0 : w1.cell? ⟨w.heap.size + 1, 0, none⟩ = some (.int .u64 (X1 : Int)) := keep_cell hb (by first | (simp; done) | (simp; omega)) (by simp [go_sem])
  have y1 : w1.cell? ⟨w.heap.size + 1, 1, none⟩ = some (.int .u64 (Y1 : Int)) := keep_cell hb (by first | (simp; done) | (simp; omega)) (by simp [go_sem])
  have p0 : w1.cell? ⟨w.heap.size + 2, 0, none⟩ = some (.bool sp) := keep_cell hb (by first | (simp; done) | (simp; omega)) (by simp [go_sem])
  have p1 : w1.cell? ⟨w.heap.size + 2, 1, none⟩ = some (.slice V1 l1 d1) := keep_cell hb (by first | (simp; done) | (simp; omega)) (by simp [go_sem])
  have p2 : w1.cell? ⟨w.heap.size + 2, 2, none⟩ = some (.slice V2 l2 d2) := keep_cell hb (by first | (simp; done) | (simp; omega)) (by simp [go_sem])
  have q0 : w1.cell? ⟨w.heap.size + 3, 0, none⟩ = some (.bool sq) := keep_cell hb (by first | (simp; done) | (simp; omega)) (by simp [go_sem])
  have q1 : w1.cell? ⟨w.heap.size + 3, 1, none⟩ = some (.slice V3 l3 d3) := keep_cell hb (by first | (simp; done) | (simp; omega)) (by simp [go_sem])
  have q2 : w1.cell? ⟨w.heap.size + 3, 2, none⟩ = some (.slice V4 l4 d4) := keep_cell hb (by first | (simp; done) | (simp; omega)) (by simp [go_sem])
  have zx : w.heap.size < w1.heap.size := by have := hb.size; simp at this; omega
  have zy : w.heap.size + 1 < w1.heap.size := by have := hb.size; simp at this; omega
  have zp : w.heap.size + 2 < w1.heap.size := by have := hb.size; simp at this; omega
  have zq : w.heap.size + 3 < w1.heap.size := by have := hb.size; simp at this; omega
  have g : Below w.heap.size w w1 := (b_three.alloc (by simp; omega) _).trans (hb.mono (by simp <;> omega))
  clear hb AW
  go_wp2_with fail
  refine (HN.out.1 _ g).mono ?_; rintro e w' ⟨nv, ns, rfl, hr, hn, hwl, hlen, hb⟩
  obtain ⟨A5, k5, rfl⟩ := hr.len
  obtain ⟨n5', e5⟩ : ∃ n, ns.length = n := ⟨_, rfl⟩
  have hz := hwl.zero_iff hr.1
  rw [e5, hn] at hz
  rw [e5]
  have HZ := hide hz
  clear hr hn hwl hlen hz e5
  have x0 := keep_cell hb zx x0
  have x1 := keep_cell hb zx x1
  have y0 := keep_cell hb zy y0
  have y1 := keep_cell hb zy y1
  have p0 := keep_cell hb zp p0
  have p1 := keep_cell hb zp p1
  have p2 := keep_cell hb zp p2
  have q0 := keep_cell hb zq q0
  have q1 := keep_cell hb zq q1
  have q2 := keep_cell hb zq q2
  have zx := Nat.lt_of_lt_of_le zx hb.size
  have zy := Nat.lt_of_lt_of_le zy hb.size
  have zp := Nat.lt_of_lt_of_le zp hb.size
  have zq := Nat.lt_of_lt_of_le zq hb.size
  have g := (by first | exact bch g hb | exact bch g.drew hb)
  clear hb
  by_cases d1' : Vg.nat32 ys = 0
  · have h5 := HZ.out.2 d1'
    have t0 : ((n5' : Int) == 0) = true := by rw [beq_iff_eq]; omega
    have t1 : (n5' == 0) = true := by rw [beq_iff_eq]; omega
    subst h5
    clear HZ HK HM HN FA d1'
    go_wp2
    go_ret
    exact ⟨rfl, g⟩
  have t0d1' : ((n5' : Int) == 0) = false := by rw [beq_eq_false_iff_ne]; have := mt HZ.out.1 d1'; omega
  have t1d1' : (n5' == 0) = false := by rw [beq_eq_false_iff_ne]; have := mt HZ.out.1 d1'; omega
  clear HZ
  go_wp2_with fail
  refine (HN.out.2.1 _ g).mono ?_; rintro e w' ⟨nv, ns, rfl, hr, hn, hwl, hlen, hb⟩
  obtain ⟨A5, k5, rfl⟩ := hr.len
  obtain ⟨n5', e5⟩ : ∃ n, ns.length = n := ⟨_, rfl⟩
  have hz := hwl.zero_iff hr.1
  rw [e5, hn] at hz
  rw [e5]
  have HZ := hide hz
  clear hr hn hwl hlen hz e5
  have x0 := keep_cell hb zx x0
  have x1 := keep_cell hb zx x1
  have y0 := keep_cell hb zy y0
  have y1 := keep_cell hb zy y1
  have p0 := keep_cell hb zp p0
  have p1 := keep_cell hb zp p1
  have p2 := keep_cell hb zp p2
  have q0 := keep_cell hb zq q0
  have q1 := keep_cell hb zq q1
  have q2 := keep_cell hb zq q2
  have zx := Nat.lt_of_lt_of_le zx hb.size
  have zy := Nat.lt_of_lt_of_le zy hb.size
  have zp := Nat.lt_of_lt_of_le zp hb.size
  have zq := Nat.lt_of_lt_of_le zq hb.size
  have g := (by first | exact bch g hb | exact bch g.drew hb)
  clear hb
  by_cases d2' : Vg.nat32 yt = 0
  · have h5 := HZ.out.2 d2'
    have t0 : ((n5' : Int) == 0) = true := by rw [beq_iff_eq]; omega
    have t1 : (n5' == 0) = true := by rw [beq_iff_eq]; omega
    subst h5
    clear HZ HK HM HN FA d2'
    go_wp2
    go_ret
    exact ⟨rfl, g⟩
  have t0d2' : ((n5' : Int) == 0) = false := by rw [beq_eq_false_iff_ne]; have := mt HZ.out.1 d2'; omega
  have t1d2' : (n5' == 0) = false := by rw [beq_eq_false_iff_ne]; have := mt HZ.out.1 d2'; omega
  clear HZ
  have hQ : 0 < Vg.nat32 ys := by omega
  have hP : 0 < Vg.nat32 yt := by omega
  clear d1' d2'
  have K1 := HK.out.1 hQ
  have K2 := HK.out.2.1 hP
  have K3 := HK.out.2.2.1 hQ
  have K4 := HK.out.2.2.2 hP
  have HQP := hide (show _ ∧ _ from ⟨hQ, hP⟩)
  clear HK hQ hP
  go_wp2_with fail
  refine (K1 _ g).mono ?_; rintro e w' ⟨rfl, hb⟩
  have x0 := keep_cell hb zx x0
  have x1 := keep_cell hb zx x1
  have y0 := keep_cell hb zy y0
  have y1 := keep_cell hb zy y1
  have p0 := keep_cell hb zp p0
  have p1 := keep_cell hb zp p1
  have p2 := keep_cell hb zp p2
  have q0 := keep_cell hb zq q0
  have q1 := keep_cell hb zq q1
  have q2 := keep_cell hb zq q2
  have zx := Nat.lt_of_lt_of_le zx hb.size
  have zy := Nat.lt_of_lt_of_le zy hb.size
  have zp := Nat.lt_of_lt_of_le zp hb.size
  have zq := Nat.lt_of_lt_of_le zq hb.size
  have g := (by first | exact bch g hb | exact bch g.drew hb)
  clear hb
  by_cases e1 : o1 = false
  · subst e1
    clear HM HN FA HQP K3 K4
    go_wp2
    go_ret
    exact ⟨rfl, g⟩
  obtain rfl : o1 = true := by cases o1; exact absurd rfl e1; rfl
  clear e1 K1
  go_wp2_with fail
  refine (K2 _ g).mono ?_; rintro e w' ⟨rfl, hb⟩
  have x0 := keep_cell hb zx x0
  have x1 := keep_cell hb zx x1
  have y0 := keep_cell hb zy y0
  have y1 := keep_cell hb zy y1
  have p0 := keep_cell hb zp p0
  have p1 := keep_cell hb zp p1
  have p2 := keep_cell hb zp p2
  have q0 := keep_cell hb zq q0
  have q1 := keep_cell hb zq q1
  have q2 := keep_cell hb zq q2
  have zx := Nat.lt_of_lt_of_le zx hb.size
  have zy := Nat.lt_of_lt_of_le zy hb.size
  have zp := Nat.lt_of_lt_of_le zp hb.size
  have zq := Nat.lt_of_lt_of_le zq hb.size
  have g := (by first | exact bch g hb | exact bch g.drew hb)
  clear hb
  by_cases e2 : o2 = false
  · subst e2
    clear HM HN FA HQP K3 K4
    go_wp2
    go_ret
    exact ⟨rfl, g⟩
  obtain rfl : o2 = true := by cases o2; exact absurd rfl e2; rfl
  clear e2 K2
  have FC := hide (FA.out HQP.out.1 HQP.out.2 rfl rfl)
  clear FA HQP
  go_wp2_with fail
  refine (HN.out.2.2 _ g).mono ?_; rintro e w' ⟨rfl, hb⟩
  have x0 := keep_cell hb zx x0
  have x1 := keep_cell hb zx x1
  have y0 := keep_cell hb zy y0
  have y1 := keep_cell hb zy y1
  have p0 := keep_cell hb zp p0
  have p1 := keep_cell hb zp p1
  have p2 := keep_cell hb zp p2
  have q0 := keep_cell hb zq q0
  have q1 := keep_cell hb zq q1
  have q2 := keep_cell hb zq q2
  have zx := Nat.lt_of_lt_of_le zx hb.size
  have zy := Nat.lt_of_lt_of_le zy hb.size
  have zp := Nat.lt_of_lt_of_le zp hb.size
  have zq := Nat.lt_of_lt_of_le zq hb.size
  have g := (by first | exact bch g hb | exact bch g.drew hb)
  clear hb
  clear HN
  go_upto_region 6 with fail
  go_cut [10] (fun v wx => ∃ GA : Nat, v = .pointer (some ⟨GA, 0, none⟩) ∧ wx.cell? ⟨GA, 0, none⟩ = some (.float .f64 X0) ∧ wx.cell? ⟨GA, 1, none⟩ = some (.float .f64 Y0) ∧ GA < wx.heap.size ∧ wx.cell? ⟨w.heap.size, 0, none⟩ = some (.int .u64 (X0 : Int)) ∧ wx.cell? ⟨w.heap.size, 1, none⟩ = some (.int .u64 (Y0 : Int)) ∧ w.heap.size < wx.heap.size ∧ wx.cell? ⟨w.heap.size + 1, 0, none⟩ = some (.int .u64 (X1 : Int)) ∧ wx.cell? ⟨w.heap.size + 1, 1, none⟩ = some (.int .u64 (Y1 : Int)) ∧ w.heap.size + 1 < wx.heap.size ∧ wx.cell? ⟨w.heap.size + 2, 0, none⟩ = some (.bool sp) ∧ wx.cell? ⟨w.heap.size + 2, 1, none⟩ = some (.slice V1 l1 d1) ∧ wx.cell? ⟨w.heap.size + 2, 2, none⟩ = some (.slice V2 l2 d2) ∧ w.heap.size + 2 < wx.heap.size ∧ wx.cell? ⟨w.heap.size + 3, 0, none⟩ = some (.bool sq) ∧ wx.cell? ⟨w.heap.size + 3, 1, none⟩ = some (.slice V3 l3 d3) ∧ wx.cell? ⟨w.heap.size + 3, 2, none⟩ = some (.slice V4 l4 d4) ∧ w.heap.size + 3 < wx.heap.size ∧ Below w.heap.size w wx)
  case first =>
    go_wp2_with fail
    refine (N0 _).mono ?_; rintro e w' ⟨rfl, hb⟩
    have x0 := keep_cell hb zx x0
    have x1 := keep_cell hb zx x1
    have y0 := keep_cell hb zy y0
    have y1 := keep_cell hb zy y1
    have p0 := keep_cell hb zp p0
    have p1 := keep_cell hb zp p1
    have p2 := keep_cell hb zp p2
    have q0 := keep_cell hb zq q0
    have q1 := keep_cell hb zq q1
    have q2 := keep_cell hb zq q2
    have zx := Nat.lt_of_lt_of_le zx hb.size
    have zy := Nat.lt_of_lt_of_le zy hb.size
    have zp := Nat.lt_of_lt_of_le zp hb.size
    have zq := Nat.lt_of_lt_of_le zq hb.size
    have g := (by first | exact bch g hb | exact bch g.drew hb)
    clear hb
    go_wp2_with fail
    go_meet
    refine ⟨_, rfl, ?_⟩
    (repeat' apply And.intro) <;> first | exact keep_cell b_one (by dsimp only <;> omega) (by assumption) | assumption | (simp [go_sem, *]; done) | exact g.alloc g.size _ | (simp; omega) | (simp [*]; done)
  case rest =>
  clear x0 x1 zx y0 y1 zy p0 p1 p2 zp q0 q1 q2 zq g
  obtain ⟨GA, rfl, a0, a1, za, x0, x1, zx, y0, y1, zy, p0, p1, p2, zp, q0, q1, q2, zq, g⟩ := hcut
  go_upto_region 7 with fail
  go_cut [11] (fun v wx => ∃ GB : Nat, v = .pointer (some ⟨GB, 0, none⟩) ∧ wx.cell? ⟨GB, 0, none⟩ = some (.float .f64 X1) ∧ wx.cell? ⟨GB, 1, none⟩ = some (.float .f64 Y1) ∧ GB < wx.heap.size ∧ wx.cell? ⟨GA, 0, none⟩ = some (.float .f64 X0) ∧ wx.cell? ⟨GA, 1, none⟩ = some (.float .f64 Y0) ∧ GA < wx.heap.size ∧ wx.cell? ⟨w.heap.size, 0, none⟩ = some (.int .u64 (X0 : Int)) ∧ wx.cell? ⟨w.heap.size, 1, none⟩ = some (.int .u64 (Y0 : Int)) ∧ w.heap.size < wx.heap.size ∧ wx.cell? ⟨w.heap.size + 1, 0, none⟩ = some (.int .u64 (X1 : Int)) ∧ wx.cell? ⟨w.heap.size + 1, 1, none⟩ = some (.int .u64 (Y1 : Int)) ∧ w.heap.size + 1 < wx.heap.size ∧ wx.cell? ⟨w.heap.size + 2, 0, none⟩ = some (.bool sp) ∧ wx.cell? ⟨w.heap.size + 2, 1, none⟩ = some (.slice V1 l1 d1) ∧ wx.cell? ⟨w.heap.size + 2, 2, none⟩ = some (.slice V2 l2 d2) ∧ w.heap.size + 2 < wx.heap.size ∧ wx.cell? ⟨w.heap.size + 3, 0, none⟩ = some (.bool sq) ∧ wx.cell? ⟨w.heap.size + 3, 1, none⟩ = some (.slice V3 l3 d3) ∧ wx.cell? ⟨w.heap.size + 3, 2, none⟩ = some (.slice V4 l4 d4) ∧ w.heap.size + 3 < wx.heap.size ∧ Below w.heap.size w wx)
  case first =>
    go_wp2_with fail
    refine (N1 _).mono ?_; rintro e w' ⟨rfl, hb⟩
    have a0 := keep_cell hb za a0
    have a1 := keep_cell hb za a1
    have x0 := keep_cell hb zx x0
    have x1 := keep_cell hb zx x1
    have y0 := keep_cell hb zy y0
    have y1 := keep_cell hb zy y1
    have p0 := keep_cell hb zp p0
    have p1 := keep_cell hb zp p1
    have p2 := keep_cell hb zp p2
    have q0 := keep_cell hb zq q0
    have q1 := keep_cell hb zq q1
    have q2 := keep_cell hb zq q2
    have za := Nat.lt_of_lt_of_le za hb.size
    have zx := Nat.lt_of_lt_of_le zx hb.size
    have zy := Nat.lt_of_lt_of_le zy hb.size
    have zp := Nat.lt_of_lt_of_le zp hb.size
    have zq := Nat.lt_of_lt_of_le zq hb.size
    have g := (by first | exact bch g hb | exact bch g.drew hb)
    clear hb
    go_wp2_with fail
    go_meet
    refine ⟨_, rfl, ?_⟩
    (repeat' apply And.intro) <;> first | exact keep_cell b_one (by dsimp only <;> omega) (by assumption) | assumption | (simp [go_sem, *]; done) | exact g.alloc g.size _ | (simp; omega) | (simp [*]; done)
  case rest =>
  clear a0 a1 za x0 x1 zx y0 y1 zy p0 p1 p2 zp q0 q1 q2 zq g
  obtain ⟨GB, rfl, b0, b1, zb, a0, a1, za, x0, x1, zx, y0, y1, zy, p0, p1, p2, zp, q0, q1, q2, zq, g⟩ := hcut
  clear N0 N1 hst
  go_upto_region 8 with fail
  go_cut [69] (fun v wx => v = .bool false ∧ wx.cell? ⟨GB, 0, none⟩ = some (.float .f64 X1) ∧ wx.cell? ⟨GB, 1, none⟩ = some (.float .f64 Y1) ∧ GB < wx.heap.size ∧ wx.cell? ⟨GA, 0, none⟩ = some (.float .f64 X0) ∧ wx.cell? ⟨GA, 1, none⟩ = some (.float .f64 Y0) ∧ GA < wx.heap.size ∧ wx.cell? ⟨w.heap.size, 0, none⟩ = some (.int .u64 (X0 : Int)) ∧ wx.cell? ⟨w.heap.size, 1, none⟩ = some (.int .u64 (Y0 : Int)) ∧ w.heap.size < wx.heap.size ∧ wx.cell? ⟨w.heap.size + 1, 0, none⟩ = some (.int .u64 (X1 : Int)) ∧ wx.cell? ⟨w.heap.size + 1, 1, none⟩ = some (.int .u64 (Y1 : Int)) ∧ w.heap.size + 1 < wx.heap.size ∧ wx.cell? ⟨w.heap.size + 2, 0, none⟩ = some (.bool sp) ∧ wx.cell? ⟨w.heap.size + 2, 1, none⟩ = some (.slice V1 l1 d1) ∧ wx.cell? ⟨w.heap.size + 2, 2, none⟩ = some (.slice V2 l2 d2) ∧ w.heap.size + 2 < wx.heap.size ∧ wx.cell? ⟨w.heap.size + 3, 0, none⟩ = some (.bool sq) ∧ wx.cell? ⟨w.heap.size + 3, 1, none⟩ = some (.slice V3 l3 d3) ∧ wx.cell? ⟨w.heap.size + 3, 2, none⟩ = some (.slice V4 l4 d4) ∧ w.heap.size + 3 < wx.heap.size ∧ Below w.heap.size w wx)
  case first =>
    as_aux_lemma =>
    clear K3 K4
    go_wp2_with fail
    refine (HM.out.1 _).mono ?_; rintro e w' ⟨rfl, hb⟩
    have b0 := keep_cell hb zb b0
    have b1 := keep_cell hb zb b1
    have a0 := keep_cell hb za a0
    have a1 := keep_cell hb za a1
    have x0 := keep_cell hb zx x0
    have x1 := keep_cell hb zx x1
    have y0 := keep_cell hb zy y0
    have y1 := keep_cell hb zy y1
    have p0 := keep_cell hb zp p0
    have p1 := keep_cell hb zp p1
    have p2 := keep_cell hb zp p2
    have q0 := keep_cell hb zq q0
    have q1 := keep_cell hb zq q1
    have q2 := keep_cell hb zq q2
    have zb := Nat.lt_of_lt_of_le zb hb.size
    have za := Nat.lt_of_lt_of_le za hb.size
    have zx := Nat.lt_of_lt_of_le zx hb.size
    have zy := Nat.lt_of_lt_of_le zy hb.size
    have zp := Nat.lt_of_lt_of_le zp hb.size
    have zq := Nat.lt_of_lt_of_le zq hb.size
    have g := (by first | exact bch g hb | exact bch g.drew hb)
    clear hb
    cases n1
    · go_wp2_with fail
      refine (HM.out.2.1 _).mono ?_; rintro e w' ⟨rfl, hb⟩
      have b0 := keep_cell hb zb b0
      have b1 := keep_cell hb zb b1
      have a0 := keep_cell hb za a0
      have a1 := keep_cell hb za a1
      have x0 := keep_cell hb zx x0
      have x1 := keep_cell hb zx x1
      have y0 := keep_cell hb zy y0
      have y1 := keep_cell hb zy y1
      have p0 := keep_cell hb zp p0
      have p1 := keep_cell hb zp p1
      have p2 := keep_cell hb zp p2
      have q0 := keep_cell hb zq q0
      have q1 := keep_cell hb zq q1
      have q2 := keep_cell hb zq q2
      have zb := Nat.lt_of_lt_of_le zb hb.size
      have za := Nat.lt_of_lt_of_le za hb.size
      have zx := Nat.lt_of_lt_of_le zx hb.size
      have zy := Nat.lt_of_lt_of_le zy hb.size
      have zp := Nat.lt_of_lt_of_le zp hb.size
      have zq := Nat.lt_of_lt_of_le zq hb.size
      have g := (by first | exact bch g hb | exact bch g.drew hb)
      clear hb
      cases n2
      · go_wp2_with fail
        refine (HM.out.2.2.1 _).mono ?_; rintro e w' ⟨rfl, hb⟩
        have b0 := keep_cell hb zb b0
        have b1 := keep_cell hb zb b1
        have a0 := keep_cell hb za a0
        have a1 := keep_cell hb za a1
        have x0 := keep_cell hb zx x0
        have x1 := keep_cell hb zx x1
        have y0 := keep_cell hb zy y0
        have y1 := keep_cell hb zy y1
        have p0 := keep_cell hb zp p0
        have p1 := keep_cell hb zp p1
        have p2 := keep_cell hb zp p2
        have q0 := keep_cell hb zq q0
        have q1 := keep_cell hb zq q1
        have q2 := keep_cell hb zq q2
        have zb := Nat.lt_of_lt_of_le zb hb.size
        have za := Nat.lt_of_lt_of_le za hb.size
        have zx := Nat.lt_of_lt_of_le zx hb.size
        have zy := Nat.lt_of_lt_of_le zy hb.size
        have zp := Nat.lt_of_lt_of_le zp hb.size
        have zq := Nat.lt_of_lt_of_le zq hb.size
        have g := (by first | exact bch g hb | exact bch g.drew hb)
        clear hb
        cases n3
        · go_wp2_with fail
          go_meet
          refine ⟨rfl, ?_⟩
          (repeat' apply And.intro) <;> assumption
        · have tc : (c == 0) = false := by rw [beq_eq_false_iff_ne]; exact FC.out.2.2.1 rfl
          go_wp2_with fail
          go_meet
          refine ⟨rfl, ?_⟩
          (repeat' apply And.intro) <;> assumption
      · have tb : decide ((0 : Int) ≤ c) = false := decide_eq_false (FC.out.2.1 rfl)
        go_wp2_with fail
        refine (HM.out.2.2.1 _).mono ?_; rintro e w' ⟨rfl, hb⟩
        have b0 := keep_cell hb zb b0
        have b1 := keep_cell hb zb b1
        have a0 := keep_cell hb za a0
        have a1 := keep_cell hb za a1
        have x0 := keep_cell hb zx x0
        have x1 := keep_cell hb zx x1
        have y0 := keep_cell hb zy y0
        have y1 := keep_cell hb zy y1
        have p0 := keep_cell hb zp p0
        have p1 := keep_cell hb zp p1
        have p2 := keep_cell hb zp p2
        have q0 := keep_cell hb zq q0
        have q1 := keep_cell hb zq q1
        have q2 := keep_cell hb zq q2
        have zb := Nat.lt_of_lt_of_le zb hb.size
        have za := Nat.lt_of_lt_of_le za hb.size
        have zx := Nat.lt_of_lt_of_le zx hb.size
        have zy := Nat.lt_of_lt_of_le zy hb.size
        have zp := Nat.lt_of_lt_of_le zp hb.size
        have zq := Nat.lt_of_lt_of_le zq hb.size
        have g := (by first | exact bch g hb | exact bch g.drew hb)
        clear hb
        cases n3
        · go_wp2_with fail
          go_meet
          refine ⟨rfl, ?_⟩
          (repeat' apply And.intro) <;> assumption
        · have tc : (c == 0) = false := by rw [beq_eq_false_iff_ne]; exact FC.out.2.2.1 rfl
          go_wp2_with fail
          go_meet
          refine ⟨rfl, ?_⟩
          (repeat' apply And.intro) <;> assumption
    · have ta : decide ((0 : Int) < c) = false := decide_eq_false (FC.out.1 rfl)
      go_wp2_with fail
      refine (HM.out.2.1 _).mono ?_; rintro e w' ⟨rfl, hb⟩
      have b0 := keep_cell hb zb b0
      have b1 := keep_cell hb zb b1
      have a0 := keep_cell hb za a0
      have a1 := keep_cell hb za a1
      have x0 := keep_cell hb zx x0
      have x1 := keep_cell hb zx x1
      have y0 := keep_cell hb zy y0
      have y1 := keep_cell hb zy y1
      have p0 := keep_cell hb zp p0
      have p1 := keep_cell hb zp p1
      have p2 := keep_cell hb zp p2
      have q0 := keep_cell hb zq q0
      have q1 := keep_cell hb zq q1
      have q2 := keep_cell hb zq q2
      have zb := Nat.lt_of_lt_of_le zb hb.size
      have za := Nat.lt_of_lt_of_le za hb.size
      have zx := Nat.lt_of_lt_of_le zx hb.size
      have zy := Nat.lt_of_lt_of_le zy hb.size
      have zp := Nat.lt_of_lt_of_le zp hb.size
      have zq := Nat.lt_of_lt_of_le zq hb.size
      have g := (by first | exact bch g hb | exact bch g.drew hb)
      clear hb
      cases n2
      · go_wp2_with fail
        refine (HM.out.2.2.1 _).mono ?_; rintro e w' ⟨rfl, hb⟩
        have b0 := keep_cell hb zb b0
        have b1 := keep_cell hb zb b1
        have a0 := keep_cell hb za a0
        have a1 := keep_cell hb za a1
        have x0 := keep_cell hb zx x0
        have x1 := keep_cell hb zx x1
        have y0 := keep_cell hb zy y0
        have y1 := keep_cell hb zy y1
        have p0 := keep_cell hb zp p0
        have p1 := keep_cell hb zp p1
        have p2 := keep_cell hb zp p2
        have q0 := keep_cell hb zq q0
        have q1 := keep_cell hb zq q1
        have q2 := keep_cell hb zq q2
        have zb := Nat.lt_of_lt_of_le zb hb.size
        have za := Nat.lt_of_lt_of_le za hb.size
        have zx := Nat.lt_of_lt_of_le zx hb.size
        have zy := Nat.lt_of_lt_of_le zy hb.size
        have zp := Nat.lt_of_lt_of_le zp hb.size
        have zq := Nat.lt_of_lt_of_le zq hb.size
        have g := (by first | exact bch g hb | exact bch g.drew hb)
        clear hb
        cases n3
        · go_wp2_with fail
          go_meet
          refine ⟨rfl, ?_⟩
          (repeat' apply And.intro) <;> assumption
        · have tc : (c == 0) = false := by rw [beq_eq_false_iff_ne]; exact FC.out.2.2.1 rfl
          go_wp2_with fail
          go_meet
          refine ⟨rfl, ?_⟩
          (repeat' apply And.intro) <;> assumption
      · have tb : decide ((0 : Int) ≤ c) = false := decide_eq_false (FC.out.2.1 rfl)
        go_wp2_with fail
        refine (HM.out.2.2.1 _).mono ?_; rintro e w' ⟨rfl, hb⟩
        have b0 := keep_cell hb zb b0
        have b1 := keep_cell hb zb b1
        have a0 := keep_cell hb za a0
        have a1 := keep_cell hb za a1
        have x0 := keep_cell hb zx x0
        have x1 := keep_cell hb zx x1
        have y0 := keep_cell hb zy y0
        have y1 := keep_cell hb zy y1
        have p0 := keep_cell hb zp p0
        have p1 := keep_cell hb zp p1
        have p2 := keep_cell hb zp p2
        have q0 := keep_cell hb zq q0
        have q1 := keep_cell hb zq q1
        have q2 := keep_cell hb zq q2
        have zb := Nat.lt_of_lt_of_le zb hb.size
        have za := Nat.lt_of_lt_of_le za hb.size
        have zx := Nat.lt_of_lt_of_le zx hb.size
        have zy := Nat.lt_of_lt_of_le zy hb.size
        have zp := Nat.lt_of_lt_of_le zp hb.size
        have zq := Nat.lt_of_lt_of_le zq hb.size
        have g := (by first | exact bch g hb | exact bch g.drew hb)
        clear hb
        cases n3
        · go_wp2_with fail
          go_meet
          refine ⟨rfl, ?_⟩
          (repeat' apply And.intro) <;> assumption
        · have tc : (c == 0) = false := by rw [beq_eq_false_iff_ne]; exact FC.out.2.2.1 rfl
          go_wp2_with fail
          go_meet
          refine ⟨rfl, ?_⟩
          (repeat' apply And.intro) <;> assumption
  case rest =>
  clear b0 b1 zb a0 a1 za x0 x1 zx y0 y1 zy p0 p1 p2 zp q0 q1 q2 zq g
  obtain ⟨rfl, b0, b1, zb, a0, a1, za, x0, x1, zx, y0, y1, zy, p0, p1, p2, zp, q0, q1, q2, zq, g⟩ := hcut
  go_upto_region 10 with fail
  go_cut [88] (fun v wx => v = .bool false ∧ wx.cell? ⟨GB, 0, none⟩ = some (.float .f64 X1) ∧ wx.cell? ⟨GB, 1, none⟩ = some (.float .f64 Y1) ∧ GB < wx.heap.size ∧ wx.cell? ⟨GA, 0, none⟩ = some (.float .f64 X0) ∧ wx.cell? ⟨GA, 1, none⟩ = some (.float .f64 Y0) ∧ GA < wx.heap.size ∧ wx.cell? ⟨w.heap.size, 0, none⟩ = some (.int .u64 (X0 : Int)) ∧ wx.cell? ⟨w.heap.size, 1, none⟩ = some (.int .u64 (Y0 : Int)) ∧ w.heap.size < wx.heap.size ∧ wx.cell? ⟨w.heap.size + 1, 0, none⟩ = some (.int .u64 (X1 : Int)) ∧ wx.cell? ⟨w.heap.size + 1, 1, none⟩ = some (.int .u64 (Y1 : Int)) ∧ w.heap.size + 1 < wx.heap.size ∧ wx.cell? ⟨w.heap.size + 2, 0, none⟩ = some (.bool sp) ∧ wx.cell? ⟨w.heap.size + 2, 1, none⟩ = some (.slice V1 l1 d1) ∧ wx.cell? ⟨w.heap.size + 2, 2, none⟩ = some (.slice V2 l2 d2) ∧ w.heap.size + 2 < wx.heap.size ∧ wx.cell? ⟨w.heap.size + 3, 0, none⟩ = some (.bool sq) ∧ wx.cell? ⟨w.heap.size + 3, 1, none⟩ = some (.slice V3 l3 d3) ∧ wx.cell? ⟨w.heap.size + 3, 2, none⟩ = some (.slice V4 l4 d4) ∧ w.heap.size + 3 < wx.heap.size ∧ Below w.heap.size w wx)
  case first =>
    as_aux_lemma =>
    clear K4
    go_wp2_with fail
    refine (HM.out.2.2.2.1 _).mono ?_; rintro e w' ⟨rfl, hb⟩
    have b0 := keep_cell hb zb b0
    have b1 := keep_cell hb zb b1
    have a0 := keep_cell hb za a0
    have a1 := keep_cell hb za a1
    have x0 := keep_cell hb zx x0
    have x1 := keep_cell hb zx x1
    have y0 := keep_cell hb zy y0
    have y1 := keep_cell hb zy y1
    have p0 := keep_cell hb zp p0
    have p1 := keep_cell hb zp p1
    have p2 := keep_cell hb zp p2
    have q0 := keep_cell hb zq q0
    have q1 := keep_cell hb zq q1
    have q2 := keep_cell hb zq q2
    have zb := Nat.lt_of_lt_of_le zb hb.size
    have za := Nat.lt_of_lt_of_le za hb.size
    have zx := Nat.lt_of_lt_of_le zx hb.size
    have zy := Nat.lt_of_lt_of_le zy hb.size
    have zp := Nat.lt_of_lt_of_le zp hb.size
    have zq := Nat.lt_of_lt_of_le zq hb.size
    have g := (by first | exact bch g hb | exact bch g.drew hb)
    clear hb
    cases n4
    · go_wp2_with fail
      refine (HM.out.2.2.2.2.1 _).mono ?_; rintro e w' ⟨rfl, hb⟩
      have b0 := keep_cell hb zb b0
      have b1 := keep_cell hb zb b1
      have a0 := keep_cell hb za a0
      have a1 := keep_cell hb za a1
      have x0 := keep_cell hb zx x0
      have x1 := keep_cell hb zx x1
      have y0 := keep_cell hb zy y0
      have y1 := keep_cell hb zy y1
      have p0 := keep_cell hb zp p0
      have p1 := keep_cell hb zp p1
      have p2 := keep_cell hb zp p2
      have q0 := keep_cell hb zq q0
      have q1 := keep_cell hb zq q1
      have q2 := keep_cell hb zq q2
      have zb := Nat.lt_of_lt_of_le zb hb.size
      have za := Nat.lt_of_lt_of_le za hb.size
      have zx := Nat.lt_of_lt_of_le zx hb.size
      have zy := Nat.lt_of_lt_of_le zy hb.size
      have zp := Nat.lt_of_lt_of_le zp hb.size
      have zq := Nat.lt_of_lt_of_le zq hb.size
      have g := (by first | exact bch g hb | exact bch g.drew hb)
      clear hb
      cases n5
      · go_wp2_with fail
        refine (HM.out.2.2.2.2.2 _).mono ?_; rintro e w' ⟨rfl, hb⟩
        have b0 := keep_cell hb zb b0
        have b1 := keep_cell hb zb b1
        have a0 := keep_cell hb za a0
        have a1 := keep_cell hb za a1
        have x0 := keep_cell hb zx x0
        have x1 := keep_cell hb zx x1
        have y0 := keep_cell hb zy y0
        have y1 := keep_cell hb zy y1
        have p0 := keep_cell hb zp p0
        have p1 := keep_cell hb zp p1
        have p2 := keep_cell hb zp p2
        have q0 := keep_cell hb zq q0
        have q1 := keep_cell hb zq q1
        have q2 := keep_cell hb zq q2
        have zb := Nat.lt_of_lt_of_le zb hb.size
        have za := Nat.lt_of_lt_of_le za hb.size
        have zx := Nat.lt_of_lt_of_le zx hb.size
        have zy := Nat.lt_of_lt_of_le zy hb.size
        have zp := Nat.lt_of_lt_of_le zp hb.size
        have zq := Nat.lt_of_lt_of_le zq hb.size
        have g := (by first | exact bch g hb | exact bch g.drew hb)
        clear hb
        cases n6
        · go_wp2_with fail
          go_meet
          refine ⟨rfl, ?_⟩
          (repeat' apply And.intro) <;> assumption
        · obtain rfl : o3 = true := FC.out.2.2.2.2.2.1 rfl
          go_wp2_with fail
          refine (K3 _ g).mono ?_; rintro e w' ⟨rfl, hb⟩
          have b0 := keep_cell hb zb b0
          have b1 := keep_cell hb zb b1
          have a0 := keep_cell hb za a0
          have a1 := keep_cell hb za a1
          have x0 := keep_cell hb zx x0
          have x1 := keep_cell hb zx x1
          have y0 := keep_cell hb zy y0
          have y1 := keep_cell hb zy y1
          have p0 := keep_cell hb zp p0
          have p1 := keep_cell hb zp p1
          have p2 := keep_cell hb zp p2
          have q0 := keep_cell hb zq q0
          have q1 := keep_cell hb zq q1
          have q2 := keep_cell hb zq q2
          have zb := Nat.lt_of_lt_of_le zb hb.size
          have za := Nat.lt_of_lt_of_le za hb.size
          have zx := Nat.lt_of_lt_of_le zx hb.size
          have zy := Nat.lt_of_lt_of_le zy hb.size
          have zp := Nat.lt_of_lt_of_le zp hb.size
          have zq := Nat.lt_of_lt_of_le zq hb.size
          have g := (by first | exact bch g hb | exact bch g.drew hb)
          clear hb
          go_wp2_with fail
          go_meet
          refine ⟨rfl, ?_⟩
          (repeat' apply And.intro) <;> assumption
      · obtain rfl : o3 = true := FC.out.2.2.2.2.1 rfl
        go_wp2_with fail
        refine (K3 _ g).mono ?_; rintro e w' ⟨rfl, hb⟩
        have b0 := keep_cell hb zb b0
        have b1 := keep_cell hb zb b1
        have a0 := keep_cell hb za a0
        have a1 := keep_cell hb za a1
        have x0 := keep_cell hb zx x0
        have x1 := keep_cell hb zx x1
        have y0 := keep_cell hb zy y0
        have y1 := keep_cell hb zy y1
        have p0 := keep_cell hb zp p0
        have p1 := keep_cell hb zp p1
        have p2 := keep_cell hb zp p2
        have q0 := keep_cell hb zq q0
        have q1 := keep_cell hb zq q1
        have q2 := keep_cell hb zq q2
        have zb := Nat.lt_of_lt_of_le zb hb.size
        have za := Nat.lt_of_lt_of_le za hb.size
        have zx := Nat.lt_of_lt_of_le zx hb.size
        have zy := Nat.lt_of_lt_of_le zy hb.size
        have zp := Nat.lt_of_lt_of_le zp hb.size
        have zq := Nat.lt_of_lt_of_le zq hb.size
        have g := (by first | exact bch g hb | exact bch g.drew hb)
        clear hb
        go_wp2_with fail
        go_meet
        refine ⟨rfl, ?_⟩
        (repeat' apply And.intro) <;> assumption
    · obtain rfl : o3 = true := FC.out.2.2.2.1 rfl
      go_wp2_with fail
      refine (K3 _ g).mono ?_; rintro e w' ⟨rfl, hb⟩
      have b0 := keep_cell hb zb b0
      have b1 := keep_cell hb zb b1
      have a0 := keep_cell hb za a0
      have a1 := keep_cell hb za a1
      have x0 := keep_cell hb zx x0
      have x1 := keep_cell hb zx x1
      have y0 := keep_cell hb zy y0
      have y1 := keep_cell hb zy y1
      have p0 := keep_cell hb zp p0
      have p1 := keep_cell hb zp p1
      have p2 := keep_cell hb zp p2
      have q0 := keep_cell hb zq q0
      have q1 := keep_cell hb zq q1
      have q2 := keep_cell hb zq q2
      have zb := Nat.lt_of_lt_of_le zb hb.size
      have za := Nat.lt_of_lt_of_le za hb.size
      have zx := Nat.lt_of_lt_of_le zx hb.size
      have zy := Nat.lt_of_lt_of_le zy hb.size
      have zp := Nat.lt_of_lt_of_le zp hb.size
      have zq := Nat.lt_of_lt_of_le zq hb.size
      have g := (by first | exact bch g hb | exact bch g.drew hb)
      clear hb
      go_wp2_with fail
      go_meet
      refine ⟨rfl, ?_⟩
      (repeat' apply And.intro) <;> assumption
  case rest =>
  clear K3 b0 b1 zb a0 a1 za x0 x1 zx y0 y1 zy p0 p1 p2 zp q0 q1 q2 zq g
  obtain ⟨rfl, b0, b1, zb, a0, a1, za, x0, x1, zx, y0, y1, zy, p0, p1, p2, zp, q0, q1, q2, zq, g⟩ := hcut
  go_wp2_with fail
  refine (HM.out.2.2.2.2.1 _).mono ?_; rintro e w' ⟨rfl, hb⟩
  have b0 := keep_cell hb zb b0
  have b1 := keep_cell hb zb b1
  have a0 := keep_cell hb za a0
  have a1 := keep_cell hb za a1
  have x0 := keep_cell hb zx x0
  have x1 := keep_cell hb zx x1
  have y0 := keep_cell hb zy y0
  have y1 := keep_cell hb zy y1
  have p0 := keep_cell hb zp p0
  have p1 := keep_cell hb zp p1
  have p2 := keep_cell hb zp p2
  have q0 := keep_cell hb zq q0
  have q1 := keep_cell hb zq q1
  have q2 := keep_cell hb zq q2
  have zb := Nat.lt_of_lt_of_le zb hb.size
  have za := Nat.lt_of_lt_of_le za hb.size
  have zx := Nat.lt_of_lt_of_le zx hb.size
  have zy := Nat.lt_of_lt_of_le zy hb.size
  have zp := Nat.lt_of_lt_of_le zp hb.size
  have zq := Nat.lt_of_lt_of_le zq hb.size
  have g := (by first | exact bch g hb | exact bch g.drew hb)
  clear hb
  cases n5
  · clear HM FC K4
    go_wp2
    go_ret
    exact ⟨rfl, g⟩
  · obtain rfl : o4 = true := FC.out.2.2.2.2.2.2 rfl
    go_wp2_with fail
    refine (K4 _ g).mono ?_; rintro e w' ⟨rfl, hb⟩
    have b0 := keep_cell hb zb b0
    have b1 := keep_cell hb zb b1
    have a0 := keep_cell hb za a0
    have a1 := keep_cell hb za a1
    have x0 := keep_cell hb zx x0
    have x1 := keep_cell hb zx x1
    have y0 := keep_cell hb zy y0
    have y1 := keep_cell hb zy y1
    have p0 := keep_cell hb zp p0
    have p1 := keep_cell hb zp p1
    have p2 := keep_cell hb zp p2
    have q0 := keep_cell hb zq q0
    have q1 := keep_cell hb zq q1
    have q2 := keep_cell hb zq q2
    have zb := Nat.lt_of_lt_of_le zb hb.size
    have za := Nat.lt_of_lt_of_le za hb.size
    have zx := Nat.lt_of_lt_of_le zx hb.size
    have zy := Nat.lt_of_lt_of_le zy hb.size
    have zp := Nat.lt_of_lt_of_le zp hb.size
    have zq := Nat.lt_of_lt_of_le zq hb.size
    have g := (by first | exact bch g hb | exact bch g.drew hb)
    clear hb
    clear HM FC K4
    go_wp2
    go_ret
    exact ⟨rfl, g⟩

end Go.Proofs.Ytljnadoodbninaa.relTwo
