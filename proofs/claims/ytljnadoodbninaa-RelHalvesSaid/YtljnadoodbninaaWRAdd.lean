/- Contracts of the reference's sum and quotient of two ratios. -/
import Derived.Test.YtljnadoodbninaaWPlus
import Derived.Test.YtljnadoodbninaaWSet
namespace Vg
/-- The value of a sum of two ratios. -/
theorem sum_value {s1 s2 s : Bool} {n1 d1 n2 d2 Q N : Nat} {Z1 Z2 : Int} (h1 : zi s1 n1 * (Q : Int) = Z1 * (d1 : Int)) (h2 : zi s2 n2 * (Q : Int) = Z2 * (d2 : Int)) (h : zi s N = zi s1 (n1 * d2) + zi s2 (n2 * d1)) :
    zi s N * (Q : Int) = (Z1 + Z2) * ((d1 * d2 : Nat) : Int) := by
  rw [h, ← zi_mul, ← zi_mul, Int.add_mul, Int.add_mul, Int.natCast_mul, Int.mul_right_comm, h1, Int.mul_right_comm (zi s2 n2), h2, ← Int.mul_assoc, Int.mul_right_comm Z2 d2, Int.mul_assoc Z2]
theorem zi_add (s : Bool) (a b : Nat) : zi s (a + b) = zi s a + zi s b := by cases s <;> simp [zi] <;> omega
theorem zi_sub (s : Bool) {a b : Nat} (h : b ≤ a) : zi s (a - b) = zi s a + zi (!s) b := by cases s <;> simp [zi] <;> omega
/-- The value of a quotient by a ratio above nought. -/
theorem quo_value {s1 : Bool} {n1 d1 n2 d2 Q : Nat} {Z1 q : Nat} {Z : Int} (h1 : zi s1 n1 * (Q : Int) = Z * (d1 : Int)) (h2 : n2 * q = Z1 * d2) :
    zi s1 (n1 * d2) * ((Q * Z1 : Nat) : Int) = (Z * (q : Int)) * ((d1 * n2 : Nat) : Int) := by
  have e : ((n2 * q : Nat) : Int) = ((Z1 * d2 : Nat) : Int) := by rw [h2]
  rw [← zi_mul, Int.natCast_mul, Int.natCast_mul]
  calc zi s1 n1 * (d2 : Int) * ((Q : Int) * (Z1 : Int)) = (zi s1 n1 * (Q : Int)) * ((Z1 : Int) * (d2 : Int)) := by simp only [Int.mul_assoc, Int.mul_comm, Int.mul_left_comm]
    _ = (Z * (d1 : Int)) * ((n2 : Int) * (q : Int)) := by rw [h1, ← Int.natCast_mul, ← e, Int.natCast_mul]
    _ = _ := by simp only [Int.mul_assoc, Int.mul_comm, Int.mul_left_comm]
end Vg
namespace Go.Proofs.Ytljnadoodbninaa
open Go.RowKit
theorem wl_len {xs ys : List Nat} (hx : Vg.Wd xs) (kx : Vg.WL xs xs.length) (ky : Vg.WL ys ys.length) (h : Vg.nat32 ys ≤ Vg.nat32 xs) : ys.length ≤ xs.length := by
  refine Classical.byContradiction fun c => ?_
  have := kx.cmp ky hx (by omega)
  omega
set_option maxRecDepth 20000 in
set_option maxHeartbeats 8000000 in
theorem radd_any (a b : Value) (Z1 Z2 : Int) (Q B : Nat) (hB : B ≤ 1048576) (w : World) (ha : Rt w a Z1 Q B) (hb : Rt w b Z2 Q B) : Calls Try.prog 119 #[a, b] w (TRt (Z1 + Z2) Q (12 * B + 6) w) := by
  obtain ⟨s, A1, n1, c1, A2, n2, c2, xa, xb, rfl, h1, h2, h3, h4, h5, h6⟩ := ha
  obtain ⟨t, A3, n3, c3, A4, n4, c4, ya, yb, rfl, i1, i2, i3, i4, i5, i6⟩ := hb
  have T1 := fun (w' : World) (h : Below w.heap.size w w') => times_any _ _ xa yb w' (h1.keep h) (i2.keep h) (by omega)
  have T2 := fun (w' : World) (h : Below w.heap.size w w') => times_any _ _ ya xb w' (i1.keep h) (h2.keep h) (by omega)
  have T3 := fun (w' : World) (h : Below w.heap.size w w') => times_any _ _ xb yb w' (h2.keep h) (i2.keep h) (by omega)
  have VAL := hide (fun (s' : Bool) (N : Nat) (h : Vg.zi s' N = Vg.zi s (Vg.nat32 xa * Vg.nat32 yb) + Vg.zi t (Vg.nat32 ya * Vg.nat32 xb)) => Vg.sum_value h3 i3 h)
  obtain ⟨X, hX⟩ : ∃ n, Vg.nat32 xa * Vg.nat32 yb = n := ⟨_, rfl⟩
  obtain ⟨Y, hY⟩ : ∃ n, Vg.nat32 ya * Vg.nat32 xb = n := ⟨_, rfl⟩
  obtain ⟨D, hD⟩ : ∃ n, Vg.nat32 xb * Vg.nat32 yb = n := ⟨_, rfl⟩
  have hD0 : 0 < D := hD ▸ Nat.mul_pos h4 i4
  rw [hX] at T1 VAL
  rw [hY] at T2 VAL
  rw [hD] at T3 VAL
  have HB := hide (show B ≤ 1048576 ∧ xa.length ≤ B ∧ xb.length ≤ B ∧ ya.length ≤ B ∧ yb.length ≤ B ∧ 0 < D from ⟨hB, h5, h6, i5, i6, hD0⟩)
  clear h1 h2 h3 h4 h5 h6 i1 i2 i3 i4 i5 i6 hX hY hD hB hD0
  have NB : Hid (Bx (((w.alloc (.cells #[.bool s, .slice A1 n1 c1, .slice A2 n2 c2] 45)).alloc (.cells #[.bool t, .slice A3 n3 c3, .slice A4 n4 c4] 45)).alloc (.cells #[.bool false, .slice none 0 0, .slice none 0 0] 45)) (w.heap.size + 1 + 1) 3) := hide (Bx.new ((w.alloc (.cells #[.bool s, .slice A1 n1 c1, .slice A2 n2 c2] 45)).alloc (.cells #[.bool t, .slice A3 n3 c3, .slice A4 n4 c4] 45)) #[.bool false, .slice none 0 0, .slice none 0 0] 45 (by simp) rfl (by simp))
  have g : Below w.heap.size w (((w.alloc (.cells #[.bool s, .slice A1 n1 c1, .slice A2 n2 c2] 45)).alloc (.cells #[.bool t, .slice A3 n3 c3, .slice A4 n4 c4] 45)).alloc (.cells #[.bool false, .slice none 0 0, .slice none 0 0] 45)) := b_two.alloc (by simp; omega) _
  have z : w.heap.size + 1 + 1 < (((w.alloc (.cells #[.bool s, .slice A1 n1 c1, .slice A2 n2 c2] 45)).alloc (.cells #[.bool t, .slice A3 n3 c3, .slice A4 n4 c4] 45)).alloc (.cells #[.bool false, .slice none 0 0, .slice none 0 0] 45)).heap.size := by simp
  have j0 : (((w.alloc (.cells #[.bool s, .slice A1 n1 c1, .slice A2 n2 c2] 45)).alloc (.cells #[.bool t, .slice A3 n3 c3, .slice A4 n4 c4] 45)).alloc (.cells #[.bool false, .slice none 0 0, .slice none 0 0] 45)).cell? ⟨w.heap.size, 0, none⟩ = some (.bool s) := by simp [go_sem]
  have j1 : (((w.alloc (.cells #[.bool s, .slice A1 n1 c1, .slice A2 n2 c2] 45)).alloc (.cells #[.bool t, .slice A3 n3 c3, .slice A4 n4 c4] 45)).alloc (.cells #[.bool false, .slice none 0 0, .slice none 0 0] 45)).cell? ⟨w.heap.size, 1, none⟩ = some (.slice A1 n1 c1) := by simp [go_sem]
  have j2 : (((w.alloc (.cells #[.bool s, .slice A1 n1 c1, .slice A2 n2 c2] 45)).alloc (.cells #[.bool t, .slice A3 n3 c3, .slice A4 n4 c4] 45)).alloc (.cells #[.bool false, .slice none 0 0, .slice none 0 0] 45)).cell? ⟨w.heap.size, 2, none⟩ = some (.slice A2 n2 c2) := by simp [go_sem]
  have k0 : (((w.alloc (.cells #[.bool s, .slice A1 n1 c1, .slice A2 n2 c2] 45)).alloc (.cells #[.bool t, .slice A3 n3 c3, .slice A4 n4 c4] 45)).alloc (.cells #[.bool false, .slice none 0 0, .slice none 0 0] 45)).cell? ⟨w.heap.size + 1, 0, none⟩ = some (.bool t) := by simp [go_sem]
  have k1 : (((w.alloc (.cells #[.bool s, .slice A1 n1 c1, .slice A2 n2 c2] 45)).alloc (.cells #[.bool t, .slice A3 n3 c3, .slice A4 n4 c4] 45)).alloc (.cells #[.bool false, .slice none 0 0, .slice none 0 0] 45)).cell? ⟨w.heap.size + 1, 1, none⟩ = some (.slice A3 n3 c3) := by simp [go_sem]
  have k2 : (((w.alloc (.cells #[.bool s, .slice A1 n1 c1, .slice A2 n2 c2] 45)).alloc (.cells #[.bool t, .slice A3 n3 c3, .slice A4 n4 c4] 45)).alloc (.cells #[.bool false, .slice none 0 0, .slice none 0 0] 45)).cell? ⟨w.heap.size + 1, 2, none⟩ = some (.slice A4 n4 c4) := by simp [go_sem]
  go_enter Try.func119, Try.ntmps119
  go_upto_region 1 with fail
  generalize hW : (((w.alloc (.cells #[.bool s, .slice A1 n1 c1, .slice A2 n2 c2] 45)).alloc (.cells #[.bool t, .slice A3 n3 c3, .slice A4 n4 c4] 45)).alloc (.cells #[.bool false, .slice none 0 0, .slice none 0 0] 45)) = W1 at *
  clear hW
  go_wp2_with fail
  refine (T1 _ g).mono ?_; rintro e w5 ⟨v5, xs5, rfl, p1, p2, p3, p4, hb1⟩
  replace j0 := keep_cell hb1 (by dsimp only; omega) j0
  replace j1 := keep_cell hb1 (by dsimp only; omega) j1
  replace j2 := keep_cell hb1 (by dsimp only; omega) j2
  replace k0 := keep_cell hb1 (by dsimp only; omega) k0
  replace k1 := keep_cell hb1 (by dsimp only; omega) k1
  replace k2 := keep_cell hb1 (by dsimp only; omega) k2
  replace NB := hide (NB.out.keep hb1 z)
  replace z := Nat.lt_of_lt_of_le z hb1.size
  replace g := bch g hb1
  have T5 := hide p1
  have N5 := hide (show Vg.nat32 xs5 = X ∧ Vg.WL xs5 xs5.length ∧ xs5.length ≤ 2 * B from ⟨p2, p3, by have := HB.out; omega⟩)
  clear hb1 p1 p2 p3 p4 T1
  go_wp2_with fail
  refine (T2 _ g).mono ?_; rintro e w6 ⟨v6, xs6, rfl, p1, p2, p3, p4, hb1⟩
  replace j0 := keep_cell hb1 (by dsimp only; omega) j0
  replace j1 := keep_cell hb1 (by dsimp only; omega) j1
  replace j2 := keep_cell hb1 (by dsimp only; omega) j2
  replace k0 := keep_cell hb1 (by dsimp only; omega) k0
  replace k1 := keep_cell hb1 (by dsimp only; omega) k1
  replace k2 := keep_cell hb1 (by dsimp only; omega) k2
  replace NB := hide (NB.out.keep hb1 z)
  replace z := Nat.lt_of_lt_of_le z hb1.size
  replace g := bch g hb1
  replace T5 := hide (T5.out.keep hb1)
  have T6 := hide p1
  have N6 := hide (show Vg.nat32 xs6 = Y ∧ Vg.WL xs6 xs6.length ∧ xs6.length ≤ 2 * B from ⟨p2, p3, by have := HB.out; omega⟩)
  clear hb1 p1 p2 p3 p4 T2
  go_wp2_with fail
  refine (T3 _ g).mono ?_; rintro e w7 ⟨v7, xs7, rfl, p1, p2, p3, p4, hb1⟩
  replace j0 := keep_cell hb1 (by dsimp only; omega) j0
  replace j1 := keep_cell hb1 (by dsimp only; omega) j1
  replace j2 := keep_cell hb1 (by dsimp only; omega) j2
  replace k0 := keep_cell hb1 (by dsimp only; omega) k0
  replace k1 := keep_cell hb1 (by dsimp only; omega) k1
  replace k2 := keep_cell hb1 (by dsimp only; omega) k2
  replace NB := hide (NB.out.keep hb1 z)
  replace z := Nat.lt_of_lt_of_le z hb1.size
  replace g := bch g hb1
  replace T5 := hide (T5.out.keep hb1)
  replace T6 := hide (T6.out.keep hb1)
  have T7 := hide p1
  have N7 := hide (show Vg.nat32 xs7 = D ∧ Vg.WL xs7 xs7.length ∧ xs7.length ≤ 2 * B from ⟨p2, p3, by have := HB.out; omega⟩)
  clear hb1 p1 p2 p3 p4 T3
  by_cases hs : s = t
  · subst hs
    have FR := fun (w' : World) (v8 : Value) (zs : List Nat) (r1 : Rw w' v8 zs) (r2 : Rw w' v7 xs7) (r3 : Vg.nat32 zs = X + Y) (r4 : zs.length ≤ 4 * B + 1) => (frac_any s v8 v7 zs xs7 0 (12 * B + 6) w' r1 r2 (by rw [N7.out.1]; exact HB.out.2.2.2.2.2) (by have := N7.out; show 0 + 2 * zs.length + 2 * xs7.length + 4 ≤ _; omega) (by have := HB.out; omega)).mono (R' := TRt (Z1 + Z2) Q (12 * B + 6) w') (fun e w'' h => by
      obtain ⟨v, h1, h2, h3⟩ := h
      refine ⟨v, h1, h2.conv (by rw [N7.out.1]; exact Nat.mul_pos HB.out.2.2.2.2.2 (by decide)) ?_, h3⟩
      rw [r3, N7.out.1, show (0 : Int).toNat = 0 from rfl, show (-(0 : Int)).toNat = 0 from rfl, Nat.pow_zero, Nat.mul_one, Nat.mul_one]
      exact VAL.out _ _ (Vg.zi_add s X Y))
    have PM := fun (w' : World) (r1 : Rw w' v5 xs5) (r2 : Rw w' v6 xs6) => plus_any v5 v6 xs5 xs6 w' r1 r2 (by have := HB.out; have := N5.out; have := N6.out; omega)
    rw [N5.out.1, N6.out.1] at PM
    have PM := fun (w' : World) (r1 : Rw w' v5 xs5) (r2 : Rw w' v6 xs6) => (PM w' r1 r2).mono (R' := TNa (X + Y) (4 * B + 1) w') (fun e w'' h => by
      obtain ⟨v, ys, h1, h2, h3, h4, h5, h6⟩ := h
      exact ⟨v, ys, h1, h2, h3, h4, by have := N5.out; have := N6.out; omega, h6⟩)
    clear j1 j2 k1 k2 VAL
    have k1 := k0
    have k0 := j0
    clear j0
    go_upto_region 5 with fail
    refine wp_region_held_drew (S := fun wx => Below w.heap.size w wx ∧ w.heap.size + 1 + 1 < wx.heap.size ∧ wx.cell? ⟨w.heap.size, 0, none⟩ = some (.bool s) ∧ wx.cell? ⟨w.heap.size + 1, 0, none⟩ = some (.bool s)) (by kernel_rfl) ?_ (fun hHeld => ?_)
    · (((try dsimp only); (repeat' apply And.intro) <;> first | assumption | (simp [*]; done) | exact Below.drew (by assumption) | exact keep_cell hb1 (by first | (dsimp only; omega) | (simp; omega)) (by simp [*]) | (have := hb1.size; omega) | (have := hb1.size; simp at this; omega) | exact bch (by simp [*]) hb1 | exact bch (Below.drew (by simp [*])) hb1))
    refine wpAnyH_take (i := 0) (oi := { dst := some 28, op := Op.fieldAddr 45 (Operand.tmp 2) 0, type := _, pos := _, after := _, guard := none }) (v := ?_) rfl (by kernel_rfl) (by kernel_rfl) (by kernel_rfl) (fun _ _ _ h => h) (Or.inl ⟨by rfl, ?_⟩) (by assumption) ?_
    rotate_left
    · intro w hSw; (try dsimp only at hSw); go_simp
      try with_reducible rfl
    try simp only [Act.put, List.setIfInBounds_toArray, List.set_cons_zero, List.set_cons_succ]
    refine wpAnyH_take (i := 1) (oi := { dst := some 29, op := Op.load 4 (Operand.tmp 28), type := _, pos := _, after := _, guard := none }) (v := ?_) rfl (by kernel_rfl) (by kernel_rfl) (by kernel_rfl) (fun _ _ _ h => h) (Or.inl ⟨by rfl, ?_⟩) (by assumption) ?_
    rotate_left
    · intro w hSw; (try dsimp only at hSw); go_simp
      try with_reducible rfl
    try simp only [Act.put, List.setIfInBounds_toArray, List.set_cons_zero, List.set_cons_succ]
    refine wpAnyH_take (i := 2) (oi := { dst := some 30, op := Op.move (Operand.tmp 5), type := _, pos := _, after := _, guard := none }) (v := ?_) rfl (by kernel_rfl) (by kernel_rfl) (by kernel_rfl) (fun _ _ _ h => h) (Or.inl ⟨by rfl, ?_⟩) (by assumption) ?_
    rotate_left
    · intro w hSw; (try dsimp only at hSw); go_simp
      try with_reducible rfl
    try simp only [Act.put, List.setIfInBounds_toArray, List.set_cons_zero, List.set_cons_succ]
    refine wpAnyH_take (i := 3) (oi := { dst := some 31, op := Op.move (Operand.tmp 6), type := _, pos := _, after := _, guard := none }) (v := ?_) rfl (by kernel_rfl) (by kernel_rfl) (by kernel_rfl) (fun _ _ _ h => h) (Or.inl ⟨by rfl, ?_⟩) (by assumption) ?_
    rotate_left
    · intro w hSw; (try dsimp only at hSw); go_simp
      try with_reducible rfl
    try simp only [Act.put, List.setIfInBounds_toArray, List.set_cons_zero, List.set_cons_succ]
    refine wpAnyH_take (i := 5) (oi := { dst := some 33, op := Op.move (Operand.tmp 7), type := _, pos := _, after := _, guard := none }) (v := ?_) rfl (by kernel_rfl) (by kernel_rfl) (by kernel_rfl) (fun _ _ _ h => h) (Or.inl ⟨by rfl, ?_⟩) (by assumption) ?_
    rotate_left
    · intro w hSw; (try dsimp only at hSw); go_simp
      try with_reducible rfl
    try simp only [Act.put, List.setIfInBounds_toArray, List.set_cons_zero, List.set_cons_succ]
    refine wpAnyH_ready (rs := [4]) (by kernel_rfl) (by simp) ?_
    refine AllReadyH.cons (o := { dst := some 32, op := Op.call { callee := Callee.value (Operand.func 129), args := #[Operand.tmp 30, Operand.tmp 31], argTypes := #[43, 43] }, type := _, pos := _, after := _, guard := none }) rfl (fun K hK => ?_) AllReadyH.nil
    go_simp
    go_at_call 129; refine (PM _ (by first | exact T5.out | exact T5.out.keep b_drew) (by first | exact T6.out | exact T6.out.keep b_drew)).mono ?_; rintro e w' ⟨v8, zs, rfl, p1, p2, p3, p4, hb1⟩; replace NB := hide (NB.out.keep hb1 (by first | exact hHeld.2.1 | (dsimp only; omega))); replace T7 := (by first | exact hide (T7.out.keep hb1) | exact hide ((T7.out.keep b_drew).keep hb1)); have T8 := hide p1; have N8 := hide (show _ ∧ _ from ⟨p2, p4⟩); clear p1 p2 p3 p4
    go_wp2_with fail
    refine hK.out _ _ ?_ (fun hHeld2 => ?_)
    · (((try dsimp only); (repeat' apply And.intro) <;> first | assumption | (simp [*]; done) | exact Below.drew (by assumption) | exact keep_cell hb1 (by first | (dsimp only; omega) | (simp; omega)) (by simp [*]) | (have := hb1.size; omega) | (have := hb1.size; simp at this; omega) | exact bch (by simp [*]) hb1 | exact bch (Below.drew (by simp [*])) hb1))
    clear hK K hHeld
    have hHeld := hHeld2
    clear hHeld2
    try simp only [Act.put, List.setIfInBounds_toArray, List.set_cons_zero, List.set_cons_succ]
    refine wpAnyH_ready (rs := [6]) (by kernel_rfl) (by simp) ?_
    refine AllReadyH.cons (o := { dst := some 34, op := Op.call { callee := Callee.value (Operand.func 128), args := #[Operand.tmp 29, Operand.tmp 32, Operand.tmp 33, Operand.const (Value.int IntKind.i64 0)], argTypes := #[4, 43, 43, 3] }, type := _, pos := _, after := _, guard := none }) rfl (fun K hK => ?_) AllReadyH.nil
    go_simp
    go_at_call 128; refine (FR _ _ _ T8.out T7.out N8.out.1 N8.out.2).mono ?_; rintro e w' ⟨v9, rfl, p1, hb1⟩; replace NB := hide (NB.out.keep hb1 (by first | exact hHeld.2.1 | (dsimp only; omega))); have P9 := hide p1; obtain ⟨s', E1, m1, d1, E2, m2, d2, zs1, zs2, rfl, -⟩ := p1
    go_wp2_with fail
    refine hK.out _ _ ?_ (fun hHeld2 => ?_)
    · (((try dsimp only); (repeat' apply And.intro) <;> first | assumption | (simp [*]; done) | exact Below.drew (by assumption) | exact keep_cell hb1 (by first | (dsimp only; omega) | (simp; omega)) (by simp [*]) | (have := hb1.size; omega) | (have := hb1.size; simp at this; omega) | exact bch (by simp [*]) hb1 | exact bch (Below.drew (by simp [*])) hb1))
    clear hK K hHeld
    have hHeld := hHeld2
    clear hHeld2
    try simp only [Act.put, List.setIfInBounds_toArray, List.set_cons_zero, List.set_cons_succ]
    refine wpAnyH_ready (rs := [7]) (by kernel_rfl) (by simp) ?_
    refine AllReadyH.cons (o := { dst := none, op := Op.store 45 (Operand.tmp 4) (Operand.tmp 34), type := _, pos := _, after := _, guard := none }) rfl (fun K hK => ?_) AllReadyH.nil
    rw [if_pos (by rfl)]
    refine wp_store_mid 45 _ _ rfl (w.heap.size + 1 + 1) 0 #[.bool s', .slice E1 m1 d1, .slice E2 m2 d2] rfl rfl NB.out.1 (by kernel_rfl) (by simp [Value.oneCell']) ?_
    refine hK.out _ _ ?_ (fun hHeld2 => ?_)
    · exact ⟨sc_below _ (by omega) _ _ _ hHeld.1, by rw [sc_size]; exact hHeld.2.1, (sc_other (by dsimp only; omega)).trans hHeld.2.2.1, (sc_other (by dsimp only; omega)).trans hHeld.2.2.2⟩
    clear hK K hHeld
    have hHeld := hHeld2
    clear hHeld2
    try simp only [Act.put]
    refine wpAnyH_done (by kernel_rfl) ?_ _
    have G9 := hHeld.1
    clear hHeld k0 k1 z g FR PM
    go_step
    go_step
    go_step
    refine bodyPost_ret (results_cell rfl _ _ _ ⟨w.heap.size + 1 + 1, 0, none⟩ _ rfl (sc_load Try.prog (vs := [.bool s', .slice E1 m1 d1, .slice E2 m2 d2]) NB.out.1 Try.underlying45 rfl (by kernel_rfl))) rfl ?_
    exact ⟨_, rfl, P9.out.cells NB.out.2 _ (by simp), G9⟩
  · obtain rfl : t = !s := by cases s <;> cases t <;> simp_all
    have tE : (s == !s) = false := by cases s <;> rfl
    have tE' : decide (s = !s) = false := by cases s <;> rfl
    have CM := cmp_any v5 v6 xs5 xs6 w7 T5.out T6.out (by have := HB.out; have := N5.out; omega) (by have := HB.out; have := N6.out; omega)
    rw [N5.out.1, N6.out.1] at CM
    clear hs
    go_wp2_with fail
    refine CM.mono ?_; rintro e w8 ⟨rfl, hb1⟩
    replace j0 := keep_cell hb1 (by dsimp only; omega) j0
    replace k0 := keep_cell hb1 (by dsimp only; omega) k0
    replace NB := hide (NB.out.keep hb1 z)
    replace z := Nat.lt_of_lt_of_le z hb1.size
    replace g := bch g hb1
    replace T5 := hide (T5.out.keep hb1)
    replace T6 := hide (T6.out.keep hb1)
    replace T7 := hide (T7.out.keep hb1)
    clear hb1 CM j1 j2 k1 k2 tE tE'
    have k1 := k0
    have k0 := j0
    clear j0
    obtain ⟨c, hc⟩ : ∃ c, cmpz X Y = c := ⟨_, rfl⟩
    rw [hc]
    by_cases hXY : Y ≤ X
    · have c0 : decide ((0 : Int) ≤ c) = true := by rw [← hc]; exact decide_eq_true (by unfold cmpz; split <;> first | omega | (split <;> omega))
      have hle : Vg.nat32 xs6 ≤ Vg.nat32 xs5 := by rw [N5.out.1, N6.out.1]; omega
      have FR := fun (w' : World) (v8 : Value) (zs : List Nat) (r1 : Rw w' v8 zs) (r2 : Rw w' v7 xs7) (r3 : Vg.nat32 zs = X - Y) (r4 : zs.length ≤ 4 * B + 1) => (frac_any s v8 v7 zs xs7 0 (12 * B + 6) w' r1 r2 (by rw [N7.out.1]; exact HB.out.2.2.2.2.2) (by have := N7.out; show 0 + 2 * zs.length + 2 * xs7.length + 4 ≤ _; omega) (by have := HB.out; omega)).mono (R' := TRt (Z1 + Z2) Q (12 * B + 6) w') (fun e w'' h => by
        obtain ⟨v, h1, h2, h3⟩ := h
        refine ⟨v, h1, h2.conv (by rw [N7.out.1]; exact Nat.mul_pos HB.out.2.2.2.2.2 (by decide)) ?_, h3⟩
        rw [r3, N7.out.1, show (0 : Int).toNat = 0 from rfl, show (-(0 : Int)).toNat = 0 from rfl, Nat.pow_zero, Nat.mul_one, Nat.mul_one]
        exact VAL.out _ _ (Vg.zi_sub s (by omega)))
      have PM := fun (w' : World) (r1 : Rw w' v5 xs5) (r2 : Rw w' v6 xs6) => minus_any v5 v6 xs5 xs6 w' r1 r2 (by have := HB.out; have := N5.out; have := N6.out; omega) (wl_len r1.1 N5.out.2.1 N6.out.2.1 hle) hle
      rw [N5.out.1, N6.out.1] at PM
      have PM := fun (w' : World) (r1 : Rw w' v5 xs5) (r2 : Rw w' v6 xs6) => (PM w' r1 r2).mono (R' := TNa (X - Y) (4 * B + 1) w') (fun e w'' h => by
        obtain ⟨v, ys, h1, h2, h3, h4, h5, h6⟩ := h
        exact ⟨v, ys, h1, h2, h3, h4, by have := N5.out; have := N6.out; omega, h6⟩)
      clear VAL hc hXY hle
      go_upto_region 7 with fail
      refine wp_region_held_drew (S := fun wx => Below w.heap.size w wx ∧ w.heap.size + 1 + 1 < wx.heap.size ∧ wx.cell? ⟨w.heap.size, 0, none⟩ = some (.bool s) ∧ wx.cell? ⟨w.heap.size + 1, 0, none⟩ = some (.bool (!s))) (by kernel_rfl) ?_ (fun hHeld => ?_)
      · (((try dsimp only); (repeat' apply And.intro) <;> first | assumption | (simp [*]; done) | exact Below.drew (by assumption) | exact keep_cell hb1 (by first | (dsimp only; omega) | (simp; omega)) (by simp [*]) | (have := hb1.size; omega) | (have := hb1.size; simp at this; omega) | exact bch (by simp [*]) hb1 | exact bch (Below.drew (by simp [*])) hb1))
      refine wpAnyH_take (i := 0) (oi := { dst := some 39, op := Op.fieldAddr 45 (Operand.tmp 2) 0, type := _, pos := _, after := _, guard := none }) (v := ?_) rfl (by kernel_rfl) (by kernel_rfl) (by kernel_rfl) (fun _ _ _ h => h) (Or.inl ⟨by rfl, ?_⟩) (by assumption) ?_
      rotate_left
      · intro w hSw; (try dsimp only at hSw); go_simp
        try with_reducible rfl
      try simp only [Act.put, List.setIfInBounds_toArray, List.set_cons_zero, List.set_cons_succ]
      refine wpAnyH_take (i := 1) (oi := { dst := some 40, op := Op.load 4 (Operand.tmp 39), type := _, pos := _, after := _, guard := none }) (v := ?_) rfl (by kernel_rfl) (by kernel_rfl) (by kernel_rfl) (fun _ _ _ h => h) (Or.inl ⟨by rfl, ?_⟩) (by assumption) ?_
      rotate_left
      · intro w hSw; (try dsimp only at hSw); go_simp
        try with_reducible rfl
      try simp only [Act.put, List.setIfInBounds_toArray, List.set_cons_zero, List.set_cons_succ]
      refine wpAnyH_take (i := 2) (oi := { dst := some 41, op := Op.move (Operand.tmp 5), type := _, pos := _, after := _, guard := none }) (v := ?_) rfl (by kernel_rfl) (by kernel_rfl) (by kernel_rfl) (fun _ _ _ h => h) (Or.inl ⟨by rfl, ?_⟩) (by assumption) ?_
      rotate_left
      · intro w hSw; (try dsimp only at hSw); go_simp
        try with_reducible rfl
      try simp only [Act.put, List.setIfInBounds_toArray, List.set_cons_zero, List.set_cons_succ]
      refine wpAnyH_take (i := 3) (oi := { dst := some 42, op := Op.move (Operand.tmp 6), type := _, pos := _, after := _, guard := none }) (v := ?_) rfl (by kernel_rfl) (by kernel_rfl) (by kernel_rfl) (fun _ _ _ h => h) (Or.inl ⟨by rfl, ?_⟩) (by assumption) ?_
      rotate_left
      · intro w hSw; (try dsimp only at hSw); go_simp
        try with_reducible rfl
      try simp only [Act.put, List.setIfInBounds_toArray, List.set_cons_zero, List.set_cons_succ]
      refine wpAnyH_take (i := 5) (oi := { dst := some 44, op := Op.move (Operand.tmp 7), type := _, pos := _, after := _, guard := none }) (v := ?_) rfl (by kernel_rfl) (by kernel_rfl) (by kernel_rfl) (fun _ _ _ h => h) (Or.inl ⟨by rfl, ?_⟩) (by assumption) ?_
      rotate_left
      · intro w hSw; (try dsimp only at hSw); go_simp
        try with_reducible rfl
      try simp only [Act.put, List.setIfInBounds_toArray, List.set_cons_zero, List.set_cons_succ]
      refine wpAnyH_ready (rs := [4]) (by kernel_rfl) (by simp) ?_
      refine AllReadyH.cons (o := { dst := some 43, op := Op.call { callee := Callee.value (Operand.func 130), args := #[Operand.tmp 41, Operand.tmp 42], argTypes := #[43, 43] }, type := _, pos := _, after := _, guard := none }) rfl (fun K hK => ?_) AllReadyH.nil
      go_simp
      go_at_call 130; refine (PM _ (by first | exact T5.out | exact T5.out.keep b_drew) (by first | exact T6.out | exact T6.out.keep b_drew)).mono ?_; rintro e w' ⟨v8, zs, rfl, p1, p2, p3, p4, hb1⟩; replace NB := hide (NB.out.keep hb1 (by first | exact hHeld.2.1 | (dsimp only; omega))); replace T7 := (by first | exact hide (T7.out.keep hb1) | exact hide ((T7.out.keep b_drew).keep hb1)); have T8 := hide p1; have N8 := hide (show _ ∧ _ from ⟨p2, p4⟩); clear p1 p2 p3 p4
      go_wp2_with fail
      refine hK.out _ _ ?_ (fun hHeld2 => ?_)
      · (((try dsimp only); (repeat' apply And.intro) <;> first | assumption | (simp [*]; done) | exact Below.drew (by assumption) | exact keep_cell hb1 (by first | (dsimp only; omega) | (simp; omega)) (by simp [*]) | (have := hb1.size; omega) | (have := hb1.size; simp at this; omega) | exact bch (by simp [*]) hb1 | exact bch (Below.drew (by simp [*])) hb1))
      clear hK K hHeld
      have hHeld := hHeld2
      clear hHeld2
      try simp only [Act.put, List.setIfInBounds_toArray, List.set_cons_zero, List.set_cons_succ]
      refine wpAnyH_ready (rs := [6]) (by kernel_rfl) (by simp) ?_
      refine AllReadyH.cons (o := { dst := some 45, op := Op.call { callee := Callee.value (Operand.func 128), args := #[Operand.tmp 40, Operand.tmp 43, Operand.tmp 44, Operand.const (Value.int IntKind.i64 0)], argTypes := #[4, 43, 43, 3] }, type := _, pos := _, after := _, guard := none }) rfl (fun K hK => ?_) AllReadyH.nil
      go_simp
      go_at_call 128; refine (FR _ _ _ T8.out T7.out N8.out.1 N8.out.2).mono ?_; rintro e w' ⟨v9, rfl, p1, hb1⟩; replace NB := hide (NB.out.keep hb1 (by first | exact hHeld.2.1 | (dsimp only; omega))); have P9 := hide p1; obtain ⟨s', E1, m1, d1, E2, m2, d2, zs1, zs2, rfl, -⟩ := p1
      go_wp2_with fail
      refine hK.out _ _ ?_ (fun hHeld2 => ?_)
      · (((try dsimp only); (repeat' apply And.intro) <;> first | assumption | (simp [*]; done) | exact Below.drew (by assumption) | exact keep_cell hb1 (by first | (dsimp only; omega) | (simp; omega)) (by simp [*]) | (have := hb1.size; omega) | (have := hb1.size; simp at this; omega) | exact bch (by simp [*]) hb1 | exact bch (Below.drew (by simp [*])) hb1))
      clear hK K hHeld
      have hHeld := hHeld2
      clear hHeld2
      try simp only [Act.put, List.setIfInBounds_toArray, List.set_cons_zero, List.set_cons_succ]
      refine wpAnyH_ready (rs := [7]) (by kernel_rfl) (by simp) ?_
      refine AllReadyH.cons (o := { dst := none, op := Op.store 45 (Operand.tmp 4) (Operand.tmp 45), type := _, pos := _, after := _, guard := none }) rfl (fun K hK => ?_) AllReadyH.nil
      rw [if_pos (by rfl)]
      refine wp_store_mid 45 _ _ rfl (w.heap.size + 1 + 1) 0 #[.bool s', .slice E1 m1 d1, .slice E2 m2 d2] rfl rfl NB.out.1 (by kernel_rfl) (by simp [Value.oneCell']) ?_
      refine hK.out _ _ ?_ (fun hHeld2 => ?_)
      · exact ⟨sc_below _ (by omega) _ _ _ hHeld.1, by rw [sc_size]; exact hHeld.2.1, (sc_other (by dsimp only; omega)).trans hHeld.2.2.1, (sc_other (by dsimp only; omega)).trans hHeld.2.2.2⟩
      clear hK K hHeld
      have hHeld := hHeld2
      clear hHeld2
      try simp only [Act.put]
      refine wpAnyH_done (by kernel_rfl) ?_ _
      have G9 := hHeld.1
      clear hHeld k0 k1 z g FR PM
      go_step
      go_step
      go_step
      refine bodyPost_ret (results_cell rfl _ _ _ ⟨w.heap.size + 1 + 1, 0, none⟩ _ rfl (sc_load Try.prog (vs := [.bool s', .slice E1 m1 d1, .slice E2 m2 d2]) NB.out.1 Try.underlying45 rfl (by kernel_rfl))) rfl ?_
      exact ⟨_, rfl, P9.out.cells NB.out.2 _ (by simp), G9⟩
    · have c0 : decide ((0 : Int) ≤ c) = false := by rw [← hc]; exact decide_eq_false (by unfold cmpz; split <;> first | omega | (split <;> omega))
      have hle : Vg.nat32 xs5 ≤ Vg.nat32 xs6 := by rw [N5.out.1, N6.out.1]; omega
      have FR := fun (w' : World) (v8 : Value) (zs : List Nat) (r1 : Rw w' v8 zs) (r2 : Rw w' v7 xs7) (r3 : Vg.nat32 zs = Y - X) (r4 : zs.length ≤ 4 * B + 1) => (frac_any (!s) v8 v7 zs xs7 0 (12 * B + 6) w' r1 r2 (by rw [N7.out.1]; exact HB.out.2.2.2.2.2) (by have := N7.out; show 0 + 2 * zs.length + 2 * xs7.length + 4 ≤ _; omega) (by have := HB.out; omega)).mono (R' := TRt (Z1 + Z2) Q (12 * B + 6) w') (fun e w'' h => by
        obtain ⟨v, h1, h2, h3⟩ := h
        refine ⟨v, h1, h2.conv (by rw [N7.out.1]; exact Nat.mul_pos HB.out.2.2.2.2.2 (by decide)) ?_, h3⟩
        rw [r3, N7.out.1, show (0 : Int).toNat = 0 from rfl, show (-(0 : Int)).toNat = 0 from rfl, Nat.pow_zero, Nat.mul_one, Nat.mul_one]
        exact VAL.out _ _ (by rw [Vg.zi_sub (!s) (by omega), Bool.not_not]; omega))
      have PM := fun (w' : World) (r1 : Rw w' v6 xs6) (r2 : Rw w' v5 xs5) => minus_any v6 v5 xs6 xs5 w' r1 r2 (by have := HB.out; have := N5.out; have := N6.out; omega) (wl_len r1.1 N6.out.2.1 N5.out.2.1 hle) hle
      rw [N5.out.1, N6.out.1] at PM
      have PM := fun (w' : World) (r1 : Rw w' v6 xs6) (r2 : Rw w' v5 xs5) => (PM w' r1 r2).mono (R' := TNa (Y - X) (4 * B + 1) w') (fun e w'' h => by
        obtain ⟨v, ys, h1, h2, h3, h4, h5, h6⟩ := h
        exact ⟨v, ys, h1, h2, h3, h4, by have := N5.out; have := N6.out; omega, h6⟩)
      clear VAL hc hXY hle
      go_upto_region 8 with fail
      refine wp_region_held_drew (S := fun wx => Below w.heap.size w wx ∧ w.heap.size + 1 + 1 < wx.heap.size ∧ wx.cell? ⟨w.heap.size, 0, none⟩ = some (.bool s) ∧ wx.cell? ⟨w.heap.size + 1, 0, none⟩ = some (.bool (!s))) (by kernel_rfl) ?_ (fun hHeld => ?_)
      · (((try dsimp only); (repeat' apply And.intro) <;> first | assumption | (simp [*]; done) | exact Below.drew (by assumption) | exact keep_cell hb1 (by first | (dsimp only; omega) | (simp; omega)) (by simp [*]) | (have := hb1.size; omega) | (have := hb1.size; simp at this; omega) | exact bch (by simp [*]) hb1 | exact bch (Below.drew (by simp [*])) hb1))
      refine wpAnyH_take (i := 0) (oi := { dst := some 46, op := Op.fieldAddr 45 (Operand.tmp 3) 0, type := _, pos := _, after := _, guard := none }) (v := ?_) rfl (by kernel_rfl) (by kernel_rfl) (by kernel_rfl) (fun _ _ _ h => h) (Or.inl ⟨by rfl, ?_⟩) (by assumption) ?_
      rotate_left
      · intro w hSw; (try dsimp only at hSw); go_simp
        try with_reducible rfl
      try simp only [Act.put, List.setIfInBounds_toArray, List.set_cons_zero, List.set_cons_succ]
      refine wpAnyH_take (i := 1) (oi := { dst := some 47, op := Op.load 4 (Operand.tmp 46), type := _, pos := _, after := _, guard := none }) (v := ?_) rfl (by kernel_rfl) (by kernel_rfl) (by kernel_rfl) (fun _ _ _ h => h) (Or.inl ⟨by rfl, ?_⟩) (by assumption) ?_
      rotate_left
      · intro w hSw; (try dsimp only at hSw); go_simp
        try with_reducible rfl
      try simp only [Act.put, List.setIfInBounds_toArray, List.set_cons_zero, List.set_cons_succ]
      refine wpAnyH_take (i := 2) (oi := { dst := some 48, op := Op.move (Operand.tmp 6), type := _, pos := _, after := _, guard := none }) (v := ?_) rfl (by kernel_rfl) (by kernel_rfl) (by kernel_rfl) (fun _ _ _ h => h) (Or.inl ⟨by rfl, ?_⟩) (by assumption) ?_
      rotate_left
      · intro w hSw; (try dsimp only at hSw); go_simp
        try with_reducible rfl
      try simp only [Act.put, List.setIfInBounds_toArray, List.set_cons_zero, List.set_cons_succ]
      refine wpAnyH_take (i := 3) (oi := { dst := some 49, op := Op.move (Operand.tmp 5), type := _, pos := _, after := _, guard := none }) (v := ?_) rfl (by kernel_rfl) (by kernel_rfl) (by kernel_rfl) (fun _ _ _ h => h) (Or.inl ⟨by rfl, ?_⟩) (by assumption) ?_
      rotate_left
      · intro w hSw; (try dsimp only at hSw); go_simp
        try with_reducible rfl
      try simp only [Act.put, List.setIfInBounds_toArray, List.set_cons_zero, List.set_cons_succ]
      refine wpAnyH_take (i := 5) (oi := { dst := some 51, op := Op.move (Operand.tmp 7), type := _, pos := _, after := _, guard := none }) (v := ?_) rfl (by kernel_rfl) (by kernel_rfl) (by kernel_rfl) (fun _ _ _ h => h) (Or.inl ⟨by rfl, ?_⟩) (by assumption) ?_
      rotate_left
      · intro w hSw; (try dsimp only at hSw); go_simp
        try with_reducible rfl
      try simp only [Act.put, List.setIfInBounds_toArray, List.set_cons_zero, List.set_cons_succ]
      refine wpAnyH_ready (rs := [4]) (by kernel_rfl) (by simp) ?_
      refine AllReadyH.cons (o := { dst := some 50, op := Op.call { callee := Callee.value (Operand.func 130), args := #[Operand.tmp 48, Operand.tmp 49], argTypes := #[43, 43] }, type := _, pos := _, after := _, guard := none }) rfl (fun K hK => ?_) AllReadyH.nil
      go_simp
      go_at_call 130; refine (PM _ (by first | exact T6.out | exact T6.out.keep b_drew) (by first | exact T5.out | exact T5.out.keep b_drew)).mono ?_; rintro e w' ⟨v8, zs, rfl, p1, p2, p3, p4, hb1⟩; replace NB := hide (NB.out.keep hb1 (by first | exact hHeld.2.1 | (dsimp only; omega))); replace T7 := (by first | exact hide (T7.out.keep hb1) | exact hide ((T7.out.keep b_drew).keep hb1)); have T8 := hide p1; have N8 := hide (show _ ∧ _ from ⟨p2, p4⟩); clear p1 p2 p3 p4
      go_wp2_with fail
      refine hK.out _ _ ?_ (fun hHeld2 => ?_)
      · (((try dsimp only); (repeat' apply And.intro) <;> first | assumption | (simp [*]; done) | exact Below.drew (by assumption) | exact keep_cell hb1 (by first | (dsimp only; omega) | (simp; omega)) (by simp [*]) | (have := hb1.size; omega) | (have := hb1.size; simp at this; omega) | exact bch (by simp [*]) hb1 | exact bch (Below.drew (by simp [*])) hb1))
      clear hK K hHeld
      have hHeld := hHeld2
      clear hHeld2
      try simp only [Act.put, List.setIfInBounds_toArray, List.set_cons_zero, List.set_cons_succ]
      refine wpAnyH_ready (rs := [6]) (by kernel_rfl) (by simp) ?_
      refine AllReadyH.cons (o := { dst := some 52, op := Op.call { callee := Callee.value (Operand.func 128), args := #[Operand.tmp 47, Operand.tmp 50, Operand.tmp 51, Operand.const (Value.int IntKind.i64 0)], argTypes := #[4, 43, 43, 3] }, type := _, pos := _, after := _, guard := none }) rfl (fun K hK => ?_) AllReadyH.nil
      go_simp
      go_at_call 128; refine (FR _ _ _ T8.out T7.out N8.out.1 N8.out.2).mono ?_; rintro e w' ⟨v9, rfl, p1, hb1⟩; replace NB := hide (NB.out.keep hb1 (by first | exact hHeld.2.1 | (dsimp only; omega))); have P9 := hide p1; obtain ⟨s', E1, m1, d1, E2, m2, d2, zs1, zs2, rfl, -⟩ := p1
      go_wp2_with fail
      refine hK.out _ _ ?_ (fun hHeld2 => ?_)
      · (((try dsimp only); (repeat' apply And.intro) <;> first | assumption | (simp [*]; done) | exact Below.drew (by assumption) | exact keep_cell hb1 (by first | (dsimp only; omega) | (simp; omega)) (by simp [*]) | (have := hb1.size; omega) | (have := hb1.size; simp at this; omega) | exact bch (by simp [*]) hb1 | exact bch (Below.drew (by simp [*])) hb1))
      clear hK K hHeld
      have hHeld := hHeld2
      clear hHeld2
      try simp only [Act.put, List.setIfInBounds_toArray, List.set_cons_zero, List.set_cons_succ]
      refine wpAnyH_ready (rs := [7]) (by kernel_rfl) (by simp) ?_
      refine AllReadyH.cons (o := { dst := none, op := Op.store 45 (Operand.tmp 4) (Operand.tmp 52), type := _, pos := _, after := _, guard := none }) rfl (fun K hK => ?_) AllReadyH.nil
      rw [if_pos (by rfl)]
      refine wp_store_mid 45 _ _ rfl (w.heap.size + 1 + 1) 0 #[.bool s', .slice E1 m1 d1, .slice E2 m2 d2] rfl rfl NB.out.1 (by kernel_rfl) (by simp [Value.oneCell']) ?_
      refine hK.out _ _ ?_ (fun hHeld2 => ?_)
      · exact ⟨sc_below _ (by omega) _ _ _ hHeld.1, by rw [sc_size]; exact hHeld.2.1, (sc_other (by dsimp only; omega)).trans hHeld.2.2.1, (sc_other (by dsimp only; omega)).trans hHeld.2.2.2⟩
      clear hK K hHeld
      have hHeld := hHeld2
      clear hHeld2
      try simp only [Act.put]
      refine wpAnyH_done (by kernel_rfl) ?_ _
      have G9 := hHeld.1
      clear hHeld k0 k1 z g FR PM
      go_step
      go_step
      go_step
      refine bodyPost_ret (results_cell rfl _ _ _ ⟨w.heap.size + 1 + 1, 0, none⟩ _ rfl (sc_load Try.prog (vs := [.bool s', .slice E1 m1 d1, .slice E2 m2 d2]) NB.out.1 Try.underlying45 rfl (by kernel_rfl))) rfl ?_
      exact ⟨_, rfl, P9.out.cells NB.out.2 _ (by simp), G9⟩

theorem zi_pos {s : Bool} {n m : Nat} {k : Nat} (hk : 0 < k) (hm : 0 < m) (h : Vg.zi s n * ((1 : Nat) : Int) = (k : Int) * (m : Int)) : s = false ∧ n * 1 = k * m ∧ 0 < n := by
  have hp : 0 < k * m := Nat.mul_pos hk hm
  rw [← Int.natCast_mul] at h
  cases s
  · simp [Vg.zi] at h; exact ⟨rfl, by omega, by omega⟩
  · simp [Vg.zi] at h; omega
set_option maxRecDepth 20000 in
set_option maxHeartbeats 8000000 in
theorem rquo_any (a b : Value) (Z : Int) (k : Nat) (hk : 0 < k) (Q B : Nat) (hB : B ≤ 1048576) (w : World) (ha : Rt w a Z Q B) (hb : Rt w b (k : Int) 1 B) : Calls Try.prog 121 #[a, b] w (TRt Z (Q * k) (8 * B + 4) w) := by
  obtain ⟨s, A1, n1, c1, A2, n2, c2, xa, xb, rfl, h1, h2, h3, h4, h5, h6⟩ := ha
  obtain ⟨t, A3, n3, c3, A4, n4, c4, ya, yb, rfl, i1, i2, i3, i4, i5, i6⟩ := hb
  obtain ⟨rfl, j3, j4⟩ := zi_pos hk i4 i3
  have VAL := Vg.quo_value h3 j3
  rw [Int.natCast_one, Int.mul_one] at VAL
  have T1 := fun (w' : World) (h : Below w.heap.size w w') => times_any _ _ xa yb w' (h1.keep h) (i2.keep h) (by omega)
  have T2 := fun (w' : World) (h : Below w.heap.size w w') => times_any _ _ xb ya w' (h2.keep h) (i1.keep h) (by omega)
  obtain ⟨X, hX⟩ : ∃ n, Vg.nat32 xa * Vg.nat32 yb = n := ⟨_, rfl⟩
  obtain ⟨D, hD⟩ : ∃ n, Vg.nat32 xb * Vg.nat32 ya = n := ⟨_, rfl⟩
  have hD0 : 0 < D := hD ▸ Nat.mul_pos h4 j4
  rw [hX] at T1
  rw [hD] at T2
  rw [hX, hD] at VAL
  have FR := fun (w' : World) (v5 v6 : Value) (zs1 zs2 : List Nat) (r1 : Rw w' v5 zs1) (r2 : Rw w' v6 zs2) (e1 : Vg.nat32 zs1 = X) (e2 : Vg.nat32 zs2 = D) (l1 : zs1.length ≤ xa.length + yb.length) (l2 : zs2.length ≤ xb.length + ya.length) => (frac_any s v5 v6 zs1 zs2 0 (8 * B + 4) w' r1 r2 (by rw [e2]; exact hD0) (by show 0 + 2 * zs1.length + 2 * zs2.length + 4 ≤ _; omega) (by omega)).mono (R' := TRt Z (Q * k) (8 * B + 4) w') (fun e w'' h => by
    obtain ⟨v, h1, h2, h3⟩ := h
    refine ⟨v, h1, h2.conv (by rw [e2]; exact Nat.mul_pos hD0 (by decide)) ?_, h3⟩
    rw [e1, e2, show (0 : Int).toNat = 0 from rfl, show (-(0 : Int)).toNat = 0 from rfl, Nat.pow_zero, Nat.mul_one, Nat.mul_one]
    exact VAL)
  clear h1 h2 h3 h4 h5 h6 i1 i2 i3 i4 i5 i6 j3 j4 hX hD hD0 hB hk VAL
  have NB : Hid (Bx (((w.alloc (.cells #[.bool s, .slice A1 n1 c1, .slice A2 n2 c2] 45)).alloc (.cells #[.bool false, .slice A3 n3 c3, .slice A4 n4 c4] 45)).alloc (.cells #[.bool false, .slice none 0 0, .slice none 0 0] 45)) (w.heap.size + 1 + 1) 3) := hide (Bx.new ((w.alloc (.cells #[.bool s, .slice A1 n1 c1, .slice A2 n2 c2] 45)).alloc (.cells #[.bool false, .slice A3 n3 c3, .slice A4 n4 c4] 45)) #[.bool false, .slice none 0 0, .slice none 0 0] 45 (by simp) rfl (by simp))
  have g : Below w.heap.size w (((w.alloc (.cells #[.bool s, .slice A1 n1 c1, .slice A2 n2 c2] 45)).alloc (.cells #[.bool false, .slice A3 n3 c3, .slice A4 n4 c4] 45)).alloc (.cells #[.bool false, .slice none 0 0, .slice none 0 0] 45)) := b_two.alloc (by simp; omega) _
  have z : w.heap.size + 1 + 1 < (((w.alloc (.cells #[.bool s, .slice A1 n1 c1, .slice A2 n2 c2] 45)).alloc (.cells #[.bool false, .slice A3 n3 c3, .slice A4 n4 c4] 45)).alloc (.cells #[.bool false, .slice none 0 0, .slice none 0 0] 45)).heap.size := by simp
  have j0 : (((w.alloc (.cells #[.bool s, .slice A1 n1 c1, .slice A2 n2 c2] 45)).alloc (.cells #[.bool false, .slice A3 n3 c3, .slice A4 n4 c4] 45)).alloc (.cells #[.bool false, .slice none 0 0, .slice none 0 0] 45)).cell? ⟨w.heap.size, 0, none⟩ = some (.bool s) := by simp [go_sem]
  have j1 : (((w.alloc (.cells #[.bool s, .slice A1 n1 c1, .slice A2 n2 c2] 45)).alloc (.cells #[.bool false, .slice A3 n3 c3, .slice A4 n4 c4] 45)).alloc (.cells #[.bool false, .slice none 0 0, .slice none 0 0] 45)).cell? ⟨w.heap.size, 1, none⟩ = some (.slice A1 n1 c1) := by simp [go_sem]
  have j2 : (((w.alloc (.cells #[.bool s, .slice A1 n1 c1, .slice A2 n2 c2] 45)).alloc (.cells #[.bool false, .slice A3 n3 c3, .slice A4 n4 c4] 45)).alloc (.cells #[.bool false, .slice none 0 0, .slice none 0 0] 45)).cell? ⟨w.heap.size, 2, none⟩ = some (.slice A2 n2 c2) := by simp [go_sem]
  have k0 : (((w.alloc (.cells #[.bool s, .slice A1 n1 c1, .slice A2 n2 c2] 45)).alloc (.cells #[.bool false, .slice A3 n3 c3, .slice A4 n4 c4] 45)).alloc (.cells #[.bool false, .slice none 0 0, .slice none 0 0] 45)).cell? ⟨w.heap.size + 1, 0, none⟩ = some (.bool false) := by simp [go_sem]
  have k1 : (((w.alloc (.cells #[.bool s, .slice A1 n1 c1, .slice A2 n2 c2] 45)).alloc (.cells #[.bool false, .slice A3 n3 c3, .slice A4 n4 c4] 45)).alloc (.cells #[.bool false, .slice none 0 0, .slice none 0 0] 45)).cell? ⟨w.heap.size + 1, 1, none⟩ = some (.slice A3 n3 c3) := by simp [go_sem]
  have k2 : (((w.alloc (.cells #[.bool s, .slice A1 n1 c1, .slice A2 n2 c2] 45)).alloc (.cells #[.bool false, .slice A3 n3 c3, .slice A4 n4 c4] 45)).alloc (.cells #[.bool false, .slice none 0 0, .slice none 0 0] 45)).cell? ⟨w.heap.size + 1, 2, none⟩ = some (.slice A4 n4 c4) := by simp [go_sem]
  go_enter Try.func121, Try.ntmps121
  go_upto_region 1 with fail
  generalize hW : (((w.alloc (.cells #[.bool s, .slice A1 n1 c1, .slice A2 n2 c2] 45)).alloc (.cells #[.bool false, .slice A3 n3 c3, .slice A4 n4 c4] 45)).alloc (.cells #[.bool false, .slice none 0 0, .slice none 0 0] 45)) = W1 at *
  clear hW
  refine wp_region_held_drew (S := fun wx => Below w.heap.size w wx ∧ w.heap.size + 1 + 1 < wx.heap.size ∧ wx.cell? ⟨w.heap.size, 0, none⟩ = some (.bool s) ∧ wx.cell? ⟨w.heap.size, 1, none⟩ = some (.slice A1 n1 c1) ∧ wx.cell? ⟨w.heap.size, 2, none⟩ = some (.slice A2 n2 c2) ∧ wx.cell? ⟨w.heap.size + 1, 0, none⟩ = some (.bool false) ∧ wx.cell? ⟨w.heap.size + 1, 1, none⟩ = some (.slice A3 n3 c3) ∧ wx.cell? ⟨w.heap.size + 1, 2, none⟩ = some (.slice A4 n4 c4)) (by kernel_rfl) ?_ (fun hHeld => ?_)
  · (((try dsimp only); (repeat' apply And.intro) <;> first | assumption | (simp [*]; done) | exact Below.drew (by assumption) | exact keep_cell hb1 (by first | (dsimp only; omega) | (simp; omega)) (by simp [*]) | (have := hb1.size; omega) | (have := hb1.size; simp at this; omega) | exact bch (by simp [*]) hb1 | exact bch (Below.drew (by simp [*])) hb1))
  refine wpAnyH_take (i := 0) (oi := { dst := some 5, op := Op.fieldAddr 45 (Operand.tmp 2) 0, type := _, pos := _, after := _, guard := none }) (v := ?_) rfl (by kernel_rfl) (by kernel_rfl) (by kernel_rfl) (fun _ _ _ h => h) (Or.inl ⟨by rfl, ?_⟩) (by assumption) ?_
  rotate_left
  · intro w hSw; (try dsimp only at hSw); go_simp
    try with_reducible rfl
  try simp only [Act.put, List.setIfInBounds_toArray, List.set_cons_zero, List.set_cons_succ]
  refine wpAnyH_take (i := 1) (oi := { dst := some 6, op := Op.load 4 (Operand.tmp 5), type := _, pos := _, after := _, guard := none }) (v := ?_) rfl (by kernel_rfl) (by kernel_rfl) (by kernel_rfl) (fun _ _ _ h => h) (Or.inl ⟨by rfl, ?_⟩) (by assumption) ?_
  rotate_left
  · intro w hSw; (try dsimp only at hSw); go_simp
    try with_reducible rfl
  try simp only [Act.put, List.setIfInBounds_toArray, List.set_cons_zero, List.set_cons_succ]
  refine wpAnyH_take (i := 2) (oi := { dst := some 7, op := Op.fieldAddr 45 (Operand.tmp 3) 0, type := _, pos := _, after := _, guard := none }) (v := ?_) rfl (by kernel_rfl) (by kernel_rfl) (by kernel_rfl) (fun _ _ _ h => h) (Or.inl ⟨by rfl, ?_⟩) (by assumption) ?_
  rotate_left
  · intro w hSw; (try dsimp only at hSw); go_simp
    try with_reducible rfl
  try simp only [Act.put, List.setIfInBounds_toArray, List.set_cons_zero, List.set_cons_succ]
  refine wpAnyH_take (i := 3) (oi := { dst := some 8, op := Op.load 4 (Operand.tmp 7), type := _, pos := _, after := _, guard := none }) (v := ?_) rfl (by kernel_rfl) (by kernel_rfl) (by kernel_rfl) (fun _ _ _ h => h) (Or.inl ⟨by rfl, ?_⟩) (by assumption) ?_
  rotate_left
  · intro w hSw; (try dsimp only at hSw); go_simp
    try with_reducible rfl
  try simp only [Act.put, List.setIfInBounds_toArray, List.set_cons_zero, List.set_cons_succ]
  refine wpAnyH_take (i := 4) (oi := { dst := some 9, op := Op.binOp BinOp.neq 4 (Operand.tmp 6) (Operand.tmp 8) 4, type := _, pos := _, after := _, guard := none }) (v := ?_) rfl (by kernel_rfl) (by kernel_rfl) (by kernel_rfl) (fun _ _ _ h => h) (Or.inl ⟨by rfl, ?_⟩) (by assumption) ?_
  rotate_left
  · intro w hSw; (try dsimp only at hSw); go_simp
    try with_reducible rfl
  try simp only [Act.put, List.setIfInBounds_toArray, List.set_cons_zero, List.set_cons_succ]
  refine wpAnyH_take (i := 5) (oi := { dst := some 10, op := Op.fieldAddr 45 (Operand.tmp 2) 1, type := _, pos := _, after := _, guard := none }) (v := ?_) rfl (by kernel_rfl) (by kernel_rfl) (by kernel_rfl) (fun _ _ _ h => h) (Or.inl ⟨by rfl, ?_⟩) (by assumption) ?_
  rotate_left
  · intro w hSw; (try dsimp only at hSw); go_simp
    try with_reducible rfl
  try simp only [Act.put, List.setIfInBounds_toArray, List.set_cons_zero, List.set_cons_succ]
  refine wpAnyH_take (i := 6) (oi := { dst := some 11, op := Op.load 43 (Operand.tmp 10), type := _, pos := _, after := _, guard := none }) (v := ?_) rfl (by kernel_rfl) (by kernel_rfl) (by kernel_rfl) (fun _ _ _ h => h) (Or.inl ⟨by rfl, ?_⟩) (by assumption) ?_
  rotate_left
  · intro w hSw; (try dsimp only at hSw); go_simp
    try with_reducible rfl
  try simp only [Act.put, List.setIfInBounds_toArray, List.set_cons_zero, List.set_cons_succ]
  refine wpAnyH_take (i := 7) (oi := { dst := some 12, op := Op.fieldAddr 45 (Operand.tmp 3) 2, type := _, pos := _, after := _, guard := none }) (v := ?_) rfl (by kernel_rfl) (by kernel_rfl) (by kernel_rfl) (fun _ _ _ h => h) (Or.inl ⟨by rfl, ?_⟩) (by assumption) ?_
  rotate_left
  · intro w hSw; (try dsimp only at hSw); go_simp
    try with_reducible rfl
  try simp only [Act.put, List.setIfInBounds_toArray, List.set_cons_zero, List.set_cons_succ]
  refine wpAnyH_take (i := 8) (oi := { dst := some 13, op := Op.load 43 (Operand.tmp 12), type := _, pos := _, after := _, guard := none }) (v := ?_) rfl (by kernel_rfl) (by kernel_rfl) (by kernel_rfl) (fun _ _ _ h => h) (Or.inl ⟨by rfl, ?_⟩) (by assumption) ?_
  rotate_left
  · intro w hSw; (try dsimp only at hSw); go_simp
    try with_reducible rfl
  try simp only [Act.put, List.setIfInBounds_toArray, List.set_cons_zero, List.set_cons_succ]
  refine wpAnyH_take (i := 10) (oi := { dst := some 15, op := Op.fieldAddr 45 (Operand.tmp 2) 2, type := _, pos := _, after := _, guard := none }) (v := ?_) rfl (by kernel_rfl) (by kernel_rfl) (by kernel_rfl) (fun _ _ _ h => h) (Or.inl ⟨by rfl, ?_⟩) (by assumption) ?_
  rotate_left
  · intro w hSw; (try dsimp only at hSw); go_simp
    try with_reducible rfl
  try simp only [Act.put, List.setIfInBounds_toArray, List.set_cons_zero, List.set_cons_succ]
  refine wpAnyH_take (i := 11) (oi := { dst := some 16, op := Op.load 43 (Operand.tmp 15), type := _, pos := _, after := _, guard := none }) (v := ?_) rfl (by kernel_rfl) (by kernel_rfl) (by kernel_rfl) (fun _ _ _ h => h) (Or.inl ⟨by rfl, ?_⟩) (by assumption) ?_
  rotate_left
  · intro w hSw; (try dsimp only at hSw); go_simp
    try with_reducible rfl
  try simp only [Act.put, List.setIfInBounds_toArray, List.set_cons_zero, List.set_cons_succ]
  refine wpAnyH_take (i := 12) (oi := { dst := some 17, op := Op.fieldAddr 45 (Operand.tmp 3) 1, type := _, pos := _, after := _, guard := none }) (v := ?_) rfl (by kernel_rfl) (by kernel_rfl) (by kernel_rfl) (fun _ _ _ h => h) (Or.inl ⟨by rfl, ?_⟩) (by assumption) ?_
  rotate_left
  · intro w hSw; (try dsimp only at hSw); go_simp
    try with_reducible rfl
  try simp only [Act.put, List.setIfInBounds_toArray, List.set_cons_zero, List.set_cons_succ]
  refine wpAnyH_take (i := 13) (oi := { dst := some 18, op := Op.load 43 (Operand.tmp 17), type := _, pos := _, after := _, guard := none }) (v := ?_) rfl (by kernel_rfl) (by kernel_rfl) (by kernel_rfl) (fun _ _ _ h => h) (Or.inl ⟨by rfl, ?_⟩) (by assumption) ?_
  rotate_left
  · intro w hSw; (try dsimp only at hSw); go_simp
    try with_reducible rfl
  try simp only [Act.put, List.setIfInBounds_toArray, List.set_cons_zero, List.set_cons_succ]
  refine wpAnyH_ready (rs := [9]) (by kernel_rfl) (by simp) ?_
  refine AllReadyH.cons (o := { dst := some 14, op := Op.call { callee := Callee.value (Operand.func 86), args := #[Operand.tmp 11, Operand.tmp 13], argTypes := #[43, 43] }, type := _, pos := _, after := _, guard := none }) rfl (fun K hK => ?_) AllReadyH.nil
  go_simp
  go_at_call 86; refine (T1 _ (by first | exact hHeld.1 | (simp [*]; done))).mono ?_; rintro e w' ⟨v5, xs5, rfl, p1, p2, p3, p4, hb1⟩; replace NB := hide (NB.out.keep hb1 (by first | exact hHeld.2.1 | (dsimp only; omega))); have T5 := hide p1; have N5 := hide (show _ ∧ _ from ⟨p2, p4⟩); clear p1 p2 p3 p4
  go_wp2_with fail
  refine hK.out _ _ ?_ (fun hHeld2 => ?_)
  · (((try dsimp only); (repeat' apply And.intro) <;> first | assumption | (simp [*]; done) | exact Below.drew (by assumption) | exact keep_cell hb1 (by first | (dsimp only; omega) | (simp; omega)) (by simp [*]) | (have := hb1.size; omega) | (have := hb1.size; simp at this; omega) | exact bch (by simp [*]) hb1 | exact bch (Below.drew (by simp [*])) hb1))
  clear hK K hHeld
  have hHeld := hHeld2
  clear hHeld2
  try simp only [Act.put, List.setIfInBounds_toArray, List.set_cons_zero, List.set_cons_succ]
  refine wpAnyH_ready (rs := [14]) (by kernel_rfl) (by simp) ?_
  refine AllReadyH.cons (o := { dst := some 19, op := Op.call { callee := Callee.value (Operand.func 86), args := #[Operand.tmp 16, Operand.tmp 18], argTypes := #[43, 43] }, type := _, pos := _, after := _, guard := none }) rfl (fun K hK => ?_) AllReadyH.nil
  go_simp
  go_at_call 86; refine (T2 _ (by first | exact hHeld.1 | (simp [*]; done))).mono ?_; rintro e w' ⟨v6, xs6, rfl, p1, p2, p3, p4, hb1⟩; replace NB := hide (NB.out.keep hb1 (by first | exact hHeld.2.1 | (dsimp only; omega))); replace T5 := hide (T5.out.keep hb1); have T6 := hide p1; have N6 := hide (show _ ∧ _ from ⟨p2, p4⟩); clear p1 p2 p3 p4
  go_wp2_with fail
  refine hK.out _ _ ?_ (fun hHeld2 => ?_)
  · (((try dsimp only); (repeat' apply And.intro) <;> first | assumption | (simp [*]; done) | exact Below.drew (by assumption) | exact keep_cell hb1 (by first | (dsimp only; omega) | (simp; omega)) (by simp [*]) | (have := hb1.size; omega) | (have := hb1.size; simp at this; omega) | exact bch (by simp [*]) hb1 | exact bch (Below.drew (by simp [*])) hb1))
  clear hK K hHeld
  have hHeld := hHeld2
  clear hHeld2
  try simp only [Act.put, List.setIfInBounds_toArray, List.set_cons_zero, List.set_cons_succ]
  refine wpAnyH_ready (rs := [15]) (by kernel_rfl) (by simp) ?_
  refine AllReadyH.cons (o := { dst := some 20, op := Op.call { callee := Callee.value (Operand.func 128), args := #[Operand.tmp 9, Operand.tmp 14, Operand.tmp 19, Operand.const (Value.int IntKind.i64 0)], argTypes := #[4, 43, 43, 3] }, type := _, pos := _, after := _, guard := none }) rfl (fun K hK => ?_) AllReadyH.nil
  go_simp
  go_at_call 128; refine (FR _ _ _ _ _ T5.out T6.out N5.out.1 N6.out.1 N5.out.2 N6.out.2).mono ?_; rintro e w' ⟨v9, rfl, p1, hb1⟩; replace NB := hide (NB.out.keep hb1 (by first | exact hHeld.2.1 | (dsimp only; omega))); have P9 := hide p1; obtain ⟨s', E1, m1, d1, E2, m2, d2, zs1, zs2, rfl, -⟩ := p1
  go_wp2_with fail
  refine hK.out _ _ ?_ (fun hHeld2 => ?_)
  · (((try dsimp only); (repeat' apply And.intro) <;> first | assumption | (simp [*]; done) | exact Below.drew (by assumption) | exact keep_cell hb1 (by first | (dsimp only; omega) | (simp; omega)) (by simp [*]) | (have := hb1.size; omega) | (have := hb1.size; simp at this; omega) | exact bch (by simp [*]) hb1 | exact bch (Below.drew (by simp [*])) hb1))
  clear hK K hHeld
  have hHeld := hHeld2
  clear hHeld2
  try simp only [Act.put, List.setIfInBounds_toArray, List.set_cons_zero, List.set_cons_succ]
  refine wpAnyH_ready (rs := [16]) (by kernel_rfl) (by simp) ?_
  refine AllReadyH.cons (o := { dst := none, op := Op.store 45 (Operand.tmp 4) (Operand.tmp 20), type := _, pos := _, after := _, guard := none }) rfl (fun K hK => ?_) AllReadyH.nil
  rw [if_pos (by rfl)]
  refine wp_store_mid 45 _ _ rfl (w.heap.size + 1 + 1) 0 #[.bool s', .slice E1 m1 d1, .slice E2 m2 d2] rfl rfl NB.out.1 (by kernel_rfl) (by simp [Value.oneCell']) ?_
  refine hK.out _ _ ?_ (fun hHeld2 => ?_)
  · exact ⟨sc_below _ (by omega) _ _ _ hHeld.1, by rw [sc_size]; exact hHeld.2.1, (sc_other (by dsimp only; omega)).trans hHeld.2.2.1, (sc_other (by dsimp only; omega)).trans hHeld.2.2.2.1, (sc_other (by dsimp only; omega)).trans hHeld.2.2.2.2.1, (sc_other (by dsimp only; omega)).trans hHeld.2.2.2.2.2.1, (sc_other (by dsimp only; omega)).trans hHeld.2.2.2.2.2.2.1, (sc_other (by dsimp only; omega)).trans hHeld.2.2.2.2.2.2.2⟩
  clear hK K hHeld
  have hHeld := hHeld2
  clear hHeld2
  try simp only [Act.put]
  refine wpAnyH_done (by kernel_rfl) ?_ _
  have G9 := hHeld.1
  clear hHeld j0 j1 j2 k0 k1 k2 z g FR T1 T2
  go_step
  go_step
  go_step
  refine bodyPost_ret (results_cell rfl _ _ _ ⟨w.heap.size + 1 + 1, 0, none⟩ _ rfl (sc_load Try.prog (vs := [.bool s', .slice E1 m1 d1, .slice E2 m2 d2]) NB.out.1 Try.underlying45 rfl (by kernel_rfl))) rfl ?_
  exact ⟨_, rfl, P9.out.cells NB.out.2 _ (by simp), G9⟩
end Go.Proofs.Ytljnadoodbninaa
