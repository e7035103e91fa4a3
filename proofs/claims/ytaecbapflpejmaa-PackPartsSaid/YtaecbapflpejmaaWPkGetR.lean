/- The reference's taken, Valid and Get. -/
import Derived.Test.YtaecbapflpejmaaWPkGetP
import Derived.Test.YtaecbapflpejmaaWPkPut
import Derived.Deep.Onto
namespace Go.Proofs.Ytaecbapflpejmaa
open Go.RowKit
set_option maxRecDepth 20000 in
set_option maxHeartbeats 4000000 in
theorem rtaken_any (v : Value) (xs : List Nat) (p : Nat) (w : World) (hR : Rb w v xs) (hb : ∀ b ∈ xs, b < 256) (hp : p + 8 ≤ xs.length) (hl : xs.length ≤ 281474976710656) :
    Calls Try.prog 40 #[v, .int .i64 p] w fun e w' => e = .returned (.int .u64 (num ((xs.drop p).take 8) : Nat)) ∧ w = w' := by
  obtain ⟨g, o, c, rfl, hg, hc, hcap⟩ := hR.form (by omega)
  have hy : ((xs.drop p).take 8).length = 8 := by rw [List.length_take, List.length_drop]; omega
  have hy256 : ∀ b ∈ (xs.drop p).take 8, b < 256 := fun b h => hb b (List.mem_of_mem_drop (List.mem_of_mem_take h))
  have hcy : ∀ i (h : i < ((xs.drop p).take 8).length), w.cell? ⟨g, o + (p + i), none⟩ = some (bv ((xs.drop p).take 8)[i]) := fun i h => by
    rw [hy] at h
    rw [List.getElem_take, List.getElem_drop]
    exact hc (p + i) (by omega)
  obtain ⟨ys, hys⟩ : ∃ ys, (xs.drop p).take 8 = ys := ⟨_, rfl⟩
  obtain ⟨N, hN⟩ : ∃ n, xs.length = n := ⟨_, rfl⟩
  rw [hys] at hy hy256 hcy
  rw [hys]
  rw [hN] at hp hl ⊢
  have HY := hide hy
  have HB := hide hy256
  have HC := hide hcy
  clear hR hb hg hc hcap hys hN hy hy256 hcy
  go_enter Try.func40, Try.ntmps40
  go_wp2_with fail
  go_loopg [5, 6] 8 (fun k v i wr => ∃ V : Nat, v = .int .u64 V ∧ i = .int .i64 ((k : Int) - 1) ∧ k ≤ 8 ∧ Hid (V = num (ys.drop k)) ∧ wr = w)
  case atStart => exact ⟨0, rfl, rfl, by omega, hide (by rw [List.drop_of_length_le (by have := HY.out; omega)]; rfl), rfl⟩
  case round =>
    obtain ⟨V, rfl, rfl, hk, HV, rfl⟩ := hrel
    obtain rfl | ⟨t, rfl⟩ : gk = 0 ∨ ∃ t, gk = t + 1 := by cases gk; exact .inl rfl; exact .inr ⟨_, rfl⟩
    · obtain rfl : V = num ys := HV.out
      go_wp2
      go_ret
      exact ⟨rfl, rfl⟩
    · have ht : t < ys.length := by have := HY.out; omega
      have hcell := HC.out t ht
      have hm := HB.out ys[t] (List.getElem_mem ht)
      have hd := num_drop ht
      have hV : V < 256 ^ 7 := by
        have := num_lt (ys.drop (t + 1)) (fun b hb => HB.out b (List.mem_of_mem_drop hb))
        rw [List.length_drop, HY.out] at this
        rw [HV.out]
        exact Nat.lt_of_lt_of_le this (Nat.pow_le_pow_right (by decide) (by omega))
      rw [← HV.out] at hd
      obtain ⟨m, hm'⟩ : ∃ m, ys[t] = m := ⟨_, rfl⟩
      rw [hm'] at hcell hm hd
      have HD := hide hd
      unfold bv at hcell
      have v1 : (V : Int) ≤ 72057594037927935 := by rw [show (256 : Nat) ^ 7 = 72057594037927936 from rfl] at hV; omega
      have m1 : (m : Int) ≤ 255 := by omega
      have ei : ((t + 1 : Nat) : Int) - 1 = (t : Int) := by omega
      rw [ei]
      have t0 : decide ((0 : Int) ≤ (t : Int)) = true := decide_eq_true (by omega)
      have ew : IntKind.i64.wrap ((p : Int) + (t : Int)) = ((p + t : Nat) : Int) := by rw [IntWalk.i64_in _ (by omega)]; omega
      have HD2 : Hid ((m + 256 * V : Nat) = num (ys.drop t)) := hide HD.out.symm
      clear hV hm hd hm' ei
      go_wp2
      go_roundg t
      case measure => omega
      case rel => exact ⟨m + 256 * V, by rw [show ((m + 256 * V : Nat) : Int) = (V : Int) * 256 + (m : Int) by omega], rfl, by omega, HD2, rfl⟩
theorem eqUU {a b c d : Nat} (n : Bool) (hn : n = true ↔ a = c ∧ b = d) (w : World) : (Op.equalIn 10000 24 (.agg #[.int .u64 a, .int .u64 b]) (.agg #[.int .u64 c, .int .u64 d])).run Try.prog w = .ok n w := by
  have u := Try.underlying22
  have ag := Try.isAgg22
  have z := Try.sizeOf22
  have hS : Try.prog.underlying 24 = some (.struct (Try.prog.fieldsOf 24)) := by kernel_rfl
  have hp : Try.prog.stoodInHeld 24 = false := by kernel_rfl
  have e : n = ((a : Int) == c && (b : Int) == d) := by
    rw [Bool.eq_iff_iff, hn, Bool.and_eq_true, beq_iff_eq, beq_iff_eq]
    omega
  rw [show (10000 : Nat) = 9999 + 1 from rfl, run_equalIn_agg w 9999 24 _ _ hS hp, e]
  simp only [Program.fieldsOf, Try.underlying24]
  cases h1 : ((a : Int) == c) <;> cases h2 : ((b : Int) == d)
  all_goals
    go_simp

set_option maxRecDepth 20000 in
set_option maxHeartbeats 4000000 in
theorem rvalid_any (a b : Nat) (ha : a ≤ 18446744073709551615) (hb : b ≤ 18446744073709551615) (w : World) : Calls Try.prog 41 #[.agg #[.int .u64 a, .int .u64 b]] w fun e w' => e = .returned (.bool (vld a b)) ∧ Below w.heap.size w w' := by
  have hm : Try.prog.eqGuardType Try.prog.depth 24 = false := by kernel_rfl
  have S := fun w => rsound_any a b ha hb w
  unfold vld
  obtain ⟨n0, h0⟩ : ∃ n, decide (a = Vg.atn true Vg.PI ∧ b = Vg.atn true (-Vg.PI)) = n := ⟨_, rfl⟩
  have e1 := eqUU (a := a) (b := b) (c := Vg.atn true Vg.PI) (d := Vg.atn true (-Vg.PI)) n0 (by rw [← h0, decide_eq_true_iff])
  obtain ⟨n1, h1⟩ : ∃ n, Vg.snd a b = n := ⟨_, rfl⟩
  obtain ⟨n2, h2⟩ : ∃ n, nzb a = n := ⟨_, rfl⟩
  obtain ⟨n3, h3⟩ : ∃ n, nzb b = n := ⟨_, rfl⟩
  have t2 : ((a : Int) != 9223372036854775808) = !n2 := by rw [← h2]; unfold nzb; rw [Bool.eq_iff_iff, bne_iff_ne, Bool.not_eq_true', decide_eq_false_iff_not]; omega
  have t3 : ((b : Int) != 9223372036854775808) = !n3 := by rw [← h3]; unfold nzb; rw [Bool.eq_iff_iff, bne_iff_ne, Bool.not_eq_true', decide_eq_false_iff_not]; omega
  rw [h1] at S
  rw [h0, h1, h2, h3]
  clear h0 h1 h2 h3 ha hb
  cases n0 <;> cases n1 <;> cases n2 <;> cases n3
  all_goals
    go_enter Try.func41, Try.ntmps41
    go_upto_region 1 with fail
    have m0 : (w.alloc (.cells #[.int .u64 a, .int .u64 b] 24)).cell? ⟨w.heap.size, 0, none⟩ = some (.int .u64 a) := by simp
    have m1 : (w.alloc (.cells #[.int .u64 a, .int .u64 b] 24)).cell? ⟨w.heap.size, 1, none⟩ = some (.int .u64 b) := by simp
    have z : w.heap.size < (w.alloc (.cells #[.int .u64 a, .int .u64 b] 24)).heap.size := by simp
    have g : Below w.heap.size w (w.alloc (.cells #[.int .u64 a, .int .u64 b] 24)) := b_one
    generalize w.alloc (.cells #[.int .u64 a, .int .u64 b] 24) = W0 at *
    go_region_held3 (fun wx => wx.cell? ⟨w.heap.size, 0, none⟩ = some (.int .u64 a) ∧ wx.cell? ⟨w.heap.size, 1, none⟩ = some (.int .u64 b) ∧ w.heap.size < wx.heap.size ∧ Below w.heap.size w wx)
      ((((try dsimp only); (repeat' apply And.intro) <;> first | assumption | (simp [*]; done) | exact Below.drew (by assumption) | exact keep_cell hb1 (by first | (dsimp only; omega) | (simp; omega)) (by simp [*]) | (have := hb1.size; omega) | (have := hb1.size; simp at this; omega) | exact bch (by simp [*]) hb1 | exact bch (Below.drew (by simp [*])) hb1)))
      (first | (go_at_call 33; (with_reducible refine (rempty_any _).mono ?_); rintro e w' ⟨rfl, hb1⟩))
    rename_i hh
    obtain ⟨m0, m1, z, g⟩ := hh
    go_wp2_with fail
    first
      | (go_ret; exact ⟨rfl, g⟩)
      | (refine (S _).mono ?_; rintro e w2 ⟨rfl, hb2⟩
         have m0 := keep_cell hb2 z m0
         have m1 := keep_cell hb2 z m1
         have g := bch g hb2
         clear hb2
         go_wp2
         go_ret
         exact ⟨rfl, g⟩)
def TRGet (xs : List Nat) (w : World) (e : Ending) (w' : World) : Prop :=
  e = .returned (.tuple #[.agg #[.int .u64 (if gOk xs then gLo xs else 0 : Nat), .int .u64 (if gOk xs then gHi xs else 0 : Nat)], .int .i64 (if gOk xs then 0 else 130)]) ∧ Below w.heap.size w w'
theorem TRGet.yes {xs : List Nat} {w w' : World} {e : Ending} (h : TRGet xs w e w') (k : gOk xs = true) : e = .returned (.tuple #[.agg #[.int .u64 (gLo xs : Nat), .int .u64 (gHi xs : Nat)], .int .i64 0]) ∧ Below w.heap.size w w' := by
  unfold TRGet at h; rw [k] at h; simpa using h
theorem TRGet.no {xs : List Nat} {w w' : World} {e : Ending} (h : TRGet xs w e w') (k : gOk xs = false) : e = .returned (.tuple #[.agg #[.int .u64 0, .int .u64 0], .int .i64 130]) ∧ Below w.heap.size w w' := by
  unfold TRGet at h; rw [k] at h; simpa using h
theorem form_own {xs : List Nat} (hl : xs.length = 16) (hb : ∀ b ∈ xs, b < 256) : nby 8 (gLo xs) ++ nby 8 (gHi xs) = xs := by
  have h1 := nby_num (xs.take 8) fun b h => hb b (List.mem_of_mem_take h)
  have h2 := nby_num (xs.drop 8) fun b h => hb b (List.mem_of_mem_drop h)
  rw [List.length_take, show min 8 xs.length = 8 by omega] at h1
  rw [List.length_drop, show xs.length - 8 = 8 by omega] at h2
  unfold gLo gHi
  rw [h1, h2, List.take_append_drop]
set_option maxRecDepth 20000 in
set_option maxHeartbeats 4000000 in
theorem rget_any (v : Value) (xs : List Nat) (w : World) (hR : Rb w v xs) (hb : ∀ b ∈ xs, b < 256) : Calls Try.prog 30 #[v] w (TRGet xs w) := by
  by_cases hl : xs.length = 16
  · have hb' := gLo_le hl hb
    have ht1 : (xs.drop 0).take 8 = xs.take 8 := rfl
    have ht2 : (xs.drop 8).take 8 = xs.drop 8 := List.take_of_length_le (by rw [List.length_drop]; omega)
    have T1 := fun w (hR : Rb w v xs) => rtaken_any v xs 0 w hR hb (by omega) (by omega)
    have T2 := fun w (hR : Rb w v xs) => rtaken_any v xs 8 w hR hb (by omega) (by omega)
    rw [ht1] at T1
    rw [ht2] at T2
    change ∀ w', _ → Calls _ _ _ _ (fun e w'' => e = .returned (.int .u64 (gLo xs : Nat)) ∧ w' = w'') at T1
    change ∀ w', _ → Calls _ _ _ _ (fun e w'' => e = .returned (.int .u64 (gHi xs : Nat)) ∧ w' = w'') at T2
    have V := fun w => rvalid_any (gLo xs) (gHi xs) hb'.1 hb'.2 w
    have F := fun w => rform_any (gLo xs) (gHi xs) hb'.1 hb'.2 w
    have LK := fun v2 w (h1 : Rb w v2 xs) (h2 : Rb w v xs) => (like_any v2 v xs xs w h1 h2 (by omega)).mono (fun _ _ h => h.yes rfl)
    rw [form_own hl hb] at F
    have e : gOk xs = vld (gLo xs) (gHi xs) := by unfold gOk; rw [decide_eq_true hl]; rfl
    have HR := hide hR
    obtain ⟨A, c, rfl⟩ := hR.len
    unfold TRGet
    rw [e]
    rw [hl] at T1 T2 LK HR ⊢
    clear e hl hb hb' hR ht1 ht2
    obtain ⟨n, hn⟩ : ∃ n, vld (gLo xs) (gHi xs) = n := ⟨_, rfl⟩
    obtain ⟨L, hL⟩ : ∃ n, gLo xs = n := ⟨_, rfl⟩
    obtain ⟨H, hH⟩ : ∃ n, gHi xs = n := ⟨_, rfl⟩
    rw [hn, hL, hH] at V
    rw [hL] at T1
    rw [hH] at T2
    rw [hL, hH] at F
    rw [hn, hL, hH]
    clear hn hL hH
    cases n
    all_goals
      go_enter Try.func30, Try.ntmps30
      go_wp2_with fail
      refine (T1 _ (HR.out.keep b_two)).mono ?_; rintro e w' ⟨rfl, rfl⟩
      go_wp2_with fail
      refine (T2 _ (HR.out.keep b_two)).mono ?_; rintro e w' ⟨rfl, rfl⟩
      go_wp2_with fail
      have g : Below w.heap.size w (((w.alloc (.cells #[.int .u64 0, .int .u64 0] 24)).alloc (.cells #[.int .u64 0, .int .u64 0] 24)).alloc (.cells #[.int .u64 L, .int .u64 H] 24)) := (b_two.alloc (by simp; omega) _)
      have k0 : (((w.alloc (.cells #[.int .u64 0, .int .u64 0] 24)).alloc (.cells #[.int .u64 0, .int .u64 0] 24)).alloc (.cells #[.int .u64 L, .int .u64 H] 24)).cell? ⟨w.heap.size, 0, none⟩ = some (.int .u64 0) := by simp [go_sem]
      have k1 : (((w.alloc (.cells #[.int .u64 0, .int .u64 0] 24)).alloc (.cells #[.int .u64 0, .int .u64 0] 24)).alloc (.cells #[.int .u64 L, .int .u64 H] 24)).cell? ⟨w.heap.size, 1, none⟩ = some (.int .u64 0) := by simp [go_sem]
      have j0 : (((w.alloc (.cells #[.int .u64 0, .int .u64 0] 24)).alloc (.cells #[.int .u64 0, .int .u64 0] 24)).alloc (.cells #[.int .u64 L, .int .u64 H] 24)).cell? ⟨w.heap.size + 1, 0, none⟩ = some (.int .u64 0) := by simp [go_sem]
      have j1 : (((w.alloc (.cells #[.int .u64 0, .int .u64 0] 24)).alloc (.cells #[.int .u64 0, .int .u64 0] 24)).alloc (.cells #[.int .u64 L, .int .u64 H] 24)).cell? ⟨w.heap.size + 1, 1, none⟩ = some (.int .u64 0) := by simp [go_sem]
      have l0 : (((w.alloc (.cells #[.int .u64 0, .int .u64 0] 24)).alloc (.cells #[.int .u64 0, .int .u64 0] 24)).alloc (.cells #[.int .u64 L, .int .u64 H] 24)).cell? ⟨w.heap.size + 1 + 1, 0, none⟩ = some (.int .u64 L) := by simp [go_sem]
      have l1 : (((w.alloc (.cells #[.int .u64 0, .int .u64 0] 24)).alloc (.cells #[.int .u64 0, .int .u64 0] 24)).alloc (.cells #[.int .u64 L, .int .u64 H] 24)).cell? ⟨w.heap.size + 1 + 1, 1, none⟩ = some (.int .u64 H) := by simp [go_sem]
      have f0 : (((w.alloc (.cells #[.int .u64 0, .int .u64 0] 24)).alloc (.cells #[.int .u64 0, .int .u64 0] 24)).alloc (.cells #[.int .u64 L, .int .u64 H] 24)).frozen? ⟨w.heap.size, 0, none⟩ = false := by simp [go_sem]
      have f1 : (((w.alloc (.cells #[.int .u64 0, .int .u64 0] 24)).alloc (.cells #[.int .u64 0, .int .u64 0] 24)).alloc (.cells #[.int .u64 L, .int .u64 H] 24)).frozen? ⟨w.heap.size, 1, none⟩ = false := by simp [go_sem]
      have z0 : w.heap.size < (((w.alloc (.cells #[.int .u64 0, .int .u64 0] 24)).alloc (.cells #[.int .u64 0, .int .u64 0] 24)).alloc (.cells #[.int .u64 L, .int .u64 H] 24)).heap.size := by simp; omega
      have z1 : w.heap.size + 1 < (((w.alloc (.cells #[.int .u64 0, .int .u64 0] 24)).alloc (.cells #[.int .u64 0, .int .u64 0] 24)).alloc (.cells #[.int .u64 L, .int .u64 H] 24)).heap.size := by simp
      have z2 : w.heap.size + 1 + 1 < (((w.alloc (.cells #[.int .u64 0, .int .u64 0] 24)).alloc (.cells #[.int .u64 0, .int .u64 0] 24)).alloc (.cells #[.int .u64 L, .int .u64 H] 24)).heap.size := by simp
      generalize (((w.alloc (.cells #[.int .u64 0, .int .u64 0] 24)).alloc (.cells #[.int .u64 0, .int .u64 0] 24)).alloc (.cells #[.int .u64 L, .int .u64 H] 24)) = W1 at *
      refine (V _).mono ?_; rintro e w2 ⟨rfl, hb⟩
      have k0 := keep_cell hb z0 k0
      have k1 := keep_cell hb z0 k1
      have j0 := keep_cell hb z1 j0
      have j1 := keep_cell hb z1 j1
      have l0 := keep_cell hb z2 l0
      have l1 := keep_cell hb z2 l1
      have f0 := keep_free hb z0 f0
      have f1 := keep_free hb z0 f1
      have z0 := Nat.lt_of_lt_of_le z0 hb.size
      have z1 := Nat.lt_of_lt_of_le z1 hb.size
      have z2 := Nat.lt_of_lt_of_le z2 hb.size
      have g := bch g hb
      have hb2 := hb
      clear hb
      go_wp2_with fail
    · exact bodyPost_ret (v := .tuple #[.agg #[.int .u64 0, .int .u64 0], .int .i64 130]) (by simp [results, Try.results30, go_sem, *]) rfl ⟨rfl, (g.setCell (by dsimp only <;> omega) _).setCell (by dsimp only <;> omega) _⟩
    · refine (F _).mono ?_; rintro e w3 ⟨v, rfl, ho, hb⟩
      have k0 := keep_cell hb z0 k0
      have k1 := keep_cell hb z0 k1
      have j0 := keep_cell hb z1 j0
      have j1 := keep_cell hb z1 j1
      have l0 := keep_cell hb z2 l0
      have l1 := keep_cell hb z2 l1
      have f0 := keep_free hb z0 f0
      have f1 := keep_free hb z0 f1
      have z0 := Nat.lt_of_lt_of_le z0 hb.size
      have z1 := Nat.lt_of_lt_of_le z1 hb.size
      have z2 := Nat.lt_of_lt_of_le z2 hb.size
      have g := bch g hb
      have R2 := hide (Rb.own ho)
      have R1 := hide (HR.out.keep g)
      clear hb ho
      go_wp2_with fail
      refine (LK _ _ R2.out R1.out).mono ?_; rintro e w4 ⟨rfl, hb⟩
      have k0 := keep_cell hb z0 k0
      have k1 := keep_cell hb z0 k1
      have j0 := keep_cell hb z1 j0
      have j1 := keep_cell hb z1 j1
      have l0 := keep_cell hb z2 l0
      have l1 := keep_cell hb z2 l1
      have f0 := keep_free hb z0 f0
      have f1 := keep_free hb z0 f1
      have z0 := Nat.lt_of_lt_of_le z0 hb.size
      have z1 := Nat.lt_of_lt_of_le z1 hb.size
      have z2 := Nat.lt_of_lt_of_le z2 hb.size
      have g := bch g hb
      clear hb
      go_wp2_with fail
      exact bodyPost_ret (v := .tuple #[.agg #[.int .u64 L, .int .u64 H], .int .i64 0]) (by simp [results, Try.results30, go_sem, *]) rfl ⟨rfl, (g.setCell (by dsimp only <;> omega) _).setCell (by dsimp only <;> omega) _⟩
  · have e : gOk xs = false := by unfold gOk; rw [decide_eq_false hl]; rfl
    obtain ⟨A, c, rfl⟩ := hR.len
    obtain ⟨N, hN⟩ : ∃ n, xs.length = n := ⟨_, rfl⟩
    rw [hN] at hl ⊢
    have t1 : (N == 16) = false := beq_eq_false_iff_ne.2 hl
    have t2 : ((N : Int) == 16) = false := by rw [beq_eq_false_iff_ne]; omega
    have t3 : ((N : Int) != 16) = true := by rw [bne_iff_ne]; omega
    have E := hide e
    clear hR hN hl hb e
    go_enter Try.func30, Try.ntmps30
    go_wp2
    unfold TRGet
    rw [E.out]
    exact bodyPost_ret (v := .tuple #[.agg #[.int .u64 0, .int .u64 0], .int .i64 130]) (by simp [results, Try.results30, go_sem]) rfl ⟨rfl, b_two⟩
end Go.Proofs.Ytaecbapflpejmaa
