/- Every Split of the program is the reference's. The walk. -/
import Derived.Test.YtgehcnlfplcaaaaWSplit
import Derived.Test.YtgehcnlfplcaaaaWBd
import Derived.Test.YtgehcnlfplcaaaaWHeld
import Derived.Test.YtgehcnlfplcaaaaWAtR
namespace Go.Proofs.Ytgehcnlfplcaaaa.fbitSplits
open Go.RowKit

def ToldP64 (b : Nat) (w : World) (e : Ending) (w' : World) : Prop := ∃ n s x o, e = .returned (.agg #[.bool n, .int .u64 s, .int .i64 x, .bool o]) ∧ IsSp64 b n s x o ∧ Below w.heap.size w w'
set_option maxHeartbeats 1000000 in
theorem parts64 (b : Nat) (hb : b ≤ 18446744073709551615) (w : World) : Calls Try.prog 49 #[.int .u64 b] w (ToldP64 b w) := by
  have HB := hide hb
  clear hb
  have c1 := convTo64 b
  go_enter Try.func49, Try.ntmps49
  go_wp2_with (go_at_call 22; refine (long_any _ _).mono ?_; rintro e w' ⟨rfl, rfl⟩)
  refine (split64 b HB.out _).mono ?_; rintro e w1 ⟨n, s, x, o, rfl, h, hb1⟩
  have H := hide h
  clear h
  have k0 : w1.cell? ⟨w.heap.size, 0, none⟩ = some (.bool false) := keep_cell hb1 (by simp) (by simp)
  have k1 : w1.cell? ⟨w.heap.size, 1, none⟩ = some (.int .u64 0) := keep_cell hb1 (by simp) (by simp)
  have k2 : w1.cell? ⟨w.heap.size, 2, none⟩ = some (.int .i64 0) := keep_cell hb1 (by simp) (by simp)
  have k3 : w1.cell? ⟨w.heap.size, 3, none⟩ = some (.bool false) := keep_cell hb1 (by simp) (by simp)
  have f0 : w1.frozen? ⟨w.heap.size, 0, none⟩ = false := (hb1.frozen (p := ⟨w.heap.size, 0, none⟩) (by simp)).trans (by simp)
  have f1 : w1.frozen? ⟨w.heap.size, 1, none⟩ = false := (hb1.frozen (p := ⟨w.heap.size, 1, none⟩) (by simp)).trans (by simp)
  have f2 : w1.frozen? ⟨w.heap.size, 2, none⟩ = false := (hb1.frozen (p := ⟨w.heap.size, 2, none⟩) (by simp)).trans (by simp)
  have f3 : w1.frozen? ⟨w.heap.size, 3, none⟩ = false := (hb1.frozen (p := ⟨w.heap.size, 3, none⟩) (by simp)).trans (by simp)
  have g := bch_one hb1
  clear hb1
  go_wp2
  refine bodyPost_ret (v := .agg #[.bool n, .int .u64 s, .int .i64 x, .bool o]) (by simp [results, Try.results49, go_sem, k0, k1, k2, k3]) rfl ⟨n, s, x, o, rfl, H.out, ?_⟩
  exact (((g.setCell (by simp) _).setCell (by simp) _).setCell (by simp) _).setCell (by simp) _

def ToldPFar (b : Nat) (w : World) (e : Ending) (w' : World) : Prop := ∃ n s x o, e = .returned (.agg #[.bool n, .int .u64 s, .int .i64 x, .bool o]) ∧ IsSp64 b n s x o ∧ Below w.heap.size w w'
set_option maxHeartbeats 1000000 in
theorem partsFar (b : Nat) (hb : b ≤ 18446744073709551615) (w : World) : Calls Try.prog 50 #[.int .u64 b] w (ToldPFar b w) := by
  have HB := hide hb
  clear hb
  have c1 := convToFar b
  go_enter Try.func50, Try.ntmps50
  go_wp2_with (go_at_call 22; refine (long_any _ _).mono ?_; rintro e w' ⟨rfl, rfl⟩)
  refine (splitFar b HB.out _).mono ?_; rintro e w1 ⟨n, s, x, o, rfl, h, hb1⟩
  have H := hide h
  clear h
  have k0 : w1.cell? ⟨w.heap.size, 0, none⟩ = some (.bool false) := keep_cell hb1 (by simp) (by simp)
  have k1 : w1.cell? ⟨w.heap.size, 1, none⟩ = some (.int .u64 0) := keep_cell hb1 (by simp) (by simp)
  have k2 : w1.cell? ⟨w.heap.size, 2, none⟩ = some (.int .i64 0) := keep_cell hb1 (by simp) (by simp)
  have k3 : w1.cell? ⟨w.heap.size, 3, none⟩ = some (.bool false) := keep_cell hb1 (by simp) (by simp)
  have f0 : w1.frozen? ⟨w.heap.size, 0, none⟩ = false := (hb1.frozen (p := ⟨w.heap.size, 0, none⟩) (by simp)).trans (by simp)
  have f1 : w1.frozen? ⟨w.heap.size, 1, none⟩ = false := (hb1.frozen (p := ⟨w.heap.size, 1, none⟩) (by simp)).trans (by simp)
  have f2 : w1.frozen? ⟨w.heap.size, 2, none⟩ = false := (hb1.frozen (p := ⟨w.heap.size, 2, none⟩) (by simp)).trans (by simp)
  have f3 : w1.frozen? ⟨w.heap.size, 3, none⟩ = false := (hb1.frozen (p := ⟨w.heap.size, 3, none⟩) (by simp)).trans (by simp)
  have g := bch_one hb1
  clear hb1
  go_wp2
  refine bodyPost_ret (v := .agg #[.bool n, .int .u64 s, .int .i64 x, .bool o]) (by simp [results, Try.results50, go_sem, k0, k1, k2, k3]) rfl ⟨n, s, x, o, rfl, H.out, ?_⟩
  exact (((g.setCell (by simp) _).setCell (by simp) _).setCell (by simp) _).setCell (by simp) _

def ToldP32 (b : Nat) (w : World) (e : Ending) (w' : World) : Prop := ∃ n s x o, e = .returned (.agg #[.bool n, .int .u64 s, .int .i64 x, .bool o]) ∧ IsSp32 b n s x o ∧ Below w.heap.size w w'
set_option maxHeartbeats 1000000 in
theorem parts32 (b : Nat) (hb : b ≤ 4294967295) (w : World) : Calls Try.prog 51 #[.int .u32 b] w (ToldP32 b w) := by
  have HB := hide hb
  clear hb
  have c1 := convTo32 b
  go_enter Try.func51, Try.ntmps51
  go_wp2_with (go_at_call 26; refine (brief_any _ _).mono ?_; rintro e w' ⟨rfl, rfl⟩)
  refine (split32 b HB.out _).mono ?_; rintro e w1 ⟨n, s, x, o, rfl, h, hb1⟩
  have H := hide h
  clear h
  have k0 : w1.cell? ⟨w.heap.size, 0, none⟩ = some (.bool false) := keep_cell hb1 (by simp) (by simp)
  have k1 : w1.cell? ⟨w.heap.size, 1, none⟩ = some (.int .u64 0) := keep_cell hb1 (by simp) (by simp)
  have k2 : w1.cell? ⟨w.heap.size, 2, none⟩ = some (.int .i64 0) := keep_cell hb1 (by simp) (by simp)
  have k3 : w1.cell? ⟨w.heap.size, 3, none⟩ = some (.bool false) := keep_cell hb1 (by simp) (by simp)
  have f0 : w1.frozen? ⟨w.heap.size, 0, none⟩ = false := (hb1.frozen (p := ⟨w.heap.size, 0, none⟩) (by simp)).trans (by simp)
  have f1 : w1.frozen? ⟨w.heap.size, 1, none⟩ = false := (hb1.frozen (p := ⟨w.heap.size, 1, none⟩) (by simp)).trans (by simp)
  have f2 : w1.frozen? ⟨w.heap.size, 2, none⟩ = false := (hb1.frozen (p := ⟨w.heap.size, 2, none⟩) (by simp)).trans (by simp)
  have f3 : w1.frozen? ⟨w.heap.size, 3, none⟩ = false := (hb1.frozen (p := ⟨w.heap.size, 3, none⟩) (by simp)).trans (by simp)
  have g := bch_one hb1
  clear hb1
  go_wp2
  refine bodyPost_ret (v := .agg #[.bool n, .int .u64 s, .int .i64 x, .bool o]) (by simp [results, Try.results51, go_sem, k0, k1, k2, k3]) rfl ⟨n, s, x, o, rfl, H.out, ?_⟩
  exact (((g.setCell (by simp) _).setCell (by simp) _).setCell (by simp) _).setCell (by simp) _

def ToldPNear (b : Nat) (w : World) (e : Ending) (w' : World) : Prop := ∃ n s x o, e = .returned (.agg #[.bool n, .int .u64 s, .int .i64 x, .bool o]) ∧ IsSp32 b n s x o ∧ Below w.heap.size w w'
set_option maxHeartbeats 1000000 in
theorem partsNear (b : Nat) (hb : b ≤ 4294967295) (w : World) : Calls Try.prog 52 #[.int .u32 b] w (ToldPNear b w) := by
  have HB := hide hb
  clear hb
  have c1 := convToNear b
  go_enter Try.func52, Try.ntmps52
  go_wp2_with (go_at_call 26; refine (brief_any _ _).mono ?_; rintro e w' ⟨rfl, rfl⟩)
  refine (splitNear b HB.out _).mono ?_; rintro e w1 ⟨n, s, x, o, rfl, h, hb1⟩
  have H := hide h
  clear h
  have k0 : w1.cell? ⟨w.heap.size, 0, none⟩ = some (.bool false) := keep_cell hb1 (by simp) (by simp)
  have k1 : w1.cell? ⟨w.heap.size, 1, none⟩ = some (.int .u64 0) := keep_cell hb1 (by simp) (by simp)
  have k2 : w1.cell? ⟨w.heap.size, 2, none⟩ = some (.int .i64 0) := keep_cell hb1 (by simp) (by simp)
  have k3 : w1.cell? ⟨w.heap.size, 3, none⟩ = some (.bool false) := keep_cell hb1 (by simp) (by simp)
  have f0 : w1.frozen? ⟨w.heap.size, 0, none⟩ = false := (hb1.frozen (p := ⟨w.heap.size, 0, none⟩) (by simp)).trans (by simp)
  have f1 : w1.frozen? ⟨w.heap.size, 1, none⟩ = false := (hb1.frozen (p := ⟨w.heap.size, 1, none⟩) (by simp)).trans (by simp)
  have f2 : w1.frozen? ⟨w.heap.size, 2, none⟩ = false := (hb1.frozen (p := ⟨w.heap.size, 2, none⟩) (by simp)).trans (by simp)
  have f3 : w1.frozen? ⟨w.heap.size, 3, none⟩ = false := (hb1.frozen (p := ⟨w.heap.size, 3, none⟩) (by simp)).trans (by simp)
  have g := bch_one hb1
  clear hb1
  go_wp2
  refine bodyPost_ret (v := .agg #[.bool n, .int .u64 s, .int .i64 x, .bool o]) (by simp [results, Try.results52, go_sem, k0, k1, k2, k3]) rfl ⟨n, s, x, o, rfl, H.out, ?_⟩
  exact (((g.setCell (by simp) _).setCell (by simp) _).setCell (by simp) _).setCell (by simp) _

set_option maxHeartbeats 1000000 in
theorem told64 (b : Nat) (hb : b ≤ 18446744073709551615) (w : World) : Calls Try.prog 48 #[.bool true, .int .u64 b] w (ToldP64 b w) := by
  have HB := hide hb
  clear hb
  go_enter Try.func48, Try.ntmps48
  go_wp2_with fail
  refine (rsplit64 b HB.out _).mono ?_; rintro e w1 ⟨n, s, x, o, rfl, h, hb1⟩
  have H := hide h
  clear h
  have k0 : w1.cell? ⟨w.heap.size, 0, none⟩ = some (.bool false) := keep_cell hb1 (by simp) (by simp)
  have k1 : w1.cell? ⟨w.heap.size, 1, none⟩ = some (.int .u64 0) := keep_cell hb1 (by simp) (by simp)
  have k2 : w1.cell? ⟨w.heap.size, 2, none⟩ = some (.int .i64 0) := keep_cell hb1 (by simp) (by simp)
  have k3 : w1.cell? ⟨w.heap.size, 3, none⟩ = some (.bool false) := keep_cell hb1 (by simp) (by simp)
  have f0 : w1.frozen? ⟨w.heap.size, 0, none⟩ = false := (hb1.frozen (p := ⟨w.heap.size, 0, none⟩) (by simp)).trans (by simp)
  have f1 : w1.frozen? ⟨w.heap.size, 1, none⟩ = false := (hb1.frozen (p := ⟨w.heap.size, 1, none⟩) (by simp)).trans (by simp)
  have f2 : w1.frozen? ⟨w.heap.size, 2, none⟩ = false := (hb1.frozen (p := ⟨w.heap.size, 2, none⟩) (by simp)).trans (by simp)
  have f3 : w1.frozen? ⟨w.heap.size, 3, none⟩ = false := (hb1.frozen (p := ⟨w.heap.size, 3, none⟩) (by simp)).trans (by simp)
  have g := bch_one hb1
  clear hb1
  go_wp2
  refine bodyPost_ret (v := .agg #[.bool n, .int .u64 s, .int .i64 x, .bool o]) (by simp [results, Try.results48, go_sem, k0, k1, k2, k3]) rfl ⟨n, s, x, o, rfl, H.out, ?_⟩
  exact (((g.setCell (by simp) _).setCell (by simp) _).setCell (by simp) _).setCell (by simp) _

set_option maxHeartbeats 1000000 in
theorem told32 (b : Nat) (hb : b ≤ 4294967295) (w : World) : Calls Try.prog 48 #[.bool false, .int .u64 b] w (ToldP32 b w) := by
  have HB := hide hb
  clear hb
  go_enter Try.func48, Try.ntmps48
  go_wp2_with fail
  refine (rsplit32 b HB.out _).mono ?_; rintro e w1 ⟨n, s, x, o, rfl, h, hb1⟩
  have H := hide h
  clear h
  have k0 : w1.cell? ⟨w.heap.size, 0, none⟩ = some (.bool false) := keep_cell hb1 (by simp) (by simp)
  have k1 : w1.cell? ⟨w.heap.size, 1, none⟩ = some (.int .u64 0) := keep_cell hb1 (by simp) (by simp)
  have k2 : w1.cell? ⟨w.heap.size, 2, none⟩ = some (.int .i64 0) := keep_cell hb1 (by simp) (by simp)
  have k3 : w1.cell? ⟨w.heap.size, 3, none⟩ = some (.bool false) := keep_cell hb1 (by simp) (by simp)
  have f0 : w1.frozen? ⟨w.heap.size, 0, none⟩ = false := (hb1.frozen (p := ⟨w.heap.size, 0, none⟩) (by simp)).trans (by simp)
  have f1 : w1.frozen? ⟨w.heap.size, 1, none⟩ = false := (hb1.frozen (p := ⟨w.heap.size, 1, none⟩) (by simp)).trans (by simp)
  have f2 : w1.frozen? ⟨w.heap.size, 2, none⟩ = false := (hb1.frozen (p := ⟨w.heap.size, 2, none⟩) (by simp)).trans (by simp)
  have f3 : w1.frozen? ⟨w.heap.size, 3, none⟩ = false := (hb1.frozen (p := ⟨w.heap.size, 3, none⟩) (by simp)).trans (by simp)
  have g := bch_one hb1
  clear hb1
  go_wp2
  refine bodyPost_ret (v := .agg #[.bool n, .int .u64 s, .int .i64 x, .bool o]) (by simp [results, Try.results48, go_sem, k0, k1, k2, k3]) rfl ⟨n, s, x, o, rfl, H.out, ?_⟩
  exact (((g.setCell (by simp) _).setCell (by simp) _).setCell (by simp) _).setCell (by simp) _

theorem mid_ch {w w2 w3 : World} {o : Obj} (g : Below w.heap.size w w2) (h : Below (w2.alloc o).drew.heap.size (w2.alloc o).drew w3) : Below w.heap.size w w3 :=
  (g.alloc g.size o).drew.trans (h.mono (by have := g.size; simp; omega))
theorem eqP (n : Bool) (s x : Int) (o : Bool) (w : World) : (Op.equalIn 10000 56 (.agg #[.bool n, .int .u64 s, .int .i64 x, .bool o]) (.agg #[.bool n, .int .u64 s, .int .i64 x, .bool o])).run Try.prog w = .ok true w := by
  have u3 := Try.underlying3
  have a3 := Try.isAgg3
  have z3 := Try.sizeOf3
  have u4 := Try.underlying4
  have a4 := Try.isAgg4
  have z4 := Try.sizeOf4
  have u22 := Try.underlying22
  have a22 := Try.isAgg22
  have z22 := Try.sizeOf22
  have hS : Try.prog.underlying 56 = some (.struct (Try.prog.fieldsOf 56)) := by kernel_rfl
  have hp : Try.prog.stoodInHeld 56 = false := by kernel_rfl
  rw [show (10000 : Nat) = 9999 + 1 from rfl, run_equalIn_agg w 9999 56 _ _ hS hp]
  simp only [Program.fieldsOf, Try.underlying56]
  go_simp

set_option maxHeartbeats 4000000 in
theorem walk (a0 : Int) (a1 : Int) (w0 : (Lit.int .u64 a0).wf = true) (w1 : (Lit.int .u32 a1).wf = true) (w : World) :
    Calls Try.prog 8 #[.int .u64 a0, .int .u32 a1] w fun e w' => e = .returned (.bool true) ∧ Below w.heap.size w w' := by
  have b0 := u64_bd w0
  have b1 := u32_bd w1
  clear w0 w1
  obtain ⟨a, rfl⟩ := Int.eq_ofNat_of_zero_le b0.1
  obtain ⟨b, rfl⟩ := Int.eq_ofNat_of_zero_le b1.1
  have HA : Hid (a ≤ 18446744073709551615) := hide (by omega)
  have hb : b ≤ 4294967295 := by omega
  clear b0 b1
  go_enter Try.func8, Try.ntmps8
  go_wp2_with fail
  refine (told64 a HA.out _).mono ?_; rintro e w1 ⟨n, s, x, o, rfl, h1, g1⟩
  go_wp2_with fail
  refine (told32 b hb _).mono ?_; rintro e w2 ⟨m, r, y, u, rfl, h2, g2⟩
  go_wp2_with fail
  have K0 : w1.heap.size < w2.heap.size ∧ True := ⟨by have := g2.size; simp at this; omega, trivial⟩
  have k0 : w2.cell? ⟨w1.heap.size, 0, none⟩ = some (.bool n) := keep_cell g2 (by simp) (by simp)
  have k1 : w2.cell? ⟨w1.heap.size, 1, none⟩ = some (.int .u64 s) := keep_cell g2 (by simp) (by simp)
  have k2 : w2.cell? ⟨w1.heap.size, 2, none⟩ = some (.int .i64 x) := keep_cell g2 (by simp) (by simp)
  have k3 : w2.cell? ⟨w1.heap.size, 3, none⟩ = some (.bool o) := keep_cell g2 (by simp) (by simp)
  have hS : Try.prog.underlying 56 = some (.struct (Try.prog.fieldsOf 56)) := by kernel_rfl
  have hp : Try.prog.stoodInHeld 56 = false := by kernel_rfl
  have hm : Try.prog.eqGuardType Try.prog.depth 56 = false := by kernel_rfl
  have q1 := eqP n s x o
  have q2 := eqP m r y u
  have g := bch g1 (bch_one g2)
  clear g1 g2
  go_region_held3 (fun w' => w1.heap.size < w'.heap.size ∧ w2.heap.size < w'.heap.size ∧ w'.cell? ⟨w1.heap.size, 0, none⟩ = some (.bool n) ∧ w'.cell? ⟨w1.heap.size, 1, none⟩ = some (.int .u64 s) ∧ w'.cell? ⟨w1.heap.size, 2, none⟩ = some (.int .i64 x) ∧ w'.cell? ⟨w1.heap.size, 3, none⟩ = some (.bool o) ∧
      w'.cell? ⟨w2.heap.size, 0, none⟩ = some (.bool m) ∧ w'.cell? ⟨w2.heap.size, 1, none⟩ = some (.int .u64 r) ∧ w'.cell? ⟨w2.heap.size, 2, none⟩ = some (.int .i64 y) ∧ w'.cell? ⟨w2.heap.size, 3, none⟩ = some (.bool u))
    (((try dsimp only); (repeat' apply And.intro) <;> first | omega | (simp [*]; done) | (simp; omega) | (have := hb1.size; omega) | (have := hb1.size; simp at this; omega) | exact keep_cell hb1 (by first | (dsimp only; omega) | (simp; done) | (simp; omega)) (by simp [*]) | exact keep_cell ((Below.refl _ w2).alloc (Nat.le_refl _) _).drew K0.1 k0 | exact keep_cell ((Below.refl _ w2).alloc (Nat.le_refl _) _).drew K0.1 k1 | exact keep_cell ((Below.refl _ w2).alloc (Nat.le_refl _) _).drew K0.1 k2 | exact keep_cell ((Below.refl _ w2).alloc (Nat.le_refl _) _).drew K0.1 k3))
    (first | (go_at_call 49; refine (parts64 a HA.out _).mono ?_; rintro e w' ⟨n', s', x', o', rfl, h3, hb1⟩; obtain ⟨rfl, rfl, rfl, rfl⟩ := h1.same h3) | (go_at_call 50; refine (partsFar a HA.out _).mono ?_; rintro e w' ⟨n', s', x', o', rfl, h4, hb1⟩; obtain ⟨rfl, rfl, rfl, rfl⟩ := h1.same h4) | (go_at_call 51; refine (parts32 b hb _).mono ?_; rintro e w' ⟨n', s', x', o', rfl, h5, hb1⟩; obtain ⟨rfl, rfl, rfl, rfl⟩ := h2.same h5) | (go_at_call 52; refine (partsNear b hb _).mono ?_; rintro e w' ⟨n', s', x', o', rfl, h6, hb1⟩; obtain ⟨rfl, rfl, rfl, rfl⟩ := h2.same h6))
  rename_i q1 wa q2 wb q3 hh
  have g := bch (bch (bch (mid_ch g q1) q2) q3) hb1
  clear q1 q2 q3 hb1 hh
  go_wp2
  go_ret
  exact ⟨rfl, g⟩

end Go.Proofs.Ytgehcnlfplcaaaa.fbitSplits
