/- Contracts of the smallest functions on intervals. -/
import Derived.Test.YtljnadoodbninaaWTool
import Derived.Test.YtljnadoodbninaaMIv
import Derived.Test.YtljnadoodbninaaWHeld
import Derived.Deep.RegionWith
namespace Go.Proofs.Ytljnadoodbninaa
open Go.RowKit

theorem bits64 (b : Nat) (w : World) : (callFunc 67 #[.float .f64 b]).run Try.prog w = .ok (.value (.int .u64 b)) w := by kernel_rfl
theorem frombits64 (z : Int) (w : World) : (callFunc 26 #[.int .u64 z]).run Try.prog w = .ok (.value (.float .f64 z.toNat)) w := by kernel_rfl
/-- A float is stored as any value of one cell (the kit has it of the other kinds). -/
theorem sto (a : Addr) (k : FloatKind) (b : Nat) (m : Mode) (w : World) : (store a (.float k b) m).run Try.prog w = stored Try.prog w a (.float k b) m := run_store Try.prog w a _ m rfl
theorem bch {w w1 w2 : World} (h1 : Below w.heap.size w w1) (h2 : Below w1.heap.size w1 w2) : Below w.heap.size w w2 := h1.trans (h2.mono h1.size)
theorem bch_one {w w1 : World} {o : Obj} (h : Below (w.alloc o).heap.size (w.alloc o) w1) : Below w.heap.size w w1 := ((Below.refl _ _).alloc (Nat.le_refl _) o).trans (h.mono (by simp))
theorem keep_free {w w' : World} {p : Addr} (h : Below w.heap.size w w') (hp : p.block < w.heap.size) (hc : w.frozen? p = false) : w'.frozen? p = false := (h.frozen hp).trans hc
theorem b_one {w : World} {o : Obj} : Below w.heap.size w (w.alloc o) := (Below.refl _ _).alloc (Nat.le_refl _) o
theorem b_two {w : World} {o p : Obj} : Below w.heap.size w ((w.alloc o).alloc p) := b_one.alloc (by simp) p
theorem b_end {w : World} {o p : Obj} : Below w.heap.size w ((w.alloc o).alloc p).drew := b_two.drew
theorem b_drew {w : World} : Below w.heap.size w w.drew := (Below.refl _ _).drew

theorem inf_top (w : World) : Calls Try.prog 65 #[.int .i64 1] w fun e w' => e = .returned (.float .f64 (Vg.atn true Vg.PI)) ∧ w = w' := by
  have hx := frombits64 9218868437227405312
  go_enter Try.func65, Try.ntmps65
  go_wp2
  go_ret
  exact ⟨congrArg (fun b => Ending.returned (.float .f64 b)) Vg.atn_top.symm, rfl⟩
theorem inf_bot (w : World) : Calls Try.prog 65 #[.int .i64 (-1)] w fun e w' => e = .returned (.float .f64 (Vg.atn true (-Vg.PI))) ∧ w = w' := by
  have hx := frombits64 18442240474082181120
  go_enter Try.func65, Try.ntmps65
  go_wp2
  go_ret
  exact ⟨congrArg (fun b => Ending.returned (.float .f64 b)) Vg.atn_bot.symm, rfl⟩

theorem plain_any (x : Nat) (hx : x ≤ 18446744073709551615) (w : World) : Calls Try.prog 103 #[.float .f64 x] w fun e w' => e = .returned (.float .f64 (Vg.plainb true x)) ∧ w = w' := by
  have hz := Vg.zero_eq x hx
  by_cases h : Vg.rg true x = 0
  · have e1 : Vg.plainb true x = 0 := if_pos h
    rw [decide_eq_true h] at hz
    rw [e1]
    clear h e1 hx
    go_enter Try.func103, Try.ntmps103
    go_wp2
    go_ret
    exact ⟨rfl, rfl⟩
  · have e1 : Vg.plainb true x = x := if_neg h
    rw [decide_eq_false h] at hz
    rw [e1]
    clear h e1 hx
    go_enter Try.func103, Try.ntmps103
    go_wp2
    go_ret
    exact ⟨rfl, rfl⟩

theorem sound_any (a b : Nat) (ha : a ≤ 18446744073709551615) (hb : b ≤ 18446744073709551615) (w : World) : Calls Try.prog 102 #[.float .f64 a, .float .f64 b] w fun e w' => e = .returned (.bool (Vg.snd a b)) ∧ w = w' := by
  rcases Vg.snd_ways a b ha hb with ⟨hs, h | h⟩ | ⟨h | h, ⟨hs, g⟩ | ⟨g, ⟨hs, k⟩ | ⟨hs, k⟩⟩⟩
  all_goals
    rw [hs]
    clear hs ha hb
    go_enter Try.func102, Try.ntmps102
    go_wp2_with (go_at_call 65; first | ((with_reducible refine (inf_top _).mono ?_); rintro e w' ⟨rfl, rfl⟩) | ((with_reducible refine (inf_bot _).mono ?_); rintro e w' ⟨rfl, rfl⟩))
    go_ret
    exact ⟨rfl, rfl⟩

theorem empty_any (w : World) : Calls Try.prog 72 #[] w fun e w' => e = .returned (.agg #[.float .f64 (Vg.atn true Vg.PI), .float .f64 (Vg.atn true (-Vg.PI))]) ∧ Below w.heap.size w w' := by
  have hst := sto
  go_enter Try.func72, Try.ntmps72
  go_wp2_with (go_at_call 65; first | ((with_reducible refine (inf_top _).mono ?_); rintro e w' ⟨rfl, rfl⟩) | ((with_reducible refine (inf_bot _).mono ?_); rintro e w' ⟨rfl, rfl⟩))
  exact bodyPost_ret (v := .agg #[.float .f64 (Vg.atn true Vg.PI), .float .f64 (Vg.atn true (-Vg.PI))]) (by simp [results, Try.results72, go_sem]) rfl ⟨rfl, b_one⟩

set_option maxHeartbeats 1000000 in
theorem in_any (a b : Int) (w : World) : Calls Try.prog 21 #[.agg #[.int .u64 a, .int .u64 b]] w fun e w' => e = .returned (.agg #[.float .f64 a.toNat, .float .f64 b.toNat]) ∧ Below w.heap.size w w' := by
  have hst := sto
  have h1 := frombits64 a
  have h2 := frombits64 b
  go_enter Try.func21, Try.ntmps21
  go_wp2
  go_region
  go_wp2
  exact bodyPost_ret (v := .agg #[.float .f64 a.toNat, .float .f64 b.toNat]) (by simp [results, Try.results21, go_sem]) rfl ⟨rfl, b_end⟩

set_option maxHeartbeats 1000000 in
theorem out_any (a b : Nat) (w : World) : Calls Try.prog 19 #[.agg #[.float .f64 a, .float .f64 b]] w fun e w' => e = .returned (.agg #[.int .u64 a, .int .u64 b]) ∧ Below w.heap.size w w' := by
  have hst := sto
  have h1 := bits64 a
  have h2 := bits64 b
  go_enter Try.func19, Try.ntmps19
  go_wp2
  go_region
  go_wp2
  exact bodyPost_ret (v := .agg #[.int .u64 a, .int .u64 b]) (by simp [results, Try.results19, go_sem]) rfl ⟨rfl, b_end⟩

theorem of_any (a b : Nat) (w : World) : Calls Try.prog 62 #[.float .f64 a, .float .f64 b] w fun e w' => e = .returned (.agg #[.float .f64 a, .float .f64 b]) ∧ Below w.heap.size w w' := by
  have hst := sto
  go_enter Try.func62, Try.ntmps62
  go_wp2
  exact bodyPost_ret (v := .agg #[.float .f64 a, .float .f64 b]) (by simp [results, Try.results62, go_sem]) rfl ⟨rfl, b_one⟩

set_option maxHeartbeats 1000000 in
theorem read_any (a b : Nat) (p q : Int) (h : Vg.Rd a b p q) (w : World) : Calls Try.prog 73 #[.agg #[.float .f64 a, .float .f64 b]] w fun e w' => e = .returned (.agg #[.float .f64 (Vg.atn true p), .float .f64 (Vg.atn true q)]) ∧ Below w.heap.size w w' := by
  have hst := sto
  have HA := hide h.1
  have HB := hide h.2.1
  obtain ⟨-, -, ⟨h1, h2, rfl, rfl, h3, h4, h5⟩ | ⟨hs, rfl, rfl⟩⟩ := h
  · have hs := hide ((Vg.snd_iff a b).2 ⟨h1, h2, h3, h4, h5⟩)
    have e1 := hide (Vg.plain_atn HA.out h1)
    have e2 := hide (Vg.plain_atn HB.out h2)
    clear h1 h2 h3 h4 h5
    go_enter Try.func73, Try.ntmps73
    go_wp2_with fail
    refine (sound_any a b HA.out HB.out _).mono ?_; rintro e w' ⟨rfl, rfl⟩
    rw [hs.out]
    go_wp2
    go_region_with (go_at_call 103; first | ((with_reducible refine (plain_any a HA.out _).mono ?_); rintro e w' ⟨rfl, rfl⟩; rw [e1.out]) | ((with_reducible refine (plain_any b HB.out _).mono ?_); rintro e w' ⟨rfl, rfl⟩; rw [e2.out]))
    all_goals go_wp2
    all_goals exact bodyPost_ret (v := .agg #[.float .f64 (Vg.atn true (Vg.pl true a)), .float .f64 (Vg.atn true (Vg.pl true b))]) (by simp [results, Try.results73, go_sem]) rfl ⟨rfl, b_end⟩
  · have HS := hide hs
    clear hs
    go_enter Try.func73, Try.ntmps73
    go_wp2_with fail
    refine (sound_any a b HA.out HB.out _).mono ?_; rintro e w' ⟨rfl, rfl⟩
    rw [HS.out]
    go_wp2_with fail
    refine (empty_any _).mono ?_; rintro e w' ⟨rfl, hb1⟩
    have k0 : w'.cell? ⟨w.heap.size + 1, 0, none⟩ = some (.float .f64 0) := keep_cell hb1 (by simp) (by simp)
    have k1 : w'.cell? ⟨w.heap.size + 1, 1, none⟩ = some (.float .f64 0) := keep_cell hb1 (by simp) (by simp)
    have f0 : w'.frozen? ⟨w.heap.size + 1, 0, none⟩ = false := keep_free hb1 (by simp) (by simp)
    have f1 : w'.frozen? ⟨w.heap.size + 1, 1, none⟩ = false := keep_free hb1 (by simp) (by simp)
    have g := b_two.trans (hb1.mono (by simp; omega))
    clear hb1
    go_wp2
    exact bodyPost_ret (v := .agg #[.float .f64 (Vg.atn true Vg.PI), .float .f64 (Vg.atn true (-Vg.PI))]) (by simp [results, Try.results73, go_sem, k0, k1]) rfl ⟨rfl, (g.setCell (by simp) _).setCell (by simp) _⟩

theorem isinf_any (b : Nat) (n : Bool) (hn : Vg.infb b = n) (hb : b ≤ 18446744073709551615) (w : World) : Calls Try.prog 74 #[.float .f64 b, .int .i64 0] w fun e w' => e = .returned (.bool n) ∧ w = w' := by
  have h1 := bits64 b
  have h2 := Vg.andNot64 b hb
  have h3 := Vg.inf_gt b
  rw [hn] at h3
  obtain ⟨r, hr⟩ : ∃ r, Vg.rg true b = r := ⟨_, rfl⟩
  rw [hr] at h2 h3
  have h4 := frombits64 (r : Int)
  rw [Int.toNat_natCast] at h4
  have ha : ∀ w, Calls Try.prog 104 #[.float .f64 b] w fun e w' => e = .returned (.float .f64 r) ∧ w = w' := by
    intro w
    clear h3 hn hr hb
    go_enter Try.func104, Try.ntmps104
    go_wp2
    go_ret
    exact ⟨rfl, rfl⟩
  clear h1 h2 h4 hn hr hb
  go_enter Try.func74, Try.ntmps74
  go_wp2_with (go_at_call 104; refine (ha _).mono ?_; rintro e w' ⟨rfl, rfl⟩)
  go_ret
  exact ⟨rfl, rfl⟩
end Go.Proofs.Ytljnadoodbninaa
