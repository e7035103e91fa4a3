/- The program's Get. -/
import Derived.Test.YtaecbapflpejmaaWPkGet
import Derived.Deep.RegionWith
namespace Go.Proofs.Ytaecbapflpejmaa
open Go.RowKit
theorem b_alloc {w W : World} (h : Below w.heap.size w W) (o : Obj) : Below w.heap.size w (W.alloc o) := h.alloc h.size o
def gLo (xs : List Nat) : Nat := num (xs.take 8)
def gHi (xs : List Nat) : Nat := num (xs.drop 8)
/-- Are these the bytes of a valid interval? -/
def gOk (xs : List Nat) : Bool := decide (xs.length = 16) && vld (gLo xs) (gHi xs)
def TGet (xs : List Nat) (w : World) (e : Ending) (w' : World) : Prop :=
  e = .returned (.tuple #[.agg #[.float .f64 (if gOk xs then gLo xs else 0), .float .f64 (if gOk xs then gHi xs else 0)], .int .i64 (if gOk xs then 0 else 130)]) ∧ Below w.heap.size w w'
theorem TGet.yes {xs : List Nat} {w w' : World} {e : Ending} (h : TGet xs w e w') (k : gOk xs = true) : e = .returned (.tuple #[.agg #[.float .f64 (gLo xs), .float .f64 (gHi xs)], .int .i64 0]) ∧ Below w.heap.size w w' := by
  unfold TGet at h; rw [k] at h; simpa using h
theorem TGet.no {xs : List Nat} {w w' : World} {e : Ending} (h : TGet xs w e w') (k : gOk xs = false) : e = .returned (.tuple #[.agg #[.float .f64 0, .float .f64 0], .int .i64 130]) ∧ Below w.heap.size w w' := by
  unfold TGet at h; rw [k] at h; simpa using h
theorem gLo_le {xs : List Nat} (hl : xs.length = 16) (hb : ∀ b ∈ xs, b < 256) : gLo xs ≤ 18446744073709551615 ∧ gHi xs ≤ 18446744073709551615 := by
  have h1 := num_lt (xs.take 8) fun b h => hb b (List.mem_of_mem_take h)
  have h2 := num_lt (xs.drop 8) fun b h => hb b (List.mem_of_mem_drop h)
  rw [List.length_take, show min 8 xs.length = 8 by omega] at h1
  rw [List.length_drop, show xs.length - 8 = 8 by omega] at h2
  unfold gLo gHi
  rw [show (256 : Nat) ^ 8 = 18446744073709551616 from rfl] at h1 h2
  omega
set_option maxRecDepth 20000 in
set_option maxHeartbeats 4000000 in
theorem get_any (v : Value) (xs : List Nat) (w : World) (hR : Rb w v xs) (hb : ∀ b ∈ xs, b < 256) : Calls Try.prog 31 #[v] w (TGet xs w) := by
  have hst := sto
  by_cases hl : xs.length = 16
  · obtain ⟨g, o, c, rfl, hg, hc, hcap⟩ := hR.form (by omega)
    have hb' := gLo_le hl hb
    have T1 := fun w' (hb' : Below w.heap.size w w') => take_any g o 8 (xs.take 8) w' (by rw [List.length_take]; omega) (fun i hi => by
      rw [List.length_take] at hi
      rw [List.getElem_take]
      exact keep_cell hb' hg (hc i (by omega))) (fun b h => hb b (List.mem_of_mem_take h))
    have T2 := fun w' (hb' : Below w.heap.size w w') => take_any g (o + 8) 8 (xs.drop 8) w' (by rw [List.length_drop]; omega) (fun i hi => by
      rw [List.length_drop] at hi
      rw [List.getElem_drop, Nat.add_assoc]
      exact keep_cell hb' hg (hc (8 + i) (by omega))) (fun b h => hb b (List.mem_of_mem_drop h))
    have V := fun w => valid_any (gLo xs) (gHi xs) hb'.1 hb'.2 w
    change ∀ w', _ → Calls _ _ _ _ (fun e w'' => e = .returned (.float .f64 (gLo xs)) ∧ w' = w'') at T1
    change ∀ w', _ → Calls _ _ _ _ (fun e w'' => e = .returned (.float .f64 (gHi xs)) ∧ w' = w'') at T2
    have e : gOk xs = vld (gLo xs) (gHi xs) := by unfold gOk; rw [decide_eq_true hl]; rfl
    rw [hl] at hcap ⊢
    have c1 : (16 : Int) ≤ (c : Int) := by omega
    have c2 : (8 : Int) ≤ (c : Int) := by omega
    unfold TGet
    rw [e]
    clear e hl hb hb' hc hR hg
    obtain ⟨n, hn⟩ : ∃ n, vld (gLo xs) (gHi xs) = n := ⟨_, rfl⟩
    obtain ⟨L, hL⟩ : ∃ n, gLo xs = n := ⟨_, rfl⟩
    obtain ⟨H, hH⟩ : ∃ n, gHi xs = n := ⟨_, rfl⟩
    rw [hn, hL, hH] at V
    rw [hL] at T1
    rw [hH] at T2
    rw [hn, hL, hH]
    clear hn hL hH
    cases n
    all_goals
      go_enter Try.func31, Try.ntmps31
      go_upto_region 3 with fail
      have g0 : Below w.heap.size w (w.alloc (.cells #[.float .f64 0, .float .f64 0] 30)) := b_one
      have k0 : (w.alloc (.cells #[.float .f64 0, .float .f64 0] 30)).cell? ⟨w.heap.size, 0, none⟩ = some (.float .f64 0) := by simp
      have k1 : (w.alloc (.cells #[.float .f64 0, .float .f64 0] 30)).cell? ⟨w.heap.size, 1, none⟩ = some (.float .f64 0) := by simp
      have f0 : (w.alloc (.cells #[.float .f64 0, .float .f64 0] 30)).frozen? ⟨w.heap.size, 0, none⟩ = false := by simp
      have f1 : (w.alloc (.cells #[.float .f64 0, .float .f64 0] 30)).frozen? ⟨w.heap.size, 1, none⟩ = false := by simp
      have z : w.heap.size < (w.alloc (.cells #[.float .f64 0, .float .f64 0] 30)).heap.size := by simp
      generalize w.alloc (.cells #[.float .f64 0, .float .f64 0] 30) = W0 at *
      go_region_held3 (fun wx => Below w.heap.size w wx) (first | assumption | exact Below.drew (by assumption) | exact Below.drew (b_alloc (by assumption) _) | exact b_alloc (by assumption) _ | (simp [*]; done))
        (first | (go_at_call 43; first | ((with_reducible refine (T1 _ (by first | assumption | exact Below.drew (by assumption) | exact (Below.alloc (by assumption) (by first | assumption | (simp; omega)) _).drew)).mono ?_); rintro e w' ⟨rfl, rfl⟩) | ((with_reducible refine (T2 _ (by first | assumption | exact Below.drew (by assumption) | exact (Below.alloc (by assumption) (by first | assumption | (simp; omega)) _).drew)).mono ?_); rintro e w' ⟨rfl, rfl⟩)))
      all_goals
        have k0 := keep_cell (p := ⟨w.heap.size, 0, none⟩) (b_alloc (Below.refl _ W0) (.cells #[.float .f64 L, .float .f64 H] 30)).drew z k0
        have k1 := keep_cell (p := ⟨w.heap.size, 1, none⟩) (b_alloc (Below.refl _ W0) (.cells #[.float .f64 L, .float .f64 H] 30)).drew z k1
        have f0 := keep_free (p := ⟨w.heap.size, 0, none⟩) (b_alloc (Below.refl _ W0) (.cells #[.float .f64 L, .float .f64 H] 30)).drew z f0
        have f1 := keep_free (p := ⟨w.heap.size, 1, none⟩) (b_alloc (Below.refl _ W0) (.cells #[.float .f64 L, .float .f64 H] 30)).drew z f1
        have g1 : Below w.heap.size w (W0.alloc (.cells #[.float .f64 L, .float .f64 H] 30)).drew := by assumption
        have j0 : (W0.alloc (.cells #[.float .f64 L, .float .f64 H] 30)).drew.cell? ⟨W0.heap.size, 0, none⟩ = some (.float .f64 L) := by simp [go_sem]
        have j1 : (W0.alloc (.cells #[.float .f64 L, .float .f64 H] 30)).drew.cell? ⟨W0.heap.size, 1, none⟩ = some (.float .f64 H) := by simp [go_sem]
        have zz : W0.heap.size < (W0.alloc (.cells #[.float .f64 L, .float .f64 H] 30)).drew.heap.size := by simp [go_sem]
        generalize (W0.alloc (.cells #[.float .f64 L, .float .f64 H] 30)).drew = W1 at *
        generalize W0.heap.size = B at *
        have z2 : w.heap.size < W1.heap.size := by omega
        clear g0
        go_wp2_with fail
        refine (V _).mono ?_; rintro e w2 ⟨rfl, hb2⟩
        have k0 := keep_cell hb2 z2 k0
        have k1 := keep_cell hb2 z2 k1
        have f0 := keep_free hb2 z2 f0
        have f1 := keep_free hb2 z2 f1
        have j0 := keep_cell hb2 zz j0
        have j1 := keep_cell hb2 zz j1
        have g := bch g1 hb2
        clear hb2 g1
        go_wp2_with fail
        first
          | exact bodyPost_ret (v := .tuple #[.agg #[.float .f64 0, .float .f64 0], .int .i64 130]) (by simp [results, Try.results31, go_sem, *]) rfl ⟨rfl, (g.setCell (by dsimp only <;> omega) _).setCell (by dsimp only <;> omega) _⟩
          | exact bodyPost_ret (v := .tuple #[.agg #[.float .f64 L, .float .f64 H], .int .i64 0]) (by simp [results, Try.results31, go_sem, *]) rfl ⟨rfl, (g.setCell (by dsimp only <;> omega) _).setCell (by dsimp only <;> omega) _⟩
  · have e : gOk xs = false := by unfold gOk; rw [decide_eq_false hl]; rfl
    obtain ⟨A, c, rfl⟩ := hR.len
    obtain ⟨N, hN⟩ : ∃ n, xs.length = n := ⟨_, rfl⟩
    rw [hN] at hl ⊢
    have t1 : (N == 16) = false := beq_eq_false_iff_ne.2 hl
    have t2 : ((N : Int) == 16) = false := by rw [beq_eq_false_iff_ne]; omega
    have t3 : ((N : Int) != 16) = true := by rw [bne_iff_ne]; omega
    have E := hide e
    clear hR hN hl hb e
    go_enter Try.func31, Try.ntmps31
    go_wp2
    unfold TGet
    rw [E.out]
    exact bodyPost_ret (v := .tuple #[.agg #[.float .f64 0, .float .f64 0], .int .i64 130]) (by simp [results, Try.results31, go_sem]) rfl ⟨rfl, b_one⟩
end Go.Proofs.Ytaecbapflpejmaa
