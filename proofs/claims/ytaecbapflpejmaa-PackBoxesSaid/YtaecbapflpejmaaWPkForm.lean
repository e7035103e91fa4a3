/- The program's put and Put. -/
import Derived.Test.YtaecbapflpejmaaWPkPut
import Derived.Laws.CopyOwn
import Derived.Deep.OwnRows
namespace Go.Proofs.Ytaecbapflpejmaa
open Go.RowKit
theorem wst_at {w : World} {g o v : Nat} (i : Nat) (h : ∃ u, w.cell? ⟨g, o + i, none⟩ = some u) : ∀ k, i < k → (wst w g o v k).cell? ⟨g, o + i, none⟩ = some (.int .u8 (v / 256 ^ i % 256 : Nat))
  | 0, hk => by omega
  | k + 1, hk => by
    by_cases e : i = k
    · subst e
      obtain ⟨u, hu⟩ := h
      exact World.cell?_setCell_same _ _ _ ((wst_cell i i (Nat.le_refl _)).trans hu)
    · show ((wst w g o v k).setCell _ _).cell? _ = _
      rw [World.cell?_setCell_other _ _ _ _ (by first | (simp; done) | (simp; omega))]
      exact wst_at i h k (by omega)
theorem wst_far {w : World} {g o v : Nat} (p : Addr) (hp : p.block ≠ g ∨ p.off < o ∨ o + 8 ≤ p.off) : ∀ k, k ≤ 8 → (wst w g o v k).cell? p = w.cell? p
  | 0, _ => rfl
  | k + 1, hk => by
    show ((wst w g o v k).setCell _ _).cell? _ = _
    rw [World.cell?_setCell_other _ _ _ _ (by intro e; subst e; simp at hp; omega)]
    exact wst_far p hp k (by omega)
theorem wst_size {w : World} {g o v : Nat} : ∀ k, (wst w g o v k).heap.size = w.heap.size
  | 0 => rfl
  | k + 1 => by show ((wst w g o v k).setCell _ _).heap.size = _; rw [← wst_size (w := w) (g := g) (o := o) (v := v) k]; simp [World.setCell]
theorem wst_below {B : Nat} {w0 w : World} {g o v : Nat} (h : Below B w0 w) (hg : B ≤ g) : ∀ k, Below B w0 (wst w g o v k)
  | 0 => h
  | k + 1 => (wst_below h hg k).setCell hg _
attribute [local irreducible] wst
/-- The sixteen bytes of an interval. -/
def TPut (a b : Nat) (w : World) (e : Ending) (w' : World) : Prop :=
  ∃ c : Nat → Nat, (∀ i, i < 8 → c i = a / 256 ^ i % 256 ∧ c (8 + i) = b / 256 ^ i % 256) ∧ e = .returned (.agg #[.int .u8 (c 0 : Nat), .int .u8 (c 1 : Nat), .int .u8 (c 2 : Nat), .int .u8 (c 3 : Nat), .int .u8 (c 4 : Nat), .int .u8 (c 5 : Nat), .int .u8 (c 6 : Nat), .int .u8 (c 7 : Nat), .int .u8 (c 8 : Nat), .int .u8 (c 9 : Nat), .int .u8 (c 10 : Nat), .int .u8 (c 11 : Nat), .int .u8 (c 12 : Nat), .int .u8 (c 13 : Nat), .int .u8 (c 14 : Nat), .int .u8 (c 15 : Nat)]) ∧ Below w.heap.size w w'
set_option maxRecDepth 20000 in
set_option maxHeartbeats 8000000 in
theorem put_any (a b : Nat) (ha : a ≤ 18446744073709551615) (hb : b ≤ 18446744073709551615) (w : World) : Calls Try.prog 24 #[.agg #[.float .f64 a, .float .f64 b]] w (TPut a b w) := by
  have hst := sto
  have HA := hide ha
  have HB := hide hb
  clear ha hb
  obtain ⟨c, hc⟩ : ∃ c : Nat → Nat, ∀ i, c i = if i < 8 then a / 256 ^ i % 256 else b / 256 ^ (i - 8) % 256 := ⟨_, fun _ => rfl⟩
  have HC := hide hc
  clear hc
  go_enter Try.func24, Try.ntmps24
  go_upto_region 2 with fail
  have g0 : Below w.heap.size w (((w.alloc (.cells #[.float .f64 a, .float .f64 b] 30)).alloc (.cells #[.int .u8 0, .int .u8 0, .int .u8 0, .int .u8 0, .int .u8 0, .int .u8 0, .int .u8 0, .int .u8 0, .int .u8 0, .int .u8 0, .int .u8 0, .int .u8 0, .int .u8 0, .int .u8 0, .int .u8 0, .int .u8 0] 56)).alloc (.cells #[.int .u8 0, .int .u8 0, .int .u8 0, .int .u8 0, .int .u8 0, .int .u8 0, .int .u8 0, .int .u8 0, .int .u8 0, .int .u8 0, .int .u8 0, .int .u8 0, .int .u8 0, .int .u8 0, .int .u8 0, .int .u8 0] 56)) := b_two.alloc (by simp; omega) _
  generalize hW : (((w.alloc (.cells #[.float .f64 a, .float .f64 b] 30)).alloc (.cells #[.int .u8 0, .int .u8 0, .int .u8 0, .int .u8 0, .int .u8 0, .int .u8 0, .int .u8 0, .int .u8 0, .int .u8 0, .int .u8 0, .int .u8 0, .int .u8 0, .int .u8 0, .int .u8 0, .int .u8 0, .int .u8 0] 56)).alloc (.cells #[.int .u8 0, .int .u8 0, .int .u8 0, .int .u8 0, .int .u8 0, .int .u8 0, .int .u8 0, .int .u8 0, .int .u8 0, .int .u8 0, .int .u8 0, .int .u8 0, .int .u8 0, .int .u8 0, .int .u8 0, .int .u8 0] 56)) = W0 at *
  have x0 : W0.cell? ⟨w.heap.size, 0, none⟩ = some (.float .f64 a) := by subst hW; simp [go_sem]
  have x1 : W0.cell? ⟨w.heap.size, 1, none⟩ = some (.float .f64 b) := by subst hW; simp [go_sem]
  have HZ : Hid (∀ i, i < 16 → ∃ u, W0.cell? ⟨w.heap.size + 1 + 1, i, none⟩ = some (.int .u8 u)) := hide (by
    intro i hi
    obtain rfl | rfl | rfl | rfl | rfl | rfl | rfl | rfl | rfl | rfl | rfl | rfl | rfl | rfl | rfl | rfl : i = 0 ∨ i = 1 ∨ i = 2 ∨ i = 3 ∨ i = 4 ∨ i = 5 ∨ i = 6 ∨ i = 7 ∨ i = 8 ∨ i = 9 ∨ i = 10 ∨ i = 11 ∨ i = 12 ∨ i = 13 ∨ i = 14 ∨ i = 15 := by omega
    all_goals exact ⟨0, by subst hW; simp [go_sem]⟩)
  have HF : Hid (∀ i, i < 16 → W0.frozen? ⟨w.heap.size + 1 + 1, i, none⟩ = false) := hide (by
    intro i hi
    obtain rfl | rfl | rfl | rfl | rfl | rfl | rfl | rfl | rfl | rfl | rfl | rfl | rfl | rfl | rfl | rfl : i = 0 ∨ i = 1 ∨ i = 2 ∨ i = 3 ∨ i = 4 ∨ i = 5 ∨ i = 6 ∨ i = 7 ∨ i = 8 ∨ i = 9 ∨ i = 10 ∨ i = 11 ∨ i = 12 ∨ i = 13 ∨ i = 14 ∨ i = 15 := by omega
    all_goals (subst hW; simp [go_sem]))
  have HR : Hid (∀ i, i < 16 → W0.cell? ⟨w.heap.size + 1, i, none⟩ = some (.int .u8 0)) := hide (by
    intro i hi
    obtain rfl | rfl | rfl | rfl | rfl | rfl | rfl | rfl | rfl | rfl | rfl | rfl | rfl | rfl | rfl | rfl : i = 0 ∨ i = 1 ∨ i = 2 ∨ i = 3 ∨ i = 4 ∨ i = 5 ∨ i = 6 ∨ i = 7 ∨ i = 8 ∨ i = 9 ∨ i = 10 ∨ i = 11 ∨ i = 12 ∨ i = 13 ∨ i = 14 ∨ i = 15 := by omega
    all_goals (subst hW; simp [go_sem]))
  have HG : Hid (∀ i, i < 16 → W0.frozen? ⟨w.heap.size + 1, i, none⟩ = false) := hide (by
    intro i hi
    obtain rfl | rfl | rfl | rfl | rfl | rfl | rfl | rfl | rfl | rfl | rfl | rfl | rfl | rfl | rfl | rfl : i = 0 ∨ i = 1 ∨ i = 2 ∨ i = 3 ∨ i = 4 ∨ i = 5 ∨ i = 6 ∨ i = 7 ∨ i = 8 ∨ i = 9 ∨ i = 10 ∨ i = 11 ∨ i = 12 ∨ i = 13 ∨ i = 14 ∨ i = 15 := by omega
    all_goals (subst hW; simp [go_sem]))
  clear hW
  have AR : Hid (∀ wx wy : World, (∀ i, i < 16 → ∃ u, wx.cell? ⟨w.heap.size + 1 + 1, i, none⟩ = some (.int .u8 u)) → True) := hide fun _ _ _ => trivial
  go_region_held3 (fun wx => wx.cell? ⟨w.heap.size, 0, none⟩ = some (.float .f64 a) ∧ wx.cell? ⟨w.heap.size, 1, none⟩ = some (.float .f64 b))
    (first | (simp [x0, x1]; done) | exact ⟨(wst_far _ (.inl (by simp; omega)) 8 (by decide)).trans x0, (wst_far _ (.inl (by simp; omega)) 8 (by decide)).trans x1⟩)
    (first | (go_at_call 35; refine (number_any (w.heap.size + 1 + 1) 0 a HA.out _ (fun i hi => by rw [Nat.zero_add]; exact HZ.out i (by omega)) (fun i hi => by rw [Nat.zero_add]; exact HF.out i (by omega))).mono ?_; rintro e w' ⟨rfl, rfl⟩))
  have P0 := hide (show (∀ i, i < 8 → ∃ u, W0.drew.cell? ⟨w.heap.size + 1 + 1, 0 + i, none⟩ = some (.int .u8 u)) from fun i hi => by rw [Nat.zero_add]; exact HZ.out i (by omega))
  have D1 : Hid (∀ i, i < 8 → (wst W0.drew (w.heap.size + 1 + 1) 0 a 8).cell? ⟨w.heap.size + 1 + 1, i, none⟩ = some (.int .u8 (c i : Nat))) := hide fun i hi => by
    obtain ⟨u, hu⟩ := P0.out i hi
    have := wst_at (v := a) i ⟨_, hu⟩ 8 hi
    rw [Nat.zero_add] at this
    rw [this, HC.out i, if_pos hi]
  have HZ := hide (show (∀ i, i < 8 → ∃ u, (wst W0.drew (w.heap.size + 1 + 1) 0 a 8).cell? ⟨w.heap.size + 1 + 1, 8 + i, none⟩ = some (.int .u8 u)) from fun i hi => by rw [wst_far _ (.inr (.inr (by simp))) 8 (by decide)]; exact HZ.out (8 + i) (by omega))
  have HF := hide (show (∀ i, i < 16 → (wst W0.drew (w.heap.size + 1 + 1) 0 a 8).frozen? ⟨w.heap.size + 1 + 1, i, none⟩ = false) from fun i hi => by rw [wst_frozen]; exact HF.out i hi)
  have HR := hide (show (∀ i, i < 16 → (wst W0.drew (w.heap.size + 1 + 1) 0 a 8).cell? ⟨w.heap.size + 1, i, none⟩ = some (.int .u8 0)) from fun i hi => by rw [wst_far _ (.inl (by simp)) 8 (by decide)]; exact HR.out i hi)
  have HG := hide (show (∀ i, i < 16 → (wst W0.drew (w.heap.size + 1 + 1) 0 a 8).frozen? ⟨w.heap.size + 1, i, none⟩ = false) from fun i hi => by rw [wst_frozen]; exact HG.out i hi)
  have x0 : (wst W0.drew (w.heap.size + 1 + 1) 0 a 8).cell? ⟨w.heap.size, 0, none⟩ = some (.float .f64 a) := (wst_far _ (.inl (by simp; omega)) 8 (by decide)).trans x0
  have x1 : (wst W0.drew (w.heap.size + 1 + 1) 0 a 8).cell? ⟨w.heap.size, 1, none⟩ = some (.float .f64 b) := (wst_far _ (.inl (by simp; omega)) 8 (by decide)).trans x1
  have g0 : Below w.heap.size w (wst W0.drew (w.heap.size + 1 + 1) 0 a 8) := wst_below g0.drew (by omega) 8
  generalize wst W0.drew (w.heap.size + 1 + 1) 0 a 8 = W1 at *
  clear P0
  go_wp2_with fail
  go_region_held3 (fun wx => wx.cell? ⟨w.heap.size, 0, none⟩ = some (.float .f64 a) ∧ wx.cell? ⟨w.heap.size, 1, none⟩ = some (.float .f64 b))
    (first | (simp [x0, x1]; done) | exact ⟨(wst_far _ (.inl (by simp; omega)) 8 (by decide)).trans x0, (wst_far _ (.inl (by simp; omega)) 8 (by decide)).trans x1⟩)
    (first | (go_at_call 35; refine (number_any (w.heap.size + 1 + 1) 8 b HB.out W1.drew (fun i hi => HZ.out i hi) (fun i hi => HF.out _ (by omega))).mono ?_; rintro e w' ⟨rfl, rfl⟩))
  have D2 : Hid (∀ i, i < 16 → (wst W1.drew (w.heap.size + 1 + 1) 8 b 8).cell? ⟨w.heap.size + 1 + 1, i, none⟩ = some (.int .u8 (c i : Nat))) := hide fun i hi => by
    by_cases h : i < 8
    · rw [wst_far _ (.inr (.inl (by simpa using h))) 8 (by decide)]; exact D1.out i h
    · obtain ⟨u, hu⟩ := HZ.out (i - 8) (by omega)
      have := wst_at (w := W1.drew) (g := w.heap.size + 1 + 1) (o := 8) (v := b) (i - 8) ⟨_, hu⟩ 8 (by omega)
      rw [show 8 + (i - 8) = i by omega] at this
      rw [this, HC.out i, if_neg h]
  have HR := hide (show (∀ i, i < 16 → (wst W1.drew (w.heap.size + 1 + 1) 8 b 8).cell? ⟨w.heap.size + 1, i, none⟩ = some (.int .u8 0)) from fun i hi => by rw [wst_far _ (.inl (by simp)) 8 (by decide)]; exact HR.out i hi)
  have HG := hide (show (∀ i, i < 16 → (wst W1.drew (w.heap.size + 1 + 1) 8 b 8).frozen? ⟨w.heap.size + 1, i, none⟩ = false) from fun i hi => by rw [wst_frozen]; exact HG.out i hi)
  have g0 : Below w.heap.size w (wst W1.drew (w.heap.size + 1 + 1) 8 b 8) := wst_below g0.drew (by omega) 8
  generalize wst W1.drew (w.heap.size + 1 + 1) 8 b 8 = W2 at *
  clear x0 x1 D1
  have d0 := D2.out 0 (by decide)
  have r0 := HR.out 0 (by decide)
  have f0 := HG.out 0 (by decide)
  have d1 := D2.out 1 (by decide)
  have r1 := HR.out 1 (by decide)
  have f1 := HG.out 1 (by decide)
  have d2 := D2.out 2 (by decide)
  have r2 := HR.out 2 (by decide)
  have f2 := HG.out 2 (by decide)
  have d3 := D2.out 3 (by decide)
  have r3 := HR.out 3 (by decide)
  have f3 := HG.out 3 (by decide)
  have d4 := D2.out 4 (by decide)
  have r4 := HR.out 4 (by decide)
  have f4 := HG.out 4 (by decide)
  have d5 := D2.out 5 (by decide)
  have r5 := HR.out 5 (by decide)
  have f5 := HG.out 5 (by decide)
  have d6 := D2.out 6 (by decide)
  have r6 := HR.out 6 (by decide)
  have f6 := HG.out 6 (by decide)
  have d7 := D2.out 7 (by decide)
  have r7 := HR.out 7 (by decide)
  have f7 := HG.out 7 (by decide)
  have d8 := D2.out 8 (by decide)
  have r8 := HR.out 8 (by decide)
  have f8 := HG.out 8 (by decide)
  have d9 := D2.out 9 (by decide)
  have r9 := HR.out 9 (by decide)
  have f9 := HG.out 9 (by decide)
  have d10 := D2.out 10 (by decide)
  have r10 := HR.out 10 (by decide)
  have f10 := HG.out 10 (by decide)
  have d11 := D2.out 11 (by decide)
  have r11 := HR.out 11 (by decide)
  have f11 := HG.out 11 (by decide)
  have d12 := D2.out 12 (by decide)
  have r12 := HR.out 12 (by decide)
  have f12 := HG.out 12 (by decide)
  have d13 := D2.out 13 (by decide)
  have r13 := HR.out 13 (by decide)
  have f13 := HG.out 13 (by decide)
  have d14 := D2.out 14 (by decide)
  have r14 := HR.out 14 (by decide)
  have f14 := HG.out 14 (by decide)
  have d15 := D2.out 15 (by decide)
  have r15 := HR.out 15 (by decide)
  have f15 := HG.out 15 (by decide)
  go_wp2_with fail
  exact bodyPost_ret (v := .agg #[.int .u8 (c 0 : Nat), .int .u8 (c 1 : Nat), .int .u8 (c 2 : Nat), .int .u8 (c 3 : Nat), .int .u8 (c 4 : Nat), .int .u8 (c 5 : Nat), .int .u8 (c 6 : Nat), .int .u8 (c 7 : Nat), .int .u8 (c 8 : Nat), .int .u8 (c 9 : Nat), .int .u8 (c 10 : Nat), .int .u8 (c 11 : Nat), .int .u8 (c 12 : Nat), .int .u8 (c 13 : Nat), .int .u8 (c 14 : Nat), .int .u8 (c 15 : Nat)]) (by simp [results, Try.results24, go_sem, *]) rfl ⟨c, fun i hi => ⟨(HC.out i).trans (if_pos hi), (HC.out (8 + i)).trans ((if_neg (by omega)).trans (by rw [Nat.add_sub_cancel_left]))⟩, rfl, (((((((((((((((g0.setCell (by dsimp only; omega) _).setCell (by dsimp only; omega) _).setCell (by dsimp only; omega) _).setCell (by dsimp only; omega) _).setCell (by dsimp only; omega) _).setCell (by dsimp only; omega) _).setCell (by dsimp only; omega) _).setCell (by dsimp only; omega) _).setCell (by dsimp only; omega) _).setCell (by dsimp only; omega) _).setCell (by dsimp only; omega) _).setCell (by dsimp only; omega) _).setCell (by dsimp only; omega) _).setCell (by dsimp only; omega) _).setCell (by dsimp only; omega) _).setCell (by dsimp only; omega) _⟩
theorem src16 {c : Nat → Nat} {cs : List Value} {W : World} {n : Nat} (h : ((List.range 16).map fun i => Value.int .u8 (c i : Nat)) = cs) (hs : ∀ i, i < 16 → W.cell? ⟨n, i, none⟩ = some (.int .u8 (c i : Nat))) {j : Nat} {v : Value} (hj : cs[j]? = some v) : W.cell? ((⟨n, 0, none⟩ : Addr).add j) = some v := by
  have hl : cs.length = 16 := by rw [← h]; simp
  have hj' : j < 16 := by rw [← hl]; exact (List.getElem?_eq_some_iff.1 hj).1
  have e : v = .int .u8 (c j : Nat) := by
    rw [← h, List.getElem?_map, List.getElem?_range hj'] at hj
    simpa using hj.symm
  rw [e, ← hs j hj']
  unfold Addr.add
  split <;> simp_all
theorem ones16 {c : Nat → Nat} {cs : List Value} (h : ((List.range 16).map fun i => Value.int .u8 (c i : Nat)) = cs) : ∀ v ∈ cs, v.oneCell' = true := by
  intro v hv
  rw [← h, List.mem_map] at hv
  obtain ⟨i, -, rfl⟩ := hv
  rfl
theorem bytes16 {a b : Nat} {c : Nat → Nat} (hc : ∀ i, i < 8 → c i = a / 256 ^ i % 256 ∧ c (8 + i) = b / 256 ^ i % 256) : (nby 8 a ++ nby 8 b).map bv = (List.range 16).map fun i => Value.int .u8 (c i : Nat) := by
  refine List.ext_getElem (by simp [nby]) fun i h1 h2 => ?_
  have hi : i < 16 := by simpa using h2
  simp only [List.getElem_map, List.getElem_range, List.getElem_append, nby, bv]
  split
  · rename_i h
    have h : i < 8 := by simpa using h
    rw [(hc i h).1]
  · rename_i h
    have h : ¬ i < 8 := by simpa using h
    have := (hc (i - 8) (by omega)).2
    rw [show 8 + (i - 8) = i by omega] at this
    rw [this]
    simp
theorem made16 (w : World) : (Instr.makeSlice 26 (.int .i64 16) (.int .i64 16)).run Try.prog w = .ok (.slice (some ⟨w.heap.size, 0, none⟩) 16 16) (w.alloc (.cells (List.replicate 16 (.int .u8 0)).toArray 5)) :=
  by
  have h := run_make_row' 26 5 (.int .u8 0) 1 Try.underlying26 infoB rfl .i64 .i64 16 (by decide) (by decide) w
  rw [show madeCells #[Value.int .u8 0] 16 = (List.replicate 16 (Value.int .u8 0)).toArray by kernel_rfl] at h
  exact h
set_option maxRecDepth 20000 in
set_option maxHeartbeats 8000000 in
theorem pput_any (a b : Nat) (p q : Int) (h : Vg.Rd a b p q) (w : World) : Calls Try.prog 9 #[.agg #[.float .f64 a, .float .f64 b]] w (TBy (nby 8 (Vg.atn true p) ++ nby 8 (Vg.atn true q)) w) := by
  have hst := sto
  have hmk := made16
  have H := hide h
  have I := hide h.iv
  clear h
  obtain ⟨Z, hZ⟩ : ∃ Z, List.replicate 16 (Value.int .u8 0) = Z := ⟨_, rfl⟩
  have HZ := hide hZ
  rw [hZ] at hmk
  clear hZ
  go_enter Try.func9, Try.ntmps9
  go_wp2_with fail
  have g : Below w.heap.size w ((w.alloc (.cells #[.float .f64 a, .float .f64 b] 30)).alloc (.cells Z.toArray 5)) := b_two
  have hk : Hid (((w.alloc (.cells #[.float .f64 a, .float .f64 b] 30)).alloc (.cells Z.toArray 5)).heap[w.heap.size + 1]? = some (.cells Z.toArray 5 (0, 0))) := hide (by simpa using heap_alloc_new (w.alloc (.cells #[.float .f64 a, .float .f64 b] 30)) (.cells Z.toArray 5))
  refine (read_any a b p q H.out _).mono ?_; rintro e w1 ⟨rfl, hb⟩
  have hk : Hid (w1.heap[w.heap.size + 1]? = some (.cells Z.toArray 5 (0, 0))) := hide ((hb.block _ (by simp)).trans hk.out)
  have g := bch g hb
  have z : w.heap.size + 1 < w1.heap.size := by have := hb.size; simp at this; omega
  clear hb
  go_wp2_with fail
  refine (put_any _ _ (Vg.atn_le I.out.lo) (Vg.atn_le I.out.hi) _).mono ?_; rintro e w2 ⟨c, hc, rfl, hb⟩
  have hk : Hid (w2.heap[w.heap.size + 1]? = some (.cells Z.toArray 5 (0, 0))) := hide ((hb.block _ z).trans hk.out)
  have g := bch g hb
  have z := Nat.lt_of_lt_of_le z hb.size
  have HC := hide hc
  have sc : Hid (∀ i, i < 16 → (w2.alloc (.cells #[.int .u8 (c 0 : Nat), .int .u8 (c 1 : Nat), .int .u8 (c 2 : Nat), .int .u8 (c 3 : Nat), .int .u8 (c 4 : Nat), .int .u8 (c 5 : Nat), .int .u8 (c 6 : Nat), .int .u8 (c 7 : Nat), .int .u8 (c 8 : Nat), .int .u8 (c 9 : Nat), .int .u8 (c 10 : Nat), .int .u8 (c 11 : Nat), .int .u8 (c 12 : Nat), .int .u8 (c 13 : Nat), .int .u8 (c 14 : Nat), .int .u8 (c 15 : Nat)] 56)).cell? ⟨w2.heap.size, i, none⟩ = some (.int .u8 (c i : Nat))) := hide (by
    intro i hi
    obtain rfl | rfl | rfl | rfl | rfl | rfl | rfl | rfl | rfl | rfl | rfl | rfl | rfl | rfl | rfl | rfl : i = 0 ∨ i = 1 ∨ i = 2 ∨ i = 3 ∨ i = 4 ∨ i = 5 ∨ i = 6 ∨ i = 7 ∨ i = 8 ∨ i = 9 ∨ i = 10 ∨ i = 11 ∨ i = 12 ∨ i = 13 ∨ i = 14 ∨ i = 15 := by omega
    all_goals simp [go_sem])
  obtain ⟨cs, hcs⟩ : ∃ cs, ((List.range 16).map fun i => Value.int .u8 (c i : Nat)) = cs := ⟨_, rfl⟩
  have HS := hide hcs
  have hl : cs.length = 16 := by rw [← hcs]; simp
  have HL := hide hl
  clear hb hc hcs hl
  have hcp := run_copy_row (P := Try.prog) (w2.alloc (.cells #[.int .u8 (c 0 : Nat), .int .u8 (c 1 : Nat), .int .u8 (c 2 : Nat), .int .u8 (c 3 : Nat), .int .u8 (c 4 : Nat), .int .u8 (c 5 : Nat), .int .u8 (c 6 : Nat), .int .u8 (c 7 : Nat), .int .u8 (c 8 : Nat), .int .u8 (c 9 : Nat), .int .u8 (c 10 : Nat), .int .u8 (c 11 : Nat), .int .u8 (c 12 : Nat), .int .u8 (c 13 : Nat), .int .u8 (c 14 : Nat), .int .u8 (c 15 : Nat)] 56)) 26 26 3 5 (w.heap.size + 1) 0 16 16 ⟨w2.heap.size, 0, none⟩ 16 16 Z.toArray 5 cs Try.underlying26 (by kernel_rfl)
    ((Below.heap_alloc _ _ _ z).trans hk.out) (by rw [HL.out]; rfl) (fun j v hj => src16 HS.out sc.out hj) (by rw [HL.out, ← HZ.out]; simp) (ones16 HS.out)
  have hh := setRow_heap (w2.alloc (.cells #[.int .u8 (c 0 : Nat), .int .u8 (c 1 : Nat), .int .u8 (c 2 : Nat), .int .u8 (c 3 : Nat), .int .u8 (c 4 : Nat), .int .u8 (c 5 : Nat), .int .u8 (c 6 : Nat), .int .u8 (c 7 : Nat), .int .u8 (c 8 : Nat), .int .u8 (c 9 : Nat), .int .u8 (c 10 : Nat), .int .u8 (c 11 : Nat), .int .u8 (c 12 : Nat), .int .u8 (c 13 : Nat), .int .u8 (c 14 : Nat), .int .u8 (c 15 : Nat)] 56)) (w.heap.size + 1) Z.toArray (Z.toArray.toList.take 0 ++ cs ++ Z.toArray.toList.drop (0 + cs.length)).toArray 5 _ ((Below.heap_alloc _ _ _ z).trans hk.out)
  have hbl := below_setRow (g.alloc g.size (.cells #[.int .u8 (c 0 : Nat), .int .u8 (c 1 : Nat), .int .u8 (c 2 : Nat), .int .u8 (c 3 : Nat), .int .u8 (c 4 : Nat), .int .u8 (c 5 : Nat), .int .u8 (c 6 : Nat), .int .u8 (c 7 : Nat), .int .u8 (c 8 : Nat), .int .u8 (c 9 : Nat), .int .u8 (c 10 : Nat), .int .u8 (c 11 : Nat), .int .u8 (c 12 : Nat), .int .u8 (c 13 : Nat), .int .u8 (c 14 : Nat), .int .u8 (c 15 : Nat)] 56)) (by omega : w.heap.size ≤ w.heap.size + 1) (Z.toArray.toList.take 0 ++ cs ++ Z.toArray.toList.drop (0 + cs.length)).toArray
  rw [show (Z.toArray.toList.take 0 ++ cs ++ Z.toArray.toList.drop (0 + cs.length)).toArray = cs.toArray by rw [HL.out, ← HZ.out]; simp] at hcp hh hbl
  rw [HL.out] at hcp
  generalize World.setRow (w2.alloc (.cells #[.int .u8 (c 0 : Nat), .int .u8 (c 1 : Nat), .int .u8 (c 2 : Nat), .int .u8 (c 3 : Nat), .int .u8 (c 4 : Nat), .int .u8 (c 5 : Nat), .int .u8 (c 6 : Nat), .int .u8 (c 7 : Nat), .int .u8 (c 8 : Nat), .int .u8 (c 9 : Nat), .int .u8 (c 10 : Nat), .int .u8 (c 11 : Nat), .int .u8 (c 12 : Nat), .int .u8 (c 13 : Nat), .int .u8 (c 14 : Nat), .int .u8 (c 15 : Nat)] 56)) (w.heap.size + 1) cs.toArray = w3 at *
  have HH := hide hh
  clear hh
  go_wp2_with fail
  go_ret
  refine ⟨_, rfl, ?_, hbl⟩
  rw [bytes16 HC.out, HS.out]
  refine ⟨by rw [HL.out]; simp [nby_len], .inr ⟨w.heap.size + 1, 16, cs.toArray, by simp [nby_len], by omega, HH.out, by simp [nby_len], by decide, by simp [HL.out], by simp only [Nat.mul_one]; exact List.take_of_length_le (by rw [HL.out]; simp [nby_len])⟩⟩
end Go.Proofs.Ytaecbapflpejmaa
