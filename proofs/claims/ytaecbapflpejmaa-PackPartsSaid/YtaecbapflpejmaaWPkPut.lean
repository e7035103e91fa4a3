/- Laying an interval's bytes down: the reference's form and Put; the program's number, put and Put. -/
import Derived.Test.YtaecbapflpejmaaWPkList
import Derived.Test.YtaecbapflpejmaaWRefRead
import Derived.Deep.RegionHeld3
import Derived.Deep.DeepCutAuto
namespace Go.Proofs.Ytaecbapflpejmaa
open Go.RowKit
theorem own_base {w : World} {b b' : Nat} {v : Value} {n : Nat} {xs : List Value} (h : w.ownsRow b 5 1 v n xs) (hb : b' ≤ b) : w.ownsRow b' 5 1 v n xs := by
  obtain ⟨h1, h2 | ⟨g, c, cur, h3, h4, h5⟩⟩ := h
  · exact ⟨h1, .inl h2⟩
  · exact ⟨h1, .inr ⟨g, c, cur, h3, Nat.le_trans hb h4, h5⟩⟩
theorem hsz {A B C : Prop} {w wx : World} (h : A ∧ B ∧ C ∧ Below w.heap.size w wx) : w.heap.size ≤ wx.heap.size := h.2.2.2.size
theorem TBy.after {xs : List Nat} {w w1 w' : World} {e : Ending} (hb : Below w.heap.size w w1) (h : TBy xs w1 e w') : TBy xs w e w' := by
  obtain ⟨v, h1, h2, h3⟩ := h
  exact ⟨v, h1, own_base h2 hb.size, bch hb h3⟩
set_option maxRecDepth 20000 in
set_option maxHeartbeats 4000000 in
theorem rform_any (a b : Nat) (ha : a ≤ 18446744073709551615) (hb : b ≤ 18446744073709551615) (w : World) : Calls Try.prog 27 #[.agg #[.int .u64 a, .int .u64 b]] w (TBy (nby 8 a ++ nby 8 b) w) := by
  have HA := hide ha
  have HB := hide hb
  clear ha hb
  go_enter Try.func27, Try.ntmps27
  go_upto_region 1 with fail
  have m0 : (w.alloc (.cells #[.int .u64 (a : Int), .int .u64 (b : Int)] 24)).cell? ⟨w.heap.size, 0, none⟩ = some (.int .u64 a) := by simp
  have m1 : (w.alloc (.cells #[.int .u64 (a : Int), .int .u64 (b : Int)] 24)).cell? ⟨w.heap.size, 1, none⟩ = some (.int .u64 b) := by simp
  have z : w.heap.size < (w.alloc (.cells #[.int .u64 (a : Int), .int .u64 (b : Int)] 24)).heap.size := by simp
  have g : Below w.heap.size w (w.alloc (.cells #[.int .u64 (a : Int), .int .u64 (b : Int)] 24)) := b_one
  generalize hW : w.alloc (.cells #[.int .u64 (a : Int), .int .u64 (b : Int)] 24) = W0 at *
  clear hW
  go_region_held3 (fun wx => wx.cell? ⟨w.heap.size, 0, none⟩ = some (.int .u64 a) ∧ wx.cell? ⟨w.heap.size, 1, none⟩ = some (.int .u64 b) ∧ w.heap.size < wx.heap.size ∧ Below w.heap.size w wx)
    ((((try dsimp only); (repeat' apply And.intro) <;> first | assumption | (simp [*]; done) | exact Below.drew (by assumption) | exact keep_cell hb1 (by first | (dsimp only; omega) | (simp; omega)) (by simp [*]) | (have := hb1.size; omega) | (have := hb1.size; simp at this; omega) | exact bch (by simp [*]) hb1 | exact bch (Below.drew (by simp [*])) hb1)))
    (first | (go_at_call 39; first | ((with_reducible refine (rnumber_any a HA.out _).mono ?_); rintro e w' ⟨v1, rfl, ho1, hb1⟩; have R1 := hide (Rb.own ho1); clear ho1) | ((with_reducible refine (rnumber_any b HB.out _).mono ?_); rintro e w' ⟨v2, rfl, ho2, hb1⟩; have R2 := hide (Rb.own ho2); have R1' := hide (R1.out.keep hb1); clear ho2)) | (go_at_call 28; refine (joined_any _ _ _ _ _ (R1'.out) (R2.out) (by simp [nby_len])).mono ?_; rintro e w' ⟨v3, rfl, ho3, hb1⟩; have R3 := hide (own_base ho3 (hsz (by assumption))); clear ho3))
  rename_i hh
  have g := hh.2.2.2
  go_wp2_with fail
  go_ret
  exact ⟨_, rfl, R3.out, g⟩
set_option maxRecDepth 20000 in
set_option maxHeartbeats 4000000 in
theorem rput_any (a b : Nat) (p q : Int) (h : Vg.Rd a b p q) (w : World) : Calls Try.prog 11 #[.agg #[.int .u64 a, .int .u64 b]] w (TBy (nby 8 (Vg.atn true p) ++ nby 8 (Vg.atn true q)) w) := by
  have H := hide h
  have I := hide h.iv
  clear h
  go_enter Try.func11, Try.ntmps11
  go_wp2_with fail
  refine (rread_any a b p q H.out _).mono ?_; rintro e w1 ⟨rfl, hb⟩
  have g := bch_one hb
  clear hb
  go_wp2_with fail
  refine (rform_any _ _ (Vg.atn_le I.out.lo) (Vg.atn_le I.out.hi) _).mono ?_; rintro e w2 ⟨v, rfl, ho, hb⟩
  have R := hide (own_base ho g.size)
  have g := bch g hb
  clear hb ho
  go_wp2_with fail
  go_ret
  exact ⟨_, rfl, R.out, g⟩
/-- A number's bytes laid down one by one. -/
def wst (w : World) (g o v : Nat) : Nat → World
  | 0 => w
  | k + 1 => (wst w g o v k).setCell ⟨g, o + k, none⟩ (.int .u8 (v / 256 ^ k % 256 : Nat))
theorem wst_cell {w : World} {g o v : Nat} (i : Nat) : ∀ k, k ≤ i → (wst w g o v k).cell? ⟨g, o + i, none⟩ = w.cell? ⟨g, o + i, none⟩
  | 0, _ => rfl
  | k + 1, h => by
    show ((wst w g o v k).setCell _ _).cell? _ = _
    rw [World.cell?_setCell_other _ _ _ _ (by first | (simp; done) | (simp; omega))]
    exact wst_cell i k (by omega)
theorem wst_frozen {w : World} {g o v : Nat} (p : Addr) : ∀ k, (wst w g o v k).frozen? p = w.frozen? p
  | 0 => rfl
  | k + 1 => (World.frozen?_setCell _ _ _ _).trans (wst_frozen p k)
theorem wst_step {w wr : World} {g o v i : Nat} {b : Int} (h : wr = wst w g o v i) (hb : b = (v / 256 ^ i % 256 : Nat)) : wr.setCell ⟨g, o + i, none⟩ (.int .u8 b) = wst w g o v (i + 1) := by
  rw [h, hb]; rfl
set_option maxRecDepth 20000 in
set_option maxHeartbeats 8000000 in
theorem number_any (g o v : Nat) (hv : v ≤ 18446744073709551615) (w : World) (hc : ∀ i, i < 8 → ∃ u, w.cell? ⟨g, o + i, none⟩ = some (.int .u8 u)) (hf : ∀ i, i < 8 → w.frozen? ⟨g, o + i, none⟩ = false) :
    Calls Try.prog 35 #[.slice (some ⟨g, o, none⟩) 8 8, .float .f64 v] w fun e w' => e = .returned (.tuple #[]) ∧ w' = wst w g o v 8 := by
  have hst := sto
  have h0 := bits64 v
  have HV := hide hv
  have HC := hide hc
  have HF := hide hf
  clear hv hc hf
  go_enter Try.func35, Try.ntmps35
  go_wp2_with fail
  go_loopg [8] 8 (fun k p wr => ∃ i : Nat, p = .int .i64 i ∧ Hid (i + k = 8) ∧ Hid (wr = wst w g o v i))
  case atStart => exact ⟨0, rfl, hide rfl, hide rfl⟩
  case round =>
    obtain ⟨i, rfl, HI, HW⟩ := hrel
    by_cases c : (i : Int) < 8
    · obtain ⟨u, hu⟩ := HC.out i (by omega)
      have hcell : wr.cell? ⟨g, o + i, none⟩ = some (.int .u8 u) := by rw [HW.out, wst_cell i i (Nat.le_refl _)]; exact hu
      have hfr : wr.frozen? ⟨g, o + i, none⟩ = false := by rw [HW.out, wst_frozen]; exact HF.out i (by omega)
      clear hu
      obtain rfl | rfl | rfl | rfl | rfl | rfl | rfl | rfl : i = 0 ∨ i = 1 ∨ i = 2 ∨ i = 3 ∨ i = 4 ∨ i = 5 ∨ i = 6 ∨ i = 7 := by omega
      · rw [Nat.add_zero] at hcell hfr
        go_wp2
        go_roundg 7
        case measure => have := HI.out; omega
        case rel => exact ⟨1, rfl, hide (by have := HI.out; omega), hide (wst_step (i := 0) HW.out (by simp))⟩
      · go_wp2
        go_roundg 6
        case measure => have := HI.out; omega
        case rel => exact ⟨2, rfl, hide (by have := HI.out; omega), hide (wst_step (i := 1) HW.out (by omega))⟩
      · go_wp2
        go_roundg 5
        case measure => have := HI.out; omega
        case rel => exact ⟨3, rfl, hide (by have := HI.out; omega), hide (wst_step (i := 2) HW.out (by omega))⟩
      · go_wp2
        go_roundg 4
        case measure => have := HI.out; omega
        case rel => exact ⟨4, rfl, hide (by have := HI.out; omega), hide (wst_step (i := 3) HW.out (by omega))⟩
      · go_wp2
        go_roundg 3
        case measure => have := HI.out; omega
        case rel => exact ⟨5, rfl, hide (by have := HI.out; omega), hide (wst_step (i := 4) HW.out (by omega))⟩
      · go_wp2
        go_roundg 2
        case measure => have := HI.out; omega
        case rel => exact ⟨6, rfl, hide (by have := HI.out; omega), hide (wst_step (i := 5) HW.out (by omega))⟩
      · go_wp2
        go_roundg 1
        case measure => have := HI.out; omega
        case rel => exact ⟨7, rfl, hide (by have := HI.out; omega), hide (wst_step (i := 6) HW.out (by omega))⟩
      · go_wp2
        go_roundg 0
        case measure => have := HI.out; omega
        case rel => exact ⟨8, rfl, hide (by have := HI.out; omega), hide (wst_step (i := 7) HW.out (by omega))⟩
    · have hi : i = 8 := by have := HI.out; omega
      subst hi
      go_wp2
      go_end0
      exact ⟨rfl, HW.out⟩
end Go.Proofs.Ytaecbapflpejmaa
