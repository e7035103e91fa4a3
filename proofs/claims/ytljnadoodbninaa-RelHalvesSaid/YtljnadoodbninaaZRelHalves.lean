/- Bisect of the program tells what the document says: the two parts, cut at the rounded middle (or at the middle place), and whether there are two: of every interval, of whatever patterns its ends are. -/
import Derived.Test.YtljnadoodbninaaWBis
import Derived.Test.YtljnadoodbninaaMSum
import Derived.Test.YtljnadoodbninaaWMid8
import Derived.Test.YtljnadoodbninaaWPl1
import Derived.Deep.DeepCutAuto
import Derived.Test.YtljnadoodbninaaWFrame
import Derived.Lib.SmallJoins

/- The contract of the program's Bisect, by the place at which it cuts. -/
namespace Go.Proofs.Ytljnadoodbninaa
open Go.RowKit
theorem sums_of {p q c : Int} (h : Vg.Cen p q c) : Sums p q := by
  obtain ⟨s, s1, s2, ⟨s3, d, d1, d2, -⟩ | ⟨s3, x, y, x1, y1, m1⟩⟩ := h
  · exact ⟨s, s1, s2, .inl ⟨s3, d, d1, d2⟩⟩
  · exact ⟨s, s1, s2, .inr ⟨s3, x, y, _, x1, y1, m1⟩⟩
theorem mid_of {p q c : Int} {m : Nat} (h : Vg.Cen p q c) (h1 : -Vg.PI < p) (h2 : q < Vg.PI) (hm : MidR p q m) : m = Vg.atn true c := by
  rcases hm with ⟨hm, -⟩ | ⟨hm, -⟩ | ⟨-, hm, -⟩ | ⟨-, t, ht, hm⟩
  · omega
  · omega
  · omega
  obtain ⟨s, s1, s2, hs⟩ := h
  obtain rfl := Option.some.inj (ht.symm.trans s2)
  rcases hs with ⟨s3, d, d1, d2, d3⟩ | ⟨s3, x, y, x1, y1, m1⟩
  · rcases hm with ⟨-, e, e1, rfl⟩ | ⟨hm, -⟩
    · obtain rfl := Option.some.inj (e1.symm.trans d2)
      exact d3
    · rw [s3] at hm; exact absurd hm (by decide)
  · rcases hm with ⟨hm, -⟩ | ⟨-, u, v, u1, v1, k1⟩
    · rw [s3] at hm; exact absurd hm (by decide)
    · obtain rfl := Option.some.inj (u1.symm.trans x1)
      obtain rfl := Option.some.inj (v1.symm.trans y1)
      exact Option.some.inj (k1.symm.trans m1)
/-- The place at which it cuts. -/
theorem cut_ex {p q : Int} (hI : Vg.Iv p q) (hc : p + 1 < q) : (-Vg.PI < p → q < Vg.PI → Sums p q) ∧ ∃ c, (p < c ∧ c < q) ∧ ∀ n, CutR p q n → n = Vg.atn true c := by
  have i1 := hI.lo
  have i2 := hI.hi
  unfold Vg.Pl at i1 i2
  by_cases h : -Vg.PI < p ∧ q < Vg.PI
  · obtain ⟨c, h1, h2, h3⟩ := Vg.cen p q h.1 h.2 hc
    refine ⟨fun _ _ => sums_of h1, c, ⟨h2, h3⟩, fun n hn => ?_⟩
    rcases hn with ⟨-, hn⟩ | ⟨hn, -⟩
    · exact mid_of h1 h.1 h.2 hn
    · omega
  · refine ⟨fun a b => absurd ⟨a, b⟩ h, p / 2 + q / 2, ?_, fun n hn => ?_⟩
    · rw [Vg.PI_eq] at *
      omega
    · rcases hn with ⟨hn, -⟩ | ⟨-, hn⟩
      · exact absurd hn h
      · exact hn
theorem bisect_yes (a b : Nat) (p q : Int) (hx : Vg.Rd a b p q) (hc : p + 1 < q) : ∃ c, (p < c ∧ c < q) ∧ ∀ w, Calls Try.prog 60 #[.agg #[.float .f64 a, .float .f64 b]] w fun e w' =>
    e = .returned (.tuple #[.agg #[.float .f64 (Vg.atn true p), .float .f64 (Vg.atn true c)], .agg #[.float .f64 (Vg.atn true c), .float .f64 (Vg.atn true q)], .bool true]) ∧ Below w.heap.size w w' := by
  obtain ⟨hS, c, hb, hC⟩ := cut_ex hx.iv hc
  refine ⟨c, hb, fun w => (bis_yes a b p q hx hc hS w).mono ?_⟩
  rintro e w' ⟨a, b, c, d, ok, rfl, h, g⟩
  rcases h with ⟨h, -⟩ | ⟨-, rfl, rfl, rfl, h, rfl⟩
  · omega
  · rw [hC _ h]; exact ⟨rfl, g⟩
theorem bisect_no (a b : Nat) (p q : Int) (hx : Vg.Rd a b p q) (hc : q ≤ p + 1) (w : World) : Calls Try.prog 60 #[.agg #[.float .f64 a, .float .f64 b]] w fun e w' =>
    e = .returned (.tuple #[.agg #[.float .f64 0, .float .f64 0], .agg #[.float .f64 0, .float .f64 0], .bool false]) ∧ Below w.heap.size w w' := by
  refine (bis_no a b p q hx hc w).mono ?_
  rintro e w' ⟨a, b, c, d, ok, rfl, h, g⟩
  rcases h with ⟨-, rfl, rfl, rfl, rfl, rfl⟩ | ⟨h, -⟩
  · exact ⟨rfl, g⟩
  · omega
end Go.Proofs.Ytljnadoodbninaa

/- Contracts of the reference's floorHalf, Bisect. -/
namespace Go.Proofs.Ytljnadoodbninaa
open Go.RowKit
/-- The place at which an interval is cut. -/
def cutp (p q : Int) : Int := if -Vg.PI < p ∧ q < Vg.PI then Vg.mdp p q else p / 2 + q / 2
theorem cut_at {p q : Int} (hI : Vg.Iv p q) (hc : p + 1 < q) : (-Vg.PI < p → q < Vg.PI → Sums p q) ∧ (p < cutp p q ∧ cutp p q < q) ∧ ∀ n, CutR p q n → n = Vg.atn true (cutp p q) := by
  have i1 := hI.lo
  have i2 := hI.hi
  unfold Vg.Pl at i1 i2
  unfold cutp
  by_cases h : -Vg.PI < p ∧ q < Vg.PI
  · obtain ⟨c, h1, h2, h3⟩ := Vg.cen p q h.1 h.2 hc
    have e := Vg.cen_place h1 h.1 h.2 hc h2 h3
    rw [if_pos h, ← e]
    refine ⟨fun _ _ => sums_of h1, ⟨h2, h3⟩, fun n hn => ?_⟩
    rcases hn with ⟨-, hn⟩ | ⟨hn, -⟩
    · exact mid_of h1 h.1 h.2 hn
    · omega
  · rw [if_neg h]
    refine ⟨fun a b => absurd ⟨a, b⟩ h, ?_, fun n hn => ?_⟩
    · rw [Vg.PI_eq] at *
      omega
    · rcases hn with ⟨hn, -⟩ | ⟨-, hn⟩
      · exact absurd hn h
      · exact hn
theorem bisect_at (a b : Nat) (p q : Int) (hx : Vg.Rd a b p q) (hc : p + 1 < q) (w : World) : Calls Try.prog 60 #[.agg #[.float .f64 a, .float .f64 b]] w fun e w' =>
    e = .returned (.tuple #[.agg #[.float .f64 (Vg.atn true p), .float .f64 (Vg.atn true (cutp p q))], .agg #[.float .f64 (Vg.atn true (cutp p q)), .float .f64 (Vg.atn true q)], .bool true]) ∧ Below w.heap.size w w' := by
  obtain ⟨hS, hb, hC⟩ := cut_at hx.iv hc
  refine (bis_yes a b p q hx hc hS w).mono ?_
  rintro e w' ⟨a, b, c, d, ok, rfl, h, g⟩
  rcases h with ⟨h, -⟩ | ⟨-, rfl, rfl, rfl, h, rfl⟩
  · omega
  · rw [hC _ h]; exact ⟨rfl, g⟩
theorem tdiv2 (p : Int) : ∃ a c, p.tdiv 2 = a ∧ p.tmod 2 = c ∧ p = 2 * a + c ∧ (0 ≤ p → 0 ≤ c ∧ c ≤ 1) ∧ (p < 0 → -1 ≤ c ∧ c ≤ 0) := by
  refine ⟨_, _, rfl, rfl, (Int.mul_tdiv_add_tmod p 2).symm, fun h => ?_, fun h => ?_⟩
  · have h1 := Int.tmod_nonneg (b := 2) h
    have h2 := Int.tmod_lt_of_pos p (b := 2) (by decide)
    omega
  · have e : p = -(-p) := by omega
    have h1 := Int.tmod_nonneg (a := -p) (b := 2) (by omega)
    have h2 := Int.tmod_lt_of_pos (-p) (b := 2) (by decide)
    rw [e, Int.neg_tmod]
    omega
theorem fhalf_any (p q : Int) (hp : Vg.Pl p) (hq : Vg.Pl q) (hc : p < q) (he : p % 2 = 0 ∨ q % 2 = 0) (w : World) : Calls Try.prog 94 #[.int .i64 p, .int .i64 q] w fun e w' => e = .returned (.int .i64 (p / 2 + q / 2)) ∧ w = w' := by
  have bp := hp.bd
  have bq := hq.bd
  obtain ⟨a, c, a1, c1, e1, p1, p2⟩ := tdiv2 p
  obtain ⟨b, d, b1, d1, e2, q1, q2⟩ := tdiv2 q
  have ha : IntKind.i64.wrap a = a := IntWalk.i64_in _ (by omega)
  have hb : IntKind.i64.wrap b = b := IntWalk.i64_in _ (by omega)
  have hab : IntKind.i64.wrap (a + b) = a + b := IntWalk.i64_in _ (by omega)
  have hc' : IntKind.i64.wrap c = c := IntWalk.i64_in _ (by omega)
  have hd : IntKind.i64.wrap d = d := IntWalk.i64_in _ (by omega)
  have hcd : IntKind.i64.wrap (c + d) = c + d := IntWalk.i64_in _ (by omega)
  have hs : IntKind.i64.wrap (a + b - 1) = a + b - 1 := IntWalk.i64_in _ (by omega)
  by_cases h : c + d < 0
  · have t : decide (c + d < 0) = true := decide_eq_true h
    have R := hide (show a + b - 1 = p / 2 + q / 2 from by omega)
    clear bp bq e1 e2 p1 p2 q1 q2 he hc hp hq h
    go_enter Try.func94, Try.ntmps94
    go_wp2
    go_ret
    exact ⟨by rw [← R.out]; rfl, rfl⟩
  · have t : decide (c + d < 0) = false := decide_eq_false h
    have R := hide (show a + b = p / 2 + q / 2 from by omega)
    clear bp bq e1 e2 p1 p2 q1 q2 he hc hp hq h
    go_enter Try.func94, Try.ntmps94
    go_wp2
    go_ret
    exact ⟨by rw [← R.out]; rfl, rfl⟩
set_option maxRecDepth 20000 in
set_option maxHeartbeats 8000000 in
theorem bis9_no (a b : Nat) (p q : Int) (hx : Vg.Rd a b p q) (hc : q ≤ p + 1) (w : World) : Calls Try.prog 61 #[.agg #[.int .u64 (a : Int), .int .u64 (b : Int)]] w fun e w' => e = .returned (.tuple #[.agg #[.int .u64 0, .int .u64 0], .agg #[.int .u64 0, .int .u64 0], .bool false]) ∧ Below w.heap.size w w' := by
  have hI := hx.iv
  have hp := hI.lo
  have hq := hI.hi
  have bp := hp.bd
  have bq := hq.bd
  have RR := fun w => rread_any a b p q hx w
  have R1 := fun w => rempty_any w
  have P1 := fun w => place1_any p hp w
  have P2 := fun w => place1_any q hq w
  have w5 : IntKind.i64.wrap (p + 1) = p + 1 := IntWalk.i64_in _ (by omega)
  have w6 : IntKind.i64.wrap (2 + p) = 2 + p := IntWalk.i64_in _ (by omega)
  have HS : Hid (decide (p < 0) = true ∧ decide (0 ≤ p) = false ∨ decide (p < 0) = false ∧ decide (0 ≤ p) = true) := hide (by
    by_cases h : p < 0
    · exact .inl ⟨decide_eq_true h, decide_eq_false (by omega)⟩
    · exact .inr ⟨decide_eq_false h, decide_eq_true (by omega)⟩)
  obtain ⟨n, hn⟩ : ∃ b, decide (q < p) = b := ⟨_, rfl⟩
  have E1 := relKinds.eqU (a := Vg.atn true p) (b := Vg.atn true q) (c := Vg.atn true Vg.PI) (d := Vg.atn true (-Vg.PI)) n (by
    rw [← hn, decide_eq_true_eq]
    constructor
    · intro hh; obtain ⟨rfl, rfl⟩ := hI.empty hh; exact ⟨rfl, rfl⟩
    · rintro ⟨h1, h2⟩
      have h1 := Vg.atn_inj hp Vg.pl_top h1
      have h2 := Vg.atn_inj hq Vg.pl_bot h2
      have := Vg.PI_pos
      omega)
  have c1 : decide (q ≤ p + 1) = true := decide_eq_true hc
  have c2 : decide (q < 2 + p) = true := decide_eq_true (by omega)
  obtain ⟨A, hA⟩ : ∃ n, Vg.atn true p = n := ⟨_, rfl⟩
  obtain ⟨B, hB⟩ : ∃ n, Vg.atn true q = n := ⟨_, rfl⟩
  obtain ⟨T0, hT⟩ : ∃ n, Vg.atn true Vg.PI = n := ⟨_, rfl⟩
  obtain ⟨T1, hU⟩ : ∃ n, Vg.atn true (-Vg.PI) = n := ⟨_, rfl⟩
  rw [hA, hB] at RR E1
  rw [hT, hU] at E1 R1
  rw [hA] at P1
  rw [hB] at P2
  clear hA hB hT hU hI hp hq bp bq hc hn hx
  go_enter Try.func61, Try.ntmps61
  go_wp2_with fail
  refine (RR _).mono ?_; rintro e w1 ⟨rfl, hb1⟩
  have l0 : w1.cell? ⟨w.heap.size + 1, 0, none⟩ = some (.int .u64 0) := keep_cell hb1 (by first | (simp; done) | (simp; omega)) (by simp [go_sem])
  have fl0 : w1.frozen? ⟨w.heap.size + 1, 0, none⟩ = false := keep_free hb1 (by first | (simp; done) | (simp; omega)) (by simp [go_sem])
  have l1 : w1.cell? ⟨w.heap.size + 1, 1, none⟩ = some (.int .u64 0) := keep_cell hb1 (by first | (simp; done) | (simp; omega)) (by simp [go_sem])
  have fl1 : w1.frozen? ⟨w.heap.size + 1, 1, none⟩ = false := keep_free hb1 (by first | (simp; done) | (simp; omega)) (by simp [go_sem])
  have r0 : w1.cell? ⟨w.heap.size + 1 + 1, 0, none⟩ = some (.int .u64 0) := keep_cell hb1 (by first | (simp; done) | (simp; omega)) (by simp [go_sem])
  have fr0 : w1.frozen? ⟨w.heap.size + 1 + 1, 0, none⟩ = false := keep_free hb1 (by first | (simp; done) | (simp; omega)) (by simp [go_sem])
  have r1 : w1.cell? ⟨w.heap.size + 1 + 1, 1, none⟩ = some (.int .u64 0) := keep_cell hb1 (by first | (simp; done) | (simp; omega)) (by simp [go_sem])
  have fr1 : w1.frozen? ⟨w.heap.size + 1 + 1, 1, none⟩ = false := keep_free hb1 (by first | (simp; done) | (simp; omega)) (by simp [go_sem])
  have z : w.heap.size + 1 + 1 < w1.heap.size := by have := hb1.size; simp at this; omega
  have g : Below w.heap.size w w1 := (b_two.alloc (by simp; omega) _).trans (hb1.mono (by simp <;> omega))
  clear hb1 RR
  go_upto_region 3 with fail
  obtain ⟨W2, hW⟩ : ∃ W2, (w1.alloc (.cells #[.int .u64 (A : Int), .int .u64 (B : Int)] 24)).alloc (.cells #[.int .u64 0, .int .u64 0] 24) = W2 := ⟨_, rfl⟩
  obtain ⟨GY, hGY⟩ : ∃ G, w1.heap.size = G := ⟨_, rfl⟩
  have g2 : Below w1.heap.size w1 W2 := by rw [← hW]; exact b_two
  have y0 : W2.cell? ⟨GY, 0, none⟩ = some (.int .u64 (A : Int)) := by rw [← hW, ← hGY]; simp [go_sem]
  have y1 : W2.cell? ⟨GY, 1, none⟩ = some (.int .u64 (B : Int)) := by rw [← hW, ← hGY]; simp [go_sem]
  have o0 : W2.cell? ⟨GY + 1, 0, none⟩ = some (.int .u64 0) := by rw [← hW, ← hGY]; simp [go_sem]
  have o1 : W2.cell? ⟨GY + 1, 1, none⟩ = some (.int .u64 0) := by rw [← hW, ← hGY]; simp [go_sem]
  have zo : GY + 1 < W2.heap.size := by rw [← hW, ← hGY]; simp
  have zy : GY < W2.heap.size := by omega
  replace l0 := keep_cell g2 (by dsimp only; omega) l0
  replace fl0 := keep_free g2 (by dsimp only; omega) fl0
  replace l1 := keep_cell g2 (by dsimp only; omega) l1
  replace fl1 := keep_free g2 (by dsimp only; omega) fl1
  replace r0 := keep_cell g2 (by dsimp only; omega) r0
  replace fr0 := keep_free g2 (by dsimp only; omega) fr0
  replace r1 := keep_cell g2 (by dsimp only; omega) r1
  replace fr1 := keep_free g2 (by dsimp only; omega) fr1
  have zl : w.heap.size + 1 < W2.heap.size := by have := g2.size; omega
  have zr : w.heap.size + 1 + 1 < W2.heap.size := by have := g2.size; omega
  replace g := bch g g2
  have zY : w.heap.size + 1 + 1 < GY := by omega
  rw [hW, hGY]
  clear hW hGY g2 z
  go_cut [16] (fun v wx => v = .bool n ∧ wx.cell? ⟨w.heap.size + 1, 0, none⟩ = some (.int .u64 0) ∧ wx.cell? ⟨w.heap.size + 1, 1, none⟩ = some (.int .u64 0) ∧ w.heap.size + 1 < wx.heap.size ∧ wx.cell? ⟨w.heap.size + 1 + 1, 0, none⟩ = some (.int .u64 0) ∧ wx.cell? ⟨w.heap.size + 1 + 1, 1, none⟩ = some (.int .u64 0) ∧ w.heap.size + 1 + 1 < wx.heap.size ∧ wx.cell? ⟨GY, 0, none⟩ = some (.int .u64 (A : Int)) ∧ wx.cell? ⟨GY, 1, none⟩ = some (.int .u64 (B : Int)) ∧ GY < wx.heap.size ∧ wx.cell? ⟨GY + 1, 0, none⟩ = some (.int .u64 0) ∧ wx.cell? ⟨GY + 1, 1, none⟩ = some (.int .u64 0) ∧ GY + 1 < wx.heap.size ∧ wx.frozen? ⟨w.heap.size + 1, 0, none⟩ = false ∧ wx.frozen? ⟨w.heap.size + 1, 1, none⟩ = false ∧ wx.frozen? ⟨w.heap.size + 1 + 1, 0, none⟩ = false ∧ wx.frozen? ⟨w.heap.size + 1 + 1, 1, none⟩ = false ∧ Below w.heap.size w wx)
  case first =>
    go_region_held3 (fun wx => wx.cell? ⟨w.heap.size + 1, 0, none⟩ = some (.int .u64 0) ∧ wx.cell? ⟨w.heap.size + 1, 1, none⟩ = some (.int .u64 0) ∧ w.heap.size + 1 < wx.heap.size ∧ wx.cell? ⟨w.heap.size + 1 + 1, 0, none⟩ = some (.int .u64 0) ∧ wx.cell? ⟨w.heap.size + 1 + 1, 1, none⟩ = some (.int .u64 0) ∧ w.heap.size + 1 + 1 < wx.heap.size ∧ wx.cell? ⟨GY, 0, none⟩ = some (.int .u64 (A : Int)) ∧ wx.cell? ⟨GY, 1, none⟩ = some (.int .u64 (B : Int)) ∧ GY < wx.heap.size ∧ wx.cell? ⟨GY + 1, 0, none⟩ = some (.int .u64 0) ∧ wx.cell? ⟨GY + 1, 1, none⟩ = some (.int .u64 0) ∧ GY + 1 < wx.heap.size ∧ wx.frozen? ⟨w.heap.size + 1, 0, none⟩ = false ∧ wx.frozen? ⟨w.heap.size + 1, 1, none⟩ = false ∧ wx.frozen? ⟨w.heap.size + 1 + 1, 0, none⟩ = false ∧ wx.frozen? ⟨w.heap.size + 1 + 1, 1, none⟩ = false ∧ Below w.heap.size w wx)
      (((try dsimp only); (repeat' apply And.intro) <;> first | assumption | (simp [*]; done) | exact Below.drew (by assumption) | exact keep_cell hb1 (by first | (dsimp only; omega) | (simp; omega)) (by simp [*]) | exact keep_free hb1 (by first | (dsimp only; omega) | (simp; omega)) (by simp [*]) | (have := hb1.size; omega) | (have := hb1.size; simp at this; omega) | exact bch (by simp [*]) hb1 | exact bch (Below.drew (by simp [*])) hb1))
      (first | (go_at_call 32; refine (R1 _).mono ?_; rintro e w' ⟨rfl, hb1⟩) | fail)
    all_goals
      go_wp2_with fail
      go_meet
      refine ⟨rfl, ?_⟩
      first | assumption | (go_split_ands; (repeat' apply And.intro) <;> first | assumption | omega | (simp [*]; done))
  case rest =>
  clear l0 l1 zl r0 r1 zr y0 y1 zy o0 o1 zo fl0 fl1 fr0 fr1 g E1 R1
  obtain ⟨rfl, l0, l1, zl, r0, r1, zr, y0, y1, zy, o0, o1, zo, fl0, fl1, fr0, fr1, g⟩ := hcut
  cases n
  · go_wp2_with fail
    refine (P1 _).mono ?_; rintro e w3 ⟨rfl, hb⟩
    replace l0 := keep_cell hb zl l0
    replace l1 := keep_cell hb zl l1
    replace r0 := keep_cell hb zr r0
    replace r1 := keep_cell hb zr r1
    replace y0 := keep_cell hb zy y0
    replace y1 := keep_cell hb zy y1
    replace o0 := keep_cell hb zo o0
    replace o1 := keep_cell hb zo o1
    replace fl0 := keep_free hb zl fl0
    replace fl1 := keep_free hb zl fl1
    replace fr0 := keep_free hb zr fr0
    replace fr1 := keep_free hb zr fr1
    replace zl := Nat.lt_of_lt_of_le zl hb.size
    replace zr := Nat.lt_of_lt_of_le zr hb.size
    replace zy := Nat.lt_of_lt_of_le zy hb.size
    replace zo := Nat.lt_of_lt_of_le zo hb.size
    replace g := bch g hb
    clear hb P1
    go_wp2_with fail
    refine (P2 _).mono ?_; rintro e w4 ⟨rfl, hb⟩
    replace l0 := keep_cell hb zl l0
    replace l1 := keep_cell hb zl l1
    replace r0 := keep_cell hb zr r0
    replace r1 := keep_cell hb zr r1
    replace y0 := keep_cell hb zy y0
    replace y1 := keep_cell hb zy y1
    replace o0 := keep_cell hb zo o0
    replace o1 := keep_cell hb zo o1
    replace fl0 := keep_free hb zl fl0
    replace fl1 := keep_free hb zl fl1
    replace fr0 := keep_free hb zr fr0
    replace fr1 := keep_free hb zr fr1
    replace zl := Nat.lt_of_lt_of_le zl hb.size
    replace zr := Nat.lt_of_lt_of_le zr hb.size
    replace zy := Nat.lt_of_lt_of_le zy hb.size
    replace zo := Nat.lt_of_lt_of_le zo hb.size
    replace g := bch g hb
    clear hb P2
    go_upto_region 7 with fail
    go_cut [48] (fun v wx => v = .bool true ∧ wx.cell? ⟨w.heap.size + 1, 0, none⟩ = some (.int .u64 0) ∧ wx.cell? ⟨w.heap.size + 1, 1, none⟩ = some (.int .u64 0) ∧ w.heap.size + 1 < wx.heap.size ∧ wx.cell? ⟨w.heap.size + 1 + 1, 0, none⟩ = some (.int .u64 0) ∧ wx.cell? ⟨w.heap.size + 1 + 1, 1, none⟩ = some (.int .u64 0) ∧ w.heap.size + 1 + 1 < wx.heap.size ∧ wx.cell? ⟨GY, 0, none⟩ = some (.int .u64 (A : Int)) ∧ wx.cell? ⟨GY, 1, none⟩ = some (.int .u64 (B : Int)) ∧ GY < wx.heap.size ∧ wx.cell? ⟨GY + 1, 0, none⟩ = some (.int .u64 0) ∧ wx.cell? ⟨GY + 1, 1, none⟩ = some (.int .u64 0) ∧ GY + 1 < wx.heap.size ∧ wx.frozen? ⟨w.heap.size + 1, 0, none⟩ = false ∧ wx.frozen? ⟨w.heap.size + 1, 1, none⟩ = false ∧ wx.frozen? ⟨w.heap.size + 1 + 1, 0, none⟩ = false ∧ wx.frozen? ⟨w.heap.size + 1 + 1, 1, none⟩ = false ∧ Below w.heap.size w wx)
    case first =>
      rcases HS.out with ⟨s1, s2⟩ | ⟨s1, s2⟩
      all_goals
        clear HS
        go_wp2
        go_meet
        exact ⟨rfl, l0, l1, zl, r0, r1, zr, y0, y1, zy, o0, o1, zo, fl0, fl1, fr0, fr1, g⟩
    case rest =>
    clear l0 l1 zl r0 r1 zr y0 y1 zy o0 o1 zo fl0 fl1 fr0 fr1 g HS w5 w6
    obtain ⟨rfl, l0, l1, zl, r0, r1, zr, y0, y1, zy, o0, o1, zo, fl0, fl1, fr0, fr1, g⟩ := hcut
    clear c1 c2
    go_wp2
    go_region
    all_goals go_wp2
    all_goals exact bodyPost_ret (v := .tuple #[.agg #[.int .u64 0, .int .u64 0], .agg #[.int .u64 0, .int .u64 0], .bool false]) (by simp [results, Try.results61, go_sem, *]) rfl ⟨rfl, by first | exact ((((g.setCell (by dsimp only <;> omega) _).setCell (by dsimp only <;> omega) _).setCell (by dsimp only <;> omega) _).setCell (by dsimp only <;> omega) _) | exact (((((g.setCell (by dsimp only <;> omega) _).setCell (by dsimp only <;> omega) _).setCell (by dsimp only <;> omega) _).setCell (by dsimp only <;> omega) _)).drew | exact ((((g.drew.setCell (by dsimp only <;> omega) _).setCell (by dsimp only <;> omega) _).setCell (by dsimp only <;> omega) _).setCell (by dsimp only <;> omega) _)⟩
  · clear P1 P2 HS w5 w6 c1 c2
    go_wp2
    go_region
    all_goals go_wp2
    all_goals exact bodyPost_ret (v := .tuple #[.agg #[.int .u64 0, .int .u64 0], .agg #[.int .u64 0, .int .u64 0], .bool false]) (by simp [results, Try.results61, go_sem, *]) rfl ⟨rfl, by first | exact ((((g.setCell (by dsimp only <;> omega) _).setCell (by dsimp only <;> omega) _).setCell (by dsimp only <;> omega) _).setCell (by dsimp only <;> omega) _) | exact (((((g.setCell (by dsimp only <;> omega) _).setCell (by dsimp only <;> omega) _).setCell (by dsimp only <;> omega) _).setCell (by dsimp only <;> omega) _)).drew | exact ((((g.drew.setCell (by dsimp only <;> omega) _).setCell (by dsimp only <;> omega) _).setCell (by dsimp only <;> omega) _).setCell (by dsimp only <;> omega) _)⟩

set_option maxRecDepth 20000 in
set_option maxHeartbeats 8000000 in
theorem bis9_yes (a b : Nat) (p q : Int) (hx : Vg.Rd a b p q) (hc : p + 1 < q) (w : World) : Calls Try.prog 61 #[.agg #[.int .u64 (a : Int), .int .u64 (b : Int)]] w fun e w' =>
    e = .returned (.tuple #[.agg #[.int .u64 (Vg.atn true p : Nat), .int .u64 (Vg.atn true (cutp p q) : Nat)], .agg #[.int .u64 (Vg.atn true (cutp p q) : Nat), .int .u64 (Vg.atn true q : Nat)], .bool true]) ∧ Below w.heap.size w w' := by
  have hI := hx.iv
  have hp := hI.lo
  have hq := hI.hi
  have bp := hp.bd
  have bq := hq.bd
  have RR := fun w => rread_any a b p q hx w
  have R1 := fun w => rempty_any w
  have P1 := fun w => place1_any p hp w
  have P2 := fun w => place1_any q hq w
  have w5 : IntKind.i64.wrap (p + 1) = p + 1 := IntWalk.i64_in _ (by omega)
  have w6 : IntKind.i64.wrap (2 + p) = 2 + p := IntWalk.i64_in _ (by omega)
  have HS : Hid (decide (p < 0) = true ∧ decide (0 ≤ p) = false ∨ decide (p < 0) = false ∧ decide (0 ≤ p) = true) := hide (by
    by_cases h : p < 0
    · exact .inl ⟨decide_eq_true h, decide_eq_false (by omega)⟩
    · exact .inr ⟨decide_eq_false h, decide_eq_true (by omega)⟩)
  have E1 := relKinds.eqU (a := Vg.atn true p) (b := Vg.atn true q) (c := Vg.atn true Vg.PI) (d := Vg.atn true (-Vg.PI)) false (by
    refine ⟨fun h => (by cases h), fun ⟨h1, h2⟩ => ?_⟩
    have h1 := Vg.atn_inj hp Vg.pl_top h1
    have := Vg.PI_eq
    omega)
  have c1 : decide (q ≤ p + 1) = false := decide_eq_false (by omega)
  have c2 : decide (q < 2 + p) = false := decide_eq_false (by omega)
  have M8 := fun w => mid8_any p q hI hc w
  have hcu := (cut_at hI hc).2.1
  have hcp : Vg.Pl (cutp p q) := by unfold Vg.Pl; rw [Vg.PI_eq]; omega
  have AT := fun w => at1_any (cutp p q) hcp w
  obtain ⟨nA, hnA⟩ : ∃ b, Vg.infb (Vg.atn true p) = b := ⟨_, rfl⟩
  obtain ⟨nB, hnB⟩ : ∃ b, Vg.infb (Vg.atn true q) = b := ⟨_, rfl⟩
  have I1 := fun w => rinf_any _ (Vg.atn_le hp) nA hnA w
  have I2 := fun w => rinf_any _ (Vg.atn_le hq) nB hnB w
  rw [Vg.infb_atn hp] at hnA
  rw [Vg.infb_atn hq] at hnB
  have HN : Hid ((nA || nB) = false ↔ -Vg.PI < p ∧ q < Vg.PI) := hide (by
    rw [← hnA, ← hnB, Bool.or_eq_false_iff, decide_eq_false_iff_not, decide_eq_false_iff_not]
    have := Vg.PI_eq
    omega)
  obtain ⟨f, hf⟩ : ∃ b, (nA || nB) = b := ⟨_, rfl⟩
  rw [hf] at HN
  have HFH : Hid (f = true → ∀ w, Calls Try.prog 94 #[.int .i64 p, .int .i64 q] w fun e w' => e = .returned (.int .i64 (cutp p q)) ∧ w = w') := hide (by
    intro h w
    have h1 : ¬ (-Vg.PI < p ∧ q < Vg.PI) := fun k => by have := HN.out.2 k; rw [h] at this; cases this
    have e : cutp p q = p / 2 + q / 2 := if_neg h1
    rw [e]
    exact fhalf_any p q hp hq (by omega) (by have := Vg.PI_eq; omega) w)
  have HMD : Hid (f = false → -Vg.PI < p ∧ q < Vg.PI ∧ Vg.mdp p q = cutp p q) := hide (by
    intro h
    have h1 := HN.out.1 h
    exact ⟨h1.1, h1.2, (if_pos h1).symm⟩)
  obtain ⟨A, hA⟩ : ∃ n, Vg.atn true p = n := ⟨_, rfl⟩
  obtain ⟨B, hB⟩ : ∃ n, Vg.atn true q = n := ⟨_, rfl⟩
  obtain ⟨T0, hT⟩ : ∃ n, Vg.atn true Vg.PI = n := ⟨_, rfl⟩
  obtain ⟨T1, hU⟩ : ∃ n, Vg.atn true (-Vg.PI) = n := ⟨_, rfl⟩
  rw [hA, hB] at RR E1
  rw [hT, hU] at E1 R1
  rw [hA] at P1
  rw [hB] at P2
  rw [hA, hB] at M8 ⊢
  rw [hA] at I1
  rw [hB] at I2
  obtain ⟨Q, hQ⟩ : ∃ x, cutp p q = x := ⟨_, rfl⟩
  rw [hQ] at AT HFH HMD ⊢
  obtain ⟨C, hC⟩ : ∃ n, Vg.atn true Q = n := ⟨_, rfl⟩
  rw [hC] at AT ⊢
  have HC := hide hC
  clear hA hB hT hU hI hp hq bp bq hc hnA hnB hcu hcp HN hQ hC hx
  go_enter Try.func61, Try.ntmps61
  go_wp2_with fail
  refine (RR _).mono ?_; rintro e w1 ⟨rfl, hb1⟩
  have l0 : w1.cell? ⟨w.heap.size + 1, 0, none⟩ = some (.int .u64 0) := keep_cell hb1 (by first | (simp; done) | (simp; omega)) (by simp [go_sem])
  have fl0 : w1.frozen? ⟨w.heap.size + 1, 0, none⟩ = false := keep_free hb1 (by first | (simp; done) | (simp; omega)) (by simp [go_sem])
  have l1 : w1.cell? ⟨w.heap.size + 1, 1, none⟩ = some (.int .u64 0) := keep_cell hb1 (by first | (simp; done) | (simp; omega)) (by simp [go_sem])
  have fl1 : w1.frozen? ⟨w.heap.size + 1, 1, none⟩ = false := keep_free hb1 (by first | (simp; done) | (simp; omega)) (by simp [go_sem])
  have r0 : w1.cell? ⟨w.heap.size + 1 + 1, 0, none⟩ = some (.int .u64 0) := keep_cell hb1 (by first | (simp; done) | (simp; omega)) (by simp [go_sem])
  have fr0 : w1.frozen? ⟨w.heap.size + 1 + 1, 0, none⟩ = false := keep_free hb1 (by first | (simp; done) | (simp; omega)) (by simp [go_sem])
  have r1 : w1.cell? ⟨w.heap.size + 1 + 1, 1, none⟩ = some (.int .u64 0) := keep_cell hb1 (by first | (simp; done) | (simp; omega)) (by simp [go_sem])
  have fr1 : w1.frozen? ⟨w.heap.size + 1 + 1, 1, none⟩ = false := keep_free hb1 (by first | (simp; done) | (simp; omega)) (by simp [go_sem])
  have z : w.heap.size + 1 + 1 < w1.heap.size := by have := hb1.size; simp at this; omega
  have g : Below w.heap.size w w1 := (b_two.alloc (by simp; omega) _).trans (hb1.mono (by simp <;> omega))
  clear hb1 RR
  go_upto_region 3 with fail
  obtain ⟨W2, hW⟩ : ∃ W2, (w1.alloc (.cells #[.int .u64 (A : Int), .int .u64 (B : Int)] 24)).alloc (.cells #[.int .u64 0, .int .u64 0] 24) = W2 := ⟨_, rfl⟩
  obtain ⟨GY, hGY⟩ : ∃ G, w1.heap.size = G := ⟨_, rfl⟩
  have g2 : Below w1.heap.size w1 W2 := by rw [← hW]; exact b_two
  have y0 : W2.cell? ⟨GY, 0, none⟩ = some (.int .u64 (A : Int)) := by rw [← hW, ← hGY]; simp [go_sem]
  have y1 : W2.cell? ⟨GY, 1, none⟩ = some (.int .u64 (B : Int)) := by rw [← hW, ← hGY]; simp [go_sem]
  have o0 : W2.cell? ⟨GY + 1, 0, none⟩ = some (.int .u64 0) := by rw [← hW, ← hGY]; simp [go_sem]
  have o1 : W2.cell? ⟨GY + 1, 1, none⟩ = some (.int .u64 0) := by rw [← hW, ← hGY]; simp [go_sem]
  have zo : GY + 1 < W2.heap.size := by rw [← hW, ← hGY]; simp
  have zy : GY < W2.heap.size := by omega
  replace l0 := keep_cell g2 (by dsimp only; omega) l0
  replace fl0 := keep_free g2 (by dsimp only; omega) fl0
  replace l1 := keep_cell g2 (by dsimp only; omega) l1
  replace fl1 := keep_free g2 (by dsimp only; omega) fl1
  replace r0 := keep_cell g2 (by dsimp only; omega) r0
  replace fr0 := keep_free g2 (by dsimp only; omega) fr0
  replace r1 := keep_cell g2 (by dsimp only; omega) r1
  replace fr1 := keep_free g2 (by dsimp only; omega) fr1
  have zl : w.heap.size + 1 < W2.heap.size := by have := g2.size; omega
  have zr : w.heap.size + 1 + 1 < W2.heap.size := by have := g2.size; omega
  replace g := bch g g2
  have zY : w.heap.size + 1 + 1 < GY := by omega
  rw [hW, hGY]
  clear hW hGY g2 z
  go_cut [16] (fun v wx => v = .bool false ∧ wx.cell? ⟨w.heap.size + 1, 0, none⟩ = some (.int .u64 0) ∧ wx.cell? ⟨w.heap.size + 1, 1, none⟩ = some (.int .u64 0) ∧ w.heap.size + 1 < wx.heap.size ∧ wx.cell? ⟨w.heap.size + 1 + 1, 0, none⟩ = some (.int .u64 0) ∧ wx.cell? ⟨w.heap.size + 1 + 1, 1, none⟩ = some (.int .u64 0) ∧ w.heap.size + 1 + 1 < wx.heap.size ∧ wx.cell? ⟨GY, 0, none⟩ = some (.int .u64 (A : Int)) ∧ wx.cell? ⟨GY, 1, none⟩ = some (.int .u64 (B : Int)) ∧ GY < wx.heap.size ∧ wx.cell? ⟨GY + 1, 0, none⟩ = some (.int .u64 0) ∧ wx.cell? ⟨GY + 1, 1, none⟩ = some (.int .u64 0) ∧ GY + 1 < wx.heap.size ∧ wx.frozen? ⟨w.heap.size + 1, 0, none⟩ = false ∧ wx.frozen? ⟨w.heap.size + 1, 1, none⟩ = false ∧ wx.frozen? ⟨w.heap.size + 1 + 1, 0, none⟩ = false ∧ wx.frozen? ⟨w.heap.size + 1 + 1, 1, none⟩ = false ∧ Below w.heap.size w wx)
  case first =>
    go_region_held3 (fun wx => wx.cell? ⟨w.heap.size + 1, 0, none⟩ = some (.int .u64 0) ∧ wx.cell? ⟨w.heap.size + 1, 1, none⟩ = some (.int .u64 0) ∧ w.heap.size + 1 < wx.heap.size ∧ wx.cell? ⟨w.heap.size + 1 + 1, 0, none⟩ = some (.int .u64 0) ∧ wx.cell? ⟨w.heap.size + 1 + 1, 1, none⟩ = some (.int .u64 0) ∧ w.heap.size + 1 + 1 < wx.heap.size ∧ wx.cell? ⟨GY, 0, none⟩ = some (.int .u64 (A : Int)) ∧ wx.cell? ⟨GY, 1, none⟩ = some (.int .u64 (B : Int)) ∧ GY < wx.heap.size ∧ wx.cell? ⟨GY + 1, 0, none⟩ = some (.int .u64 0) ∧ wx.cell? ⟨GY + 1, 1, none⟩ = some (.int .u64 0) ∧ GY + 1 < wx.heap.size ∧ wx.frozen? ⟨w.heap.size + 1, 0, none⟩ = false ∧ wx.frozen? ⟨w.heap.size + 1, 1, none⟩ = false ∧ wx.frozen? ⟨w.heap.size + 1 + 1, 0, none⟩ = false ∧ wx.frozen? ⟨w.heap.size + 1 + 1, 1, none⟩ = false ∧ Below w.heap.size w wx)
      (((try dsimp only); (repeat' apply And.intro) <;> first | assumption | (simp [*]; done) | exact Below.drew (by assumption) | exact keep_cell hb1 (by first | (dsimp only; omega) | (simp; omega)) (by simp [*]) | exact keep_free hb1 (by first | (dsimp only; omega) | (simp; omega)) (by simp [*]) | (have := hb1.size; omega) | (have := hb1.size; simp at this; omega) | exact bch (by simp [*]) hb1 | exact bch (Below.drew (by simp [*])) hb1))
      (first | (go_at_call 32; refine (R1 _).mono ?_; rintro e w' ⟨rfl, hb1⟩) | fail)
    all_goals
      go_wp2_with fail
      go_meet
      refine ⟨rfl, ?_⟩
      first | assumption | (go_split_ands; (repeat' apply And.intro) <;> first | assumption | omega | (simp [*]; done))
  case rest =>
  clear l0 l1 zl r0 r1 zr y0 y1 zy o0 o1 zo fl0 fl1 fr0 fr1 g E1 R1
  obtain ⟨rfl, l0, l1, zl, r0, r1, zr, y0, y1, zy, o0, o1, zo, fl0, fl1, fr0, fr1, g⟩ := hcut
  go_wp2_with fail
  refine (P1 _).mono ?_; rintro e w3 ⟨rfl, hb⟩
  replace l0 := keep_cell hb zl l0
  replace l1 := keep_cell hb zl l1
  replace r0 := keep_cell hb zr r0
  replace r1 := keep_cell hb zr r1
  replace y0 := keep_cell hb zy y0
  replace y1 := keep_cell hb zy y1
  replace o0 := keep_cell hb zo o0
  replace o1 := keep_cell hb zo o1
  replace fl0 := keep_free hb zl fl0
  replace fl1 := keep_free hb zl fl1
  replace fr0 := keep_free hb zr fr0
  replace fr1 := keep_free hb zr fr1
  replace zl := Nat.lt_of_lt_of_le zl hb.size
  replace zr := Nat.lt_of_lt_of_le zr hb.size
  replace zy := Nat.lt_of_lt_of_le zy hb.size
  replace zo := Nat.lt_of_lt_of_le zo hb.size
  replace g := bch g hb
  clear hb P1
  go_wp2_with fail
  refine (P2 _).mono ?_; rintro e w4 ⟨rfl, hb⟩
  replace l0 := keep_cell hb zl l0
  replace l1 := keep_cell hb zl l1
  replace r0 := keep_cell hb zr r0
  replace r1 := keep_cell hb zr r1
  replace y0 := keep_cell hb zy y0
  replace y1 := keep_cell hb zy y1
  replace o0 := keep_cell hb zo o0
  replace o1 := keep_cell hb zo o1
  replace fl0 := keep_free hb zl fl0
  replace fl1 := keep_free hb zl fl1
  replace fr0 := keep_free hb zr fr0
  replace fr1 := keep_free hb zr fr1
  replace zl := Nat.lt_of_lt_of_le zl hb.size
  replace zr := Nat.lt_of_lt_of_le zr hb.size
  replace zy := Nat.lt_of_lt_of_le zy hb.size
  replace zo := Nat.lt_of_lt_of_le zo hb.size
  replace g := bch g hb
  clear hb P2
  go_upto_region 7 with fail
  go_cut [48] (fun v wx => v = .bool false ∧ wx.cell? ⟨w.heap.size + 1, 0, none⟩ = some (.int .u64 0) ∧ wx.cell? ⟨w.heap.size + 1, 1, none⟩ = some (.int .u64 0) ∧ w.heap.size + 1 < wx.heap.size ∧ wx.cell? ⟨w.heap.size + 1 + 1, 0, none⟩ = some (.int .u64 0) ∧ wx.cell? ⟨w.heap.size + 1 + 1, 1, none⟩ = some (.int .u64 0) ∧ w.heap.size + 1 + 1 < wx.heap.size ∧ wx.cell? ⟨GY, 0, none⟩ = some (.int .u64 (A : Int)) ∧ wx.cell? ⟨GY, 1, none⟩ = some (.int .u64 (B : Int)) ∧ GY < wx.heap.size ∧ wx.cell? ⟨GY + 1, 0, none⟩ = some (.int .u64 0) ∧ wx.cell? ⟨GY + 1, 1, none⟩ = some (.int .u64 0) ∧ GY + 1 < wx.heap.size ∧ wx.frozen? ⟨w.heap.size + 1, 0, none⟩ = false ∧ wx.frozen? ⟨w.heap.size + 1, 1, none⟩ = false ∧ wx.frozen? ⟨w.heap.size + 1 + 1, 0, none⟩ = false ∧ wx.frozen? ⟨w.heap.size + 1 + 1, 1, none⟩ = false ∧ Below w.heap.size w wx)
  case first =>
    rcases HS.out with ⟨s1, s2⟩ | ⟨s1, s2⟩
    all_goals
      clear HS
      go_wp2
      go_meet
      exact ⟨rfl, l0, l1, zl, r0, r1, zr, y0, y1, zy, o0, o1, zo, fl0, fl1, fr0, fr1, g⟩
  case rest =>
  clear l0 l1 zl r0 r1 zr y0 y1 zy o0 o1 zo fl0 fl1 fr0 fr1 g HS w5 w6
  obtain ⟨rfl, l0, l1, zl, r0, r1, zr, y0, y1, zy, o0, o1, zo, fl0, fl1, fr0, fr1, g⟩ := hcut
  clear c1 c2
  go_wp2_with fail
  refine (M8 _).mono ?_; rintro e w7 ⟨m, rfl, hm, hb⟩
  replace l0 := keep_cell hb zl l0
  replace l1 := keep_cell hb zl l1
  replace r0 := keep_cell hb zr r0
  replace r1 := keep_cell hb zr r1
  replace y0 := keep_cell hb zy y0
  replace y1 := keep_cell hb zy y1
  replace o0 := keep_cell hb zo o0
  replace o1 := keep_cell hb zo o1
  replace fl0 := keep_free hb zl fl0
  replace fl1 := keep_free hb zl fl1
  replace fr0 := keep_free hb zr fr0
  replace fr1 := keep_free hb zr fr1
  replace zl := Nat.lt_of_lt_of_le zl hb.size
  replace zr := Nat.lt_of_lt_of_le zr hb.size
  replace zy := Nat.lt_of_lt_of_le zy hb.size
  replace zo := Nat.lt_of_lt_of_le zo hb.size
  replace g := bch g hb
  have HM : Hid (f = false → m = C) := hide (fun h => by obtain ⟨a, b, e⟩ := HMD.out h; rw [hm a b, e, HC.out])
  clear hb hm M8 HMD HC
  go_upto_region 10 with fail
  go_cut [60] (fun v wx => v = .bool f ∧ wx.cell? ⟨w.heap.size + 1, 0, none⟩ = some (.int .u64 0) ∧ wx.cell? ⟨w.heap.size + 1, 1, none⟩ = some (.int .u64 0) ∧ w.heap.size + 1 < wx.heap.size ∧ wx.cell? ⟨w.heap.size + 1 + 1, 0, none⟩ = some (.int .u64 0) ∧ wx.cell? ⟨w.heap.size + 1 + 1, 1, none⟩ = some (.int .u64 0) ∧ w.heap.size + 1 + 1 < wx.heap.size ∧ wx.cell? ⟨GY, 0, none⟩ = some (.int .u64 (A : Int)) ∧ wx.cell? ⟨GY, 1, none⟩ = some (.int .u64 (B : Int)) ∧ GY < wx.heap.size ∧ wx.cell? ⟨GY + 1, 0, none⟩ = some (.int .u64 0) ∧ wx.cell? ⟨GY + 1, 1, none⟩ = some (.int .u64 0) ∧ GY + 1 < wx.heap.size ∧ wx.frozen? ⟨w.heap.size + 1, 0, none⟩ = false ∧ wx.frozen? ⟨w.heap.size + 1, 1, none⟩ = false ∧ wx.frozen? ⟨w.heap.size + 1 + 1, 0, none⟩ = false ∧ wx.frozen? ⟨w.heap.size + 1 + 1, 1, none⟩ = false ∧ Below w.heap.size w wx)
  case first =>
    cases nA
    · obtain rfl : nB = f := hf
      go_wp2_with fail
      refine (I1 _).mono ?_; rintro e w8 ⟨rfl, rfl⟩
      go_wp2_with fail
      refine (I2 _).mono ?_; rintro e w8 ⟨rfl, rfl⟩
      go_wp2_with fail
      go_meet
      exact ⟨rfl, l0, l1, zl, r0, r1, zr, y0, y1, zy, o0, o1, zo, fl0, fl1, fr0, fr1, g⟩
    · obtain rfl : true = f := hf
      go_wp2_with fail
      refine (I1 _).mono ?_; rintro e w8 ⟨rfl, rfl⟩
      go_wp2_with fail
      go_meet
      exact ⟨rfl, l0, l1, zl, r0, r1, zr, y0, y1, zy, o0, o1, zo, fl0, fl1, fr0, fr1, g⟩
  case rest =>
  clear l0 l1 zl r0 r1 zr y0 y1 zy o0 o1 zo fl0 fl1 fr0 fr1 g I1 I2 hf
  obtain ⟨rfl, l0, l1, zl, r0, r1, zr, y0, y1, zy, o0, o1, zo, fl0, fl1, fr0, fr1, g⟩ := hcut
  go_upto_if 60 with fail
  go_cut [11] (fun v wx => v = .int .u64 (C : Int) ∧ wx.cell? ⟨w.heap.size + 1, 0, none⟩ = some (.int .u64 0) ∧ wx.cell? ⟨w.heap.size + 1, 1, none⟩ = some (.int .u64 0) ∧ w.heap.size + 1 < wx.heap.size ∧ wx.cell? ⟨w.heap.size + 1 + 1, 0, none⟩ = some (.int .u64 0) ∧ wx.cell? ⟨w.heap.size + 1 + 1, 1, none⟩ = some (.int .u64 0) ∧ w.heap.size + 1 + 1 < wx.heap.size ∧ wx.cell? ⟨GY, 0, none⟩ = some (.int .u64 (A : Int)) ∧ wx.cell? ⟨GY, 1, none⟩ = some (.int .u64 (B : Int)) ∧ GY < wx.heap.size ∧ wx.cell? ⟨GY + 1, 0, none⟩ = some (.int .u64 0) ∧ wx.cell? ⟨GY + 1, 1, none⟩ = some (.int .u64 0) ∧ GY + 1 < wx.heap.size ∧ wx.frozen? ⟨w.heap.size + 1, 0, none⟩ = false ∧ wx.frozen? ⟨w.heap.size + 1, 1, none⟩ = false ∧ wx.frozen? ⟨w.heap.size + 1 + 1, 0, none⟩ = false ∧ wx.frozen? ⟨w.heap.size + 1 + 1, 1, none⟩ = false ∧ Below w.heap.size w wx)
  case first =>
    cases f
    · obtain rfl := HM.out rfl
      go_wp2
      go_meet
      exact ⟨rfl, l0, l1, zl, r0, r1, zr, y0, y1, zy, o0, o1, zo, fl0, fl1, fr0, fr1, g⟩
    · have FH := HFH.out rfl
      clear HFH HM
      go_wp2_with fail
      refine (FH _).mono ?_; rintro e w8 ⟨rfl, rfl⟩
      go_wp2_with fail
      refine (AT _).mono ?_; rintro e w8 ⟨rfl, hb⟩
      replace l0 := keep_cell hb zl l0
      replace l1 := keep_cell hb zl l1
      replace r0 := keep_cell hb zr r0
      replace r1 := keep_cell hb zr r1
      replace y0 := keep_cell hb zy y0
      replace y1 := keep_cell hb zy y1
      replace o0 := keep_cell hb zo o0
      replace o1 := keep_cell hb zo o1
      replace fl0 := keep_free hb zl fl0
      replace fl1 := keep_free hb zl fl1
      replace fr0 := keep_free hb zr fr0
      replace fr1 := keep_free hb zr fr1
      replace zl := Nat.lt_of_lt_of_le zl hb.size
      replace zr := Nat.lt_of_lt_of_le zr hb.size
      replace zy := Nat.lt_of_lt_of_le zy hb.size
      replace zo := Nat.lt_of_lt_of_le zo hb.size
      replace g := bch g hb
      clear hb AT FH
      go_wp2
      go_meet
      exact ⟨rfl, l0, l1, zl, r0, r1, zr, y0, y1, zy, o0, o1, zo, fl0, fl1, fr0, fr1, g⟩
  case rest =>
  clear l0 l1 zl r0 r1 zr y0 y1 zy o0 o1 zo fl0 fl1 fr0 fr1 g HM HFH AT
  obtain ⟨rfl, l0, l1, zl, r0, r1, zr, y0, y1, zy, o0, o1, zo, fl0, fl1, fr0, fr1, g⟩ := hcut
  have q1 : w.heap.size + 1 ≠ GY := by omega
  have q2 : w.heap.size + 1 + 1 ≠ GY := by omega
  have q3 := q1.symm
  have q4 := q2.symm
  go_wp2
  go_region
  all_goals go_wp2
  all_goals exact bodyPost_ret (v := .tuple #[.agg #[.int .u64 (A : Int), .int .u64 (C : Int)], .agg #[.int .u64 (C : Int), .int .u64 (B : Int)], .bool true]) (by simp [results, Try.results61, go_sem, *]) rfl ⟨rfl, by first | exact ((((g.setCell (by dsimp only <;> omega) _).setCell (by dsimp only <;> omega) _).setCell (by dsimp only <;> omega) _).setCell (by dsimp only <;> omega) _) | exact (((((g.setCell (by dsimp only <;> omega) _).setCell (by dsimp only <;> omega) _).setCell (by dsimp only <;> omega) _).setCell (by dsimp only <;> omega) _)).drew | exact ((((g.drew.setCell (by dsimp only <;> omega) _).setCell (by dsimp only <;> omega) _).setCell (by dsimp only <;> omega) _).setCell (by dsimp only <;> omega) _)⟩
end Go.Proofs.Ytljnadoodbninaa

/- Every Bisect cuts where the document says. The walk. -/
namespace Go.Proofs.Ytljnadoodbninaa.relHalves
open Go.RowKit

set_option maxRecDepth 40000 in
set_option maxHeartbeats 16000000 in
theorem walk_all (X0 Y0 L1 L2 R1 R2 : Nat) (ok : Bool) (NX : ∀ w : World, Calls Try.prog 21 #[.agg #[.int .u64 (X0 : Int), .int .u64 (Y0 : Int)]] w (fun e w' => e = .returned (.agg #[.float .f64 X0, .float .f64 Y0]) ∧ Below w.heap.size w w')) (BI : ∀ w : World, Calls Try.prog 60 #[.agg #[.float .f64 X0, .float .f64 Y0]] w (fun e w' => e = .returned (.tuple #[.agg #[.float .f64 L1, .float .f64 L2], .agg #[.float .f64 R1, .float .f64 R2], .bool ok]) ∧ Below w.heap.size w w')) (RB : ∀ w : World, Calls Try.prog 61 #[.agg #[.int .u64 (X0 : Int), .int .u64 (Y0 : Int)]] w (fun e w' => e = .returned (.tuple #[.agg #[.int .u64 (L1 : Int), .int .u64 (L2 : Int)], .agg #[.int .u64 (R1 : Int), .int .u64 (R2 : Int)], .bool ok]) ∧ Below w.heap.size w w')) (E1 : ∀ w : World, (Op.equalIn 10000 24 (.agg #[.int .u64 (L1 : Int), .int .u64 (L2 : Int)]) (.agg #[.int .u64 (L1 : Int), .int .u64 (L2 : Int)])).run Try.prog w = .ok true w) (E2 : ∀ w : World, (Op.equalIn 10000 24 (.agg #[.int .u64 (R1 : Int), .int .u64 (R2 : Int)]) (.agg #[.int .u64 (R1 : Int), .int .u64 (R2 : Int)])).run Try.prog w = .ok true w) (w : World) : Calls Try.prog 16 #[.agg #[.int .u64 (X0 : Int), .int .u64 (Y0 : Int)]] w fun e w' => e = .returned (.bool true) ∧ Below w.heap.size w w' := by
  have hst := sto
  have OL := fun w => out_any L1 L2 w
  have OR := fun w => out_any R1 R2 w
  have hm1 : Try.prog.eqGuardType Try.prog.depth 24 = false := by kernel_rfl
  go_enter Try.func16, Try.ntmps16
  go_upto_region 1 with fail
  have k00 : (w.alloc (.cells #[.int .u64 (X0 : Int), .int .u64 (Y0 : Int)] 24)).cell? ⟨w.heap.size, 0, none⟩ = some (.int .u64 (X0 : Int)) := by simp [go_sem]
  have k01 : (w.alloc (.cells #[.int .u64 (X0 : Int), .int .u64 (Y0 : Int)] 24)).cell? ⟨w.heap.size, 1, none⟩ = some (.int .u64 (Y0 : Int)) := by simp [go_sem]
  have z0 : w.heap.size < (w.alloc (.cells #[.int .u64 (X0 : Int), .int .u64 (Y0 : Int)] 24)).heap.size := by simp
  have g : Below w.heap.size w (w.alloc (.cells #[.int .u64 (X0 : Int), .int .u64 (Y0 : Int)] 24)) := b_one
  generalize hW : (w.alloc (.cells #[.int .u64 (X0 : Int), .int .u64 (Y0 : Int)] 24)) = W0 at *
  clear hW
  go_cut [3, 4, 5] (fun v3 v4 v5 wx => ∃ B1 B2 : Nat, v3 = .pointer (some ⟨B1, 0, none⟩) ∧ v4 = .pointer (some ⟨B2, 0, none⟩) ∧ v5 = .bool ok ∧ Below w.heap.size w wx ∧ wx.cell? ⟨w.heap.size, 0, none⟩ = some (.int .u64 (X0 : Int)) ∧ wx.cell? ⟨w.heap.size, 1, none⟩ = some (.int .u64 (Y0 : Int)) ∧ w.heap.size < wx.heap.size ∧ wx.cell? ⟨B1, 0, none⟩ = some (.float .f64 L1) ∧ wx.cell? ⟨B1, 1, none⟩ = some (.float .f64 L2) ∧ B1 < wx.heap.size ∧ wx.cell? ⟨B2, 0, none⟩ = some (.float .f64 R1) ∧ wx.cell? ⟨B2, 1, none⟩ = some (.float .f64 R2) ∧ B2 < wx.heap.size)
  case first =>
    as_aux_lemma =>
    go_wp2_with (first | (go_at_call 21; first | ((with_reducible refine (NX _).mono ?_); rintro e w' ⟨rfl, hb1⟩; have k00 := keep_cell hb1 z0 k00; have k01 := keep_cell hb1 z0 k01; have z0 := Nat.lt_of_lt_of_le z0 hb1.size; have g := (by first | exact bch g hb1 | exact bch g.drew hb1); clear hb1)) | (go_at_call 60; first | ((with_reducible refine (BI _).mono ?_); rintro e w' ⟨rfl, hb1⟩; have k00 := keep_cell hb1 z0 k00; have k01 := keep_cell hb1 z0 k01; have z0 := Nat.lt_of_lt_of_le z0 hb1.size; have g := (by first | exact bch g hb1 | exact bch g.drew hb1); clear hb1)))
    go_meet
    refine ⟨_, _, rfl, rfl, rfl, ?_⟩
    (repeat' apply And.intro) <;> first | assumption | exact keep_cell (b_one.alloc (by simp) _) (by dsimp only <;> omega) (by assumption) | exact keep_cell b_one (by dsimp only <;> omega) (by assumption) | (simp [go_sem]; done) | (simp; omega) | exact (g.alloc (by have := g.size; omega) _).alloc (by have := g.size; simp; omega) _ | exact g.alloc (by have := g.size; omega) _
  case rest =>
  as_aux_lemma =>
  clear g k00 k01 z0 NX BI
  obtain ⟨B1, B2, rfl, rfl, rfl, g, k00, k01, z0, k10, k11, z1, k20, k21, z2⟩ := hcut
  go_upto_region 2 with fail
  go_cut [6, 7, 8] (fun v3 v4 v5 wx => ∃ B3 B4 : Nat, v3 = .pointer (some ⟨B3, 0, none⟩) ∧ v4 = .pointer (some ⟨B4, 0, none⟩) ∧ v5 = .bool ok ∧ Below w.heap.size w wx ∧ wx.cell? ⟨w.heap.size, 0, none⟩ = some (.int .u64 (X0 : Int)) ∧ wx.cell? ⟨w.heap.size, 1, none⟩ = some (.int .u64 (Y0 : Int)) ∧ w.heap.size < wx.heap.size ∧ wx.cell? ⟨B1, 0, none⟩ = some (.float .f64 L1) ∧ wx.cell? ⟨B1, 1, none⟩ = some (.float .f64 L2) ∧ B1 < wx.heap.size ∧ wx.cell? ⟨B2, 0, none⟩ = some (.float .f64 R1) ∧ wx.cell? ⟨B2, 1, none⟩ = some (.float .f64 R2) ∧ B2 < wx.heap.size ∧ wx.cell? ⟨B3, 0, none⟩ = some (.int .u64 (L1 : Int)) ∧ wx.cell? ⟨B3, 1, none⟩ = some (.int .u64 (L2 : Int)) ∧ B3 < wx.heap.size ∧ wx.cell? ⟨B4, 0, none⟩ = some (.int .u64 (R1 : Int)) ∧ wx.cell? ⟨B4, 1, none⟩ = some (.int .u64 (R2 : Int)) ∧ B4 < wx.heap.size)
  case first =>
    as_aux_lemma =>
    go_wp2_with (first | (go_at_call 61; first | ((with_reducible refine (RB _).mono ?_); rintro e w' ⟨rfl, hb1⟩; have k00 := keep_cell hb1 z0 k00; have k01 := keep_cell hb1 z0 k01; have k10 := keep_cell hb1 z1 k10; have k11 := keep_cell hb1 z1 k11; have k20 := keep_cell hb1 z2 k20; have k21 := keep_cell hb1 z2 k21; have z0 := Nat.lt_of_lt_of_le z0 hb1.size; have z1 := Nat.lt_of_lt_of_le z1 hb1.size; have z2 := Nat.lt_of_lt_of_le z2 hb1.size; have g := (by first | exact bch g hb1 | exact bch g.drew hb1); clear hb1)))
    go_meet
    refine ⟨_, _, rfl, rfl, rfl, ?_⟩
    (repeat' apply And.intro) <;> first | assumption | exact keep_cell (b_one.alloc (by simp) _) (by dsimp only <;> omega) (by assumption) | exact keep_cell b_one (by dsimp only <;> omega) (by assumption) | (simp [go_sem]; done) | (simp; omega) | exact (g.alloc (by have := g.size; omega) _).alloc (by have := g.size; simp; omega) _ | exact g.alloc (by have := g.size; omega) _
  case rest =>
  as_aux_lemma =>
  clear g k00 k01 z0 k10 k11 z1 k20 k21 z2 RB
  obtain ⟨B3, B4, rfl, rfl, rfl, g, k00, k01, z0, k10, k11, z1, k20, k21, z2, k30, k31, z3, k40, k41, z4⟩ := hcut
  go_upto_region 3 with fail
  go_region_held3 (fun wx => Below w.heap.size w wx ∧ wx.cell? ⟨w.heap.size, 0, none⟩ = some (.int .u64 (X0 : Int)) ∧ wx.cell? ⟨w.heap.size, 1, none⟩ = some (.int .u64 (Y0 : Int)) ∧ w.heap.size < wx.heap.size ∧ wx.cell? ⟨B1, 0, none⟩ = some (.float .f64 L1) ∧ wx.cell? ⟨B1, 1, none⟩ = some (.float .f64 L2) ∧ B1 < wx.heap.size ∧ wx.cell? ⟨B2, 0, none⟩ = some (.float .f64 R1) ∧ wx.cell? ⟨B2, 1, none⟩ = some (.float .f64 R2) ∧ B2 < wx.heap.size ∧ wx.cell? ⟨B3, 0, none⟩ = some (.int .u64 (L1 : Int)) ∧ wx.cell? ⟨B3, 1, none⟩ = some (.int .u64 (L2 : Int)) ∧ B3 < wx.heap.size ∧ wx.cell? ⟨B4, 0, none⟩ = some (.int .u64 (R1 : Int)) ∧ wx.cell? ⟨B4, 1, none⟩ = some (.int .u64 (R2 : Int)) ∧ B4 < wx.heap.size)
      (((try dsimp only); (repeat' apply And.intro) <;> first | assumption | (simp [*]; done) | exact Below.drew (by assumption) | exact keep_cell hb1 (by first | (dsimp only; omega) | (simp; omega)) (by simp [*]) | (have := hb1.size; omega) | (have := hb1.size; simp at this; omega) | exact bch (by simp [*]) hb1 | exact bch (Below.drew (by simp [*])) hb1))
      (first | (go_at_call 19; first | ((with_reducible refine (OL _).mono ?_); rintro e w' ⟨rfl, hb1⟩) | ((with_reducible refine (OR _).mono ?_); rintro e w' ⟨rfl, hb1⟩)))
  all_goals
    go_wp2_with fail
    go_ret
    exact ⟨rfl, by simp [*]⟩

theorem walk (a0 a1 : Int) (w0 : (Lit.int .u64 a0).wf = true) (w1 : (Lit.int .u64 a1).wf = true) (w : World) :
    Calls Try.prog 16 #[.agg #[.int .u64 a0, .int .u64 a1]] w fun e w' => e = .returned (.bool true) ∧ Below w.heap.size w w' := by
  have b0 := u64_bd w0
  have b1 := u64_bd w1
  obtain ⟨X0, rfl⟩ := Int.eq_ofNat_of_zero_le b0.1
  obtain ⟨Y0, rfl⟩ := Int.eq_ofNat_of_zero_le b1.1
  obtain ⟨p, q, h⟩ := Vg.Rd.ex X0 Y0 (by omega) (by omega)
  have NX := fun w => in_any (X0 : Int) (Y0 : Int) w
  rw [Int.toNat_natCast, Int.toNat_natCast] at NX
  by_cases hc : p + 1 < q
  · exact walk_all X0 Y0 (Vg.atn true p) (Vg.atn true (cutp p q)) (Vg.atn true (cutp p q)) (Vg.atn true q) true NX (fun w => bisect_at X0 Y0 p q h hc w) (fun w => bis9_yes X0 Y0 p q h hc w) (relKinds.eqU true (by simp)) (relKinds.eqU true (by simp)) w
  · exact walk_all X0 Y0 0 0 0 0 false NX (fun w => bisect_no X0 Y0 p q h (by omega) w) (fun w => bis9_no X0 Y0 p q h (by omega) w) (relKinds.eqU true (by simp)) (relKinds.eqU true (by simp)) w

end Go.Proofs.Ytljnadoodbninaa.relHalves

/- Bisect of the program tells what the document says: the two parts, cut at the rounded middle (or at the middle place), and whether there are two: of every interval, of whatever patterns its ends are. -/
namespace Go.Proofs.Ytljnadoodbninaa.relHalves
open Go.ChangeShapes Go.WideShapes Go.ChangeAt Go.RowKit Go.Joins
set_option linter.unusedVariables false
theorem cells24 : Try.prog.cellsOf 24 = 2 := by kernel_rfl

set_option maxRecDepth 100000 in
theorem lifted (os : Os) (started : os.Started) (H : Type) (enc : TypeId × Value → H) :
    ReturnsInHanded {} Try.checked os 16 .any (Rows.relHalvesSpec.pre6 enc Try.prog Try.f16 Rows.relHalvesRow.domain false) (Rows.relHalvesSpec.post enc Try.prog Try.f16 false true false false) := by
  refine returnsInHanded_of_change (C := Try.checked) own started (by kernel_rfl) Try.func16
    (ChangeSpec.witness6 (enc := enc) (C := Try.checked) false ⟨#[], #[.agg #[.int .u64 0, .int .u64 0]], []⟩ 8 (by kernel_rfl) (by kernel_rfl) (by kernel_rfl) (by kernel_rfl)) ?_
  intro W base args ds gs before hval0 hW hcnd _
  have hval : ∀ (j : Nat) t v, Try.f16.params[j]? = some t → args[j]? = some v → Value.okWide Try.prog W .any base t v := hval0
  have hW' := hW
  obtain ⟨p, q, hA0, hV, rfl, hfz, hnd⟩ := hW
  have hA : DataW.TrodAll enc Try.prog W 0 (fun _ => true) true Try.f16.params.toList args.toList ds p := hA0
  rw [Try.params16] at hA hval
  obtain ⟨v0, vs0, d0, ds0, p0, q0, hargs, rfl, rfl, h0, r0⟩ := trodAll_cons hA
  obtain ⟨rfl, rfl, rfl⟩ := trodAll_nil r0
  obtain rfl : args = #[v0] := by cases args; simp_all
  obtain ⟨rfl, rfl⟩ := trodVars_none hV
  obtain ⟨c00, c01, y00, y01, m0, rfl, rfl, rfl, hy00, hy01⟩ := open_agg2 Try.underlying24 (by kernel_rfl) cells24 (hval 0 24 v0 rfl rfl) h0
  obtain ⟨a00, e00, rfl, w00⟩ := DataW.trod_int Try.underlying22 hy00
  obtain ⟨a01, e01, rfl, w01⟩ := DataW.trod_int Try.underlying22 hy01
  simp at e00 e01
  subst e00 e01
  clear hA0 hval0
  simp only [List.append_nil] at hW'
  refine (walk a00 a01 w00 w01 W).mono fun e W' ⟨he, hg⟩ => ?_
  subst he
  exact ⟨_, rfl, post_of_below (pa := []) (pv := []) hW' (fun _ _ _ => (trodAll_cons_mk (shut_bool Try.underlying4 _) trodAll_mk0)) (fun sp _ => (trodAll_cons_mk (shut_agg2 (y0 := (.lit (.int .u64 a00), [])) (y1 := (.lit (.int .u64 a01), [])) Try.underlying24 (by kernel_rfl) cells24 ⟨1, by simp [DataW.trod, Try.underlying22, w00]⟩ ⟨1, by simp [DataW.trod, Try.underlying22, w01]⟩) trodAll_mk0)) (fun _ _ => rfl) rfl hg
    (ok_one (by kernel_rfl) rfl (okWide_bool_mk Try.underlying4 _))⟩

theorem proved : Rows.RelHalvesSaid :=
  OpenClaim.holds_of_wide 16 Try.f16 rfl rfl rfl rfl rfl rfl rfl ⟨rfl, rfl, rfl, rfl, rfl⟩ rfl rfl rfl rfl rfl (by kernel_rfl) Try.func16 (by kernel_rfl)
    (of_decide_eq_true (by kernel_rfl)) (by unfold Func.isWrapper; first | (rw [if_pos (by decide +kernel)]; kernel_rfl) | (rw [if_neg (by decide +kernel)]; exact ⟨rfl, rfl⟩))
    (fun os started H enc _ => lifted os started H enc)
end Go.Proofs.Ytljnadoodbninaa.relHalves
