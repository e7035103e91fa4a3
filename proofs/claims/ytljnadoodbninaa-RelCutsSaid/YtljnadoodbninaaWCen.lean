/- The contract of the program's Bisect, by the place at which it cuts. -/
import Derived.Test.YtljnadoodbninaaWBis
import Derived.Test.YtljnadoodbninaaMSum
namespace Go.Proofs.Ytljnadoodbninaa
open Go.RowKit
theorem sums_of {p q c : Int} (h : Vg.Cen p q c) : Sums p q := by
  obtain ⟨s, s1, s2, ⟨s3, d, d1, d2, -⟩ | ⟨s3, x, y, x1, y1, m1⟩⟩ := h
  · exact ⟨s, s1, s2, .inl ⟨s3, d, d1, d2⟩⟩
  · exact ⟨s, s1, s2, .inr ⟨s3, x, y, _, x1, y1, m1⟩⟩
theorem mid_of {p q c : Int} {m : Nat} (h : Vg.Cen p q c) (h1 : -Vg.PI < p) (h2 : q < Vg.PI) (hm : MidR p q m) : m = Vg.atn true c := by
  rcases hm with ⟨hm, -⟩ | ⟨hm, -⟩ | ⟨-, hm, -⟩ | ⟨-, t, ht, hm⟩
  · omega
  · omega
  · omega
  obtain ⟨s, s1, s2, hs⟩ := h
  obtain rfl := Option.some.inj (ht.symm.trans s2)
  rcases hs with ⟨s3, d, d1, d2, d3⟩ | ⟨s3, x, y, x1, y1, m1⟩
  · rcases hm with ⟨-, e, e1, rfl⟩ | ⟨hm, -⟩
    · obtain rfl := Option.some.inj (e1.symm.trans d2)
      exact d3
    · rw [s3] at hm; exact absurd hm (by decide)
  · rcases hm with ⟨hm, -⟩ | ⟨-, u, v, u1, v1, k1⟩
    · rw [s3] at hm; exact absurd hm (by decide)
    · obtain rfl := Option.some.inj (u1.symm.trans x1)
      obtain rfl := Option.some.inj (v1.symm.trans y1)
      exact Option.some.inj (k1.symm.trans m1)
/-- The place at which it cuts. -/
theorem cut_ex {p q : Int} (hI : Vg.Iv p q) (hc : p + 1 < q) : (-Vg.PI < p → q < Vg.PI → Sums p q) ∧ ∃ c, (p < c ∧ c < q) ∧ ∀ n, CutR p q n → n = Vg.atn true c := by
  have i1 := hI.lo
  have i2 := hI.hi
  unfold Vg.Pl at i1 i2
  by_cases h : -Vg.PI < p ∧ q < Vg.PI
  · obtain ⟨c, h1, h2, h3⟩ := Vg.cen p q h.1 h.2 hc
    refine ⟨fun _ _ => sums_of h1, c, ⟨h2, h3⟩, fun n hn => ?_⟩
    rcases hn with ⟨-, hn⟩ | ⟨hn, -⟩
    · exact mid_of h1 h.1 h.2 hn
    · omega
  · refine ⟨fun a b => absurd ⟨a, b⟩ h, p / 2 + q / 2, ?_, fun n hn => ?_⟩
    · rw [Vg.PI_eq] at *
      omega
    · rcases hn with ⟨hn, -⟩ | ⟨-, hn⟩
      · exact absurd hn h
      · exact hn
theorem bisect_yes (a b : Nat) (p q : Int) (hx : Vg.Rd a b p q) (hc : p + 1 < q) : ∃ c, (p < c ∧ c < q) ∧ ∀ w, Calls Try.prog 60 #[.agg #[.float .f64 a, .float .f64 b]] w fun e w' =>
    e = .returned (.tuple #[.agg #[.float .f64 (Vg.atn true p), .float .f64 (Vg.atn true c)], .agg #[.float .f64 (Vg.atn true c), .float .f64 (Vg.atn true q)], .bool true]) ∧ Below w.heap.size w w' := by
  obtain ⟨hS, c, hb, hC⟩ := cut_ex hx.iv hc
  refine ⟨c, hb, fun w => (bis_yes a b p q hx hc hS w).mono ?_⟩
  rintro e w' ⟨a, b, c, d, ok, rfl, h, g⟩
  rcases h with ⟨h, -⟩ | ⟨-, rfl, rfl, rfl, h, rfl⟩
  · omega
  · rw [hC _ h]; exact ⟨rfl, g⟩
theorem bisect_no (a b : Nat) (p q : Int) (hx : Vg.Rd a b p q) (hc : q ≤ p + 1) (w : World) : Calls Try.prog 60 #[.agg #[.float .f64 a, .float .f64 b]] w fun e w' =>
    e = .returned (.tuple #[.agg #[.float .f64 0, .float .f64 0], .agg #[.float .f64 0, .float .f64 0], .bool false]) ∧ Below w.heap.size w w' := by
  refine (bis_no a b p q hx hc w).mono ?_
  rintro e w' ⟨a, b, c, d, ok, rfl, h, g⟩
  rcases h with ⟨-, rfl, rfl, rfl, rfl, rfl⟩ | ⟨h, -⟩
  · exact ⟨rfl, g⟩
  · omega
end Go.Proofs.Ytljnadoodbninaa
