/- Every GetBox is the document's, and leaves its bytes as they were. The walk. -/
import Derived.Test.YtaecbapflpejmaaWPkBoxR
import Derived.Test.YtaecbapflpejmaaWPkSameBox
namespace Go.Proofs.Ytaecbapflpejmaa.packOpens
open Go.RowKit

set_option maxRecDepth 20000 in
set_option maxHeartbeats 8000000 in
theorem walk (v0 : Value) (xs : List Nat) (w : World) (R0 : Rb w v0 xs) (b0 : ∀ b ∈ xs, b < 256) (l0 : xs.length ≤ 140737488351232) :
    Calls Try.prog 5 #[v0] w fun e w' => e = .returned (.bool true) ∧ Below w.heap.size w w' := by
  have HR := hide R0
  have HB := hide b0
  have HL := hide l0
  have C1 := fun w' (h : Rb w' v0 xs) => rgetBox_any v0 xs w' h b0 (by omega)
  have C2 := fun w' (h : Rb w' v0 xs) => marked_any v0 xs w' h l0
  have C3 := fun v w' (h : Rb w' v xs) => getBox_any v xs w' h b0 (by omega)
  have C4 := fun v1 v2 w' (h1 : RP encF w' v1 (bRd xs)) (h2 : RP encU w' v2 (bRd xs)) => sameBox_any v1 v2 (bRd xs) w' h1 h2 (by have := bRd_le xs; omega)
  have C5 := fun g c w' (h1 : Rb w' v0 xs) (h2 : Rb w' (.slice (some ⟨g, 0, none⟩) (xs.length + 40) c) (xs ++ marks 40)) => left_any v0 xs g c w' h1 h2 (by omega)
  obtain ⟨k, hk⟩ : ∃ k : Int, (if bOk xs then (0 : Int) else 130) = k := ⟨_, rfl⟩
  unfold TBox at C1 C3
  rw [hk] at C1 C3
  obtain ⟨N, hN⟩ : ∃ n, xs.length = n := ⟨_, rfl⟩
  have HN := hide hN
  unfold TMk at C2
  rw [hN] at C2 C5
  clear R0 b0 l0 hk hN
  go_enter Try.func5, Try.ntmps5
  go_wp2_with fail
  refine (C1 _ HR.out).mono ?_; rintro e w1 ⟨v1, rfl, ho1, hb1⟩
  have P1 := hide (RP.own ho1)
  have g1 := hb1
  clear ho1 hb1 C1
  go_wp2_with fail
  refine (C2 _ (HR.out.keep g1)).mono ?_; rintro e w2 ⟨g, c, rfl, hm2, hb2⟩
  have P1 := hide (P1.out.keep hb2)
  have M2 := hide hm2
  have g2 := bch g1 hb2
  clear hm2 hb2 g1 C2
  go_wp2_with fail
  refine (C3 _ _ (M2.out.head HN.out (by simp [marks]))).mono ?_; rintro e w3 ⟨v3, rfl, ho3, hb3⟩
  have P3 := hide (RP.own ho3)
  have P1 := hide (P1.out.keep hb3)
  have M2 := hide (M2.out.keep hb3)
  have g3 := bch g2 hb3
  clear ho3 hb3 g2 C3
  go_wp2_with fail
  refine (C4 _ _ _ P3.out P1.out).mono ?_; rintro e w4 ⟨rfl, hb4⟩
  have M2 := hide (M2.out.keep hb4)
  have g4 := bch g3 hb4
  clear hb4 g3 C4
  go_wp2_with fail
  refine (C5 _ _ _ (HR.out.keep g4) M2.out).mono ?_; rintro e w5 ⟨rfl, hb5⟩
  go_wp2_with fail
  go_ret
  exact ⟨rfl, bch g4 hb5⟩

end Go.Proofs.Ytaecbapflpejmaa.packOpens
