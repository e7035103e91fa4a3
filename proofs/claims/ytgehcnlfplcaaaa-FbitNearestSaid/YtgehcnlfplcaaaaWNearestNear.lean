/- The contract of 'nearest' at one of the four types. -/
import Derived.Test.YtgehcnlfplcaaaaWNearest
namespace Go.Proofs.Ytgehcnlfplcaaaa
open Go.RowKit

set_option maxRecDepth 20000 in
set_option maxHeartbeats 8000000 in
theorem nearestNear (n m : Int) (h1 : -9223372036854775808 ≤ n) (h2 : n ≤ 9223372036854775807) (k1 : -9223372036854775808 ≤ m) (k2 : m ≤ 9223372036854775807) (w : World) :
    Calls Try.prog 88 #[.int .i64 n, .int .i64 m] w fun e w' => e = .returned (.bool true) ∧ Below w.heap.size w w' := by
  have K := hide (show -9223372036854775808 ≤ m ∧ m ≤ 9223372036854775807 from ⟨k1, k2⟩)
  have H := hide (show -9223372036854775808 ≤ n ∧ n ≤ 9223372036854775807 from ⟨h1, h2⟩)
  clear k1 k2 h1 h2
  go_enter Try.func88, Try.ntmps88
  go_wp2_with fail
  refine (offlNear n H.out.1 H.out.2 _).mono ?_; rintro e w1 ⟨z, o, rfl, hz, hb1⟩
  go_wp2_with fail
  refine (offlNear m K.out.1 K.out.2 _).mono ?_; rintro e w2 ⟨y, u, rfl, hy, hb2⟩
  have G2 := bch hb1 hb2
  clear hb1 hb2
  have T := n132 H.out.1 H.out.2 K.out.1 K.out.2 hz hy
  have ZB := hide (iof_pl32 H.out.1 H.out.2 hz).1
  have HZ := hide hz
  clear hz hy
  rcases T with ⟨t1, t2, t3⟩ | ⟨t1, t2, t3⟩ | ⟨t1, t2⟩
  all_goals
    go_wp2_with fail
    refine (wholeNear z.toNat ZB.out _).mono ?_; rintro e w3 ⟨d, t, rfl, hd, hb3⟩
    have G3 := bch G2 hb3
    have C := n332 H.out.1 H.out.2 HZ.out hd
    have HD := hide hd
    clear G2 hb3 hd
    have N : n = 0 ∨ n = -9223372036854775808 ∨ n ≠ 0 ∧ -9223372036854775807 ≤ n := by have := H.out; omega
    rcases N with rfl | hn | ⟨x1, x2⟩
    · obtain rfl := of_exact32 (.inr HZ.out)
      obtain ⟨rfl, rfl⟩ : t = true ∧ d = 0 := by rcases C with ⟨-, h, k⟩ | ⟨h, -⟩ | ⟨h, -⟩ | ⟨h, -⟩ <;> first | exact ⟨h, k⟩ | cases h
      clear C
      go_wp2
      go_ret
      exact ⟨rfl, G3⟩
    · obtain rfl := of_exact32 (.inl (by rw [← hn]; exact HZ.out))
      obtain ⟨rfl, rfl⟩ : t = true ∧ d = n := by rcases C with ⟨-, h, k⟩ | ⟨h, -⟩ | ⟨h, -⟩ | ⟨h, -⟩ <;> first | exact ⟨h, k⟩ | cases h
      have e1 : wrap64 (-d) = d := by unfold wrap64; omega
      clear C hn
      go_wp2
      go_ret
      exact ⟨rfl, G3⟩
    · have x3 : n ≤ 9223372036854775807 := H.out.2
      have q1 : (n == -n) = false := by rw [beq_eq_false_iff_ne]; omega
      have q2 : (n != -n) = true := by rw [bne_iff_ne]; omega
      have X := hide x1
      clear x1
      rcases C with ⟨rfl, rfl, rfl⟩ | ⟨rfl, rfl⟩ | ⟨rfl, rfl, c⟩ | ⟨rfl, rfl, c⟩
      · go_wp2_with fail
        refine (offlNear _ (by omega) (by omega) _).mono ?_; rintro e w4 ⟨v, p, rfl, hv, hb4⟩
        have f1 := n232 (by omega) x3 X.out HZ.out hv
        have f2 := run_neg_float .f32 z.toNat _ (Vg.neg_fl32 _ ZB.out)
        have G4 := bch G3 hb4
        clear hv hb4 G3
        go_wp2
        go_ret
        exact ⟨rfl, G4⟩
      · go_wp2_with fail
        refine (offlNear _ (by omega) (by omega) _).mono ?_; rintro e w4 ⟨v, p, rfl, hv, hb4⟩
        have f1 := n232 (by omega) x3 X.out HZ.out hv
        have f2 := run_neg_float .f32 z.toNat _ (Vg.neg_fl32 _ ZB.out)
        have G4 := bch G3 hb4
        clear hv hb4 G3
        go_wp2
        go_ret
        exact ⟨rfl, G4⟩
      · go_wp2_with fail
        refine (offlNear _ (by omega) (by omega) _).mono ?_; rintro e w4 ⟨v, p, rfl, hv, hb4⟩
        have f1 := n232 (by omega) x3 X.out HZ.out hv
        have f2 := run_neg_float .f32 z.toNat _ (Vg.neg_fl32 _ ZB.out)
        have G4 := bch G3 hb4
        clear hv hb4 G3
        go_wp2_with fail
        refine (nextupNear z.toNat ZB.out _).mono ?_; rintro e w5 ⟨p1, rfl, hp1, hb5⟩
        have U1 := hide (nf_up32 H.out.1 H.out.2 HZ.out (.inl hp1))
        go_wp2_with fail
        refine (wholeNear p1 U1.out _).mono ?_; rintro e w6 ⟨a, r, rfl, ha, hb6⟩
        go_wp2_with fail
        refine (nextdownNear z.toNat ZB.out _).mono ?_; rintro e w7 ⟨p2, rfl, hp2, hb7⟩
        have U2 := hide (nf_up32 H.out.1 H.out.2 HZ.out (.inr hp2))
        go_wp2_with fail
        refine (wholeNear p2 U2.out _).mono ?_; rintro e w8 ⟨b, s, rfl, hb, hb8⟩
        have V := n432 H.out.1 H.out.2 HZ.out HD.out hp1 ha c
        have G8 := bch (bch (bch (bch G4 hb5) hb6) hb7) hb8
        have c2 : ¬ n < d := by omega
        clear hp1 ha hp2 hb hb5 hb6 hb7 hb8 G4
        rcases V with rfl | ⟨rfl, v1, v2⟩
        all_goals
          cases s
          all_goals
            go_wp2
            go_ret
            exact ⟨rfl, G8⟩
      · go_wp2_with fail
        refine (offlNear _ (by omega) (by omega) _).mono ?_; rintro e w4 ⟨v, p, rfl, hv, hb4⟩
        have f1 := n232 (by omega) x3 X.out HZ.out hv
        have f2 := run_neg_float .f32 z.toNat _ (Vg.neg_fl32 _ ZB.out)
        have G4 := bch G3 hb4
        clear hv hb4 G3
        go_wp2_with fail
        refine (nextupNear z.toNat ZB.out _).mono ?_; rintro e w5 ⟨p1, rfl, hp1, hb5⟩
        have U1 := hide (nf_up32 H.out.1 H.out.2 HZ.out (.inl hp1))
        go_wp2_with fail
        refine (wholeNear p1 U1.out _).mono ?_; rintro e w6 ⟨a, r, rfl, ha, hb6⟩
        go_wp2_with fail
        refine (nextdownNear z.toNat ZB.out _).mono ?_; rintro e w7 ⟨p2, rfl, hp2, hb7⟩
        have U2 := hide (nf_up32 H.out.1 H.out.2 HZ.out (.inr hp2))
        go_wp2_with fail
        refine (wholeNear p2 U2.out _).mono ?_; rintro e w8 ⟨b, s, rfl, hb, hb8⟩
        have V := n532 H.out.1 H.out.2 HZ.out HD.out hp2 hb c
        have G8 := bch (bch (bch (bch G4 hb5) hb6) hb7) hb8
        have c2 : ¬ d < n := by omega
        clear hp1 ha hp2 hb hb5 hb6 hb7 hb8 G4
        rcases V with rfl | ⟨rfl, v1, v2⟩
        all_goals
          cases r
          all_goals
            go_wp2
            go_ret
            exact ⟨rfl, G8⟩

end Go.Proofs.Ytgehcnlfplcaaaa
