/- Contracts of Member: the program's and the reference's. -/
import Derived.Test.YtljnadoodbninaaWRefRels
import Derived.Test.YtljnadoodbninaaWKinds
namespace Go.Proofs.Ytljnadoodbninaa
open Go.RowKit
/-- Is a pattern's number a member? -/
def mem (v : Nat) (p q : Int) : Prop := Vg.nn true v = false ∧ Vg.infb v = false ∧ p ≤ Vg.pl true v ∧ Vg.pl true v ≤ q
theorem ord_ways {p : Int} (hp : Vg.Pl p) {v : Nat} (hv : v ≤ 18446744073709551615) :
    Vg.nn true v = true ∧ FloatKind.f64.format.order (Vg.atn true p) v = none ∧ FloatKind.f64.format.order v (Vg.atn true p) = none ∨
    Vg.nn true v = false ∧ (FloatKind.f64.format.order (Vg.atn true p) v = some (compare p (Vg.pl true v)) ∧ FloatKind.f64.format.order v (Vg.atn true p) = some (compare (Vg.pl true v) p)) := by
  have e := Vg.order_fm true (Vg.atn true p) v (by have := Vg.atn_le hp; simp only [Vg.S, if_true]; omega) (by simp only [Vg.S, if_true]; omega)
  have e2 := Vg.order_fm true v (Vg.atn true p) (by simp only [Vg.S, if_true]; omega) (by have := Vg.atn_le hp; simp only [Vg.S, if_true]; omega)
  rw [Vg.nn_atn hp, Vg.pl_atn hp] at e e2
  change FloatKind.f64.format.order (Vg.atn true p) v = _ at e
  change FloatKind.f64.format.order v (Vg.atn true p) = _ at e2
  rw [e, e2]
  cases Vg.nn true v
  · right; simp
  · left; simp
theorem cmp_ways (x y : Int) : compare x y = .lt ∧ x < y ∨ compare x y = .eq ∧ x = y ∨ compare x y = .gt ∧ y < x := by
  rcases Int.lt_trichotomy x y with h | h | h
  · left; exact ⟨Int.compare_eq_lt.2 h, h⟩
  · right; left; exact ⟨Int.compare_eq_eq.2 h, h⟩
  · right; right; exact ⟨Int.compare_eq_gt.2 h, h⟩
set_option maxRecDepth 20000 in
set_option maxHeartbeats 4000000 in
theorem member_any (v a b : Nat) (p q : Int) (hv : v ≤ 18446744073709551615) (hx : Vg.Rd a b p q) (w : World) :
    Calls Try.prog 25 #[.float .f64 v, .agg #[.float .f64 a, .float .f64 b]] w (TB (mem v p q) w) := by
  have hst := sto
  have HX := hide hx
  have HV := hide hv
  have P1 := ord_ways hx.iv.lo hv
  have P2 := ord_ways hx.iv.hi hv
  obtain ⟨i1, hi⟩ : ∃ n, Vg.infb v = n := ⟨_, rfl⟩
  obtain ⟨u, hu⟩ : ∃ u, Vg.pl true v = u := ⟨_, rfl⟩
  obtain ⟨nv, hnv⟩ : ∃ n, Vg.nn true v = n := ⟨_, rfl⟩
  have hm : mem v p q ↔ nv = false ∧ i1 = false ∧ p ≤ u ∧ u ≤ q := by unfold mem; rw [hi, hu, hnv]
  rw [hu, hnv] at P1 P2
  have HI := hide hi
  have HM := hide hm
  have PP := hide (show _ ∧ _ from ⟨P1, P2⟩)
  clear hx hv hi hu hnv hm P1 P2
  go_enter Try.func25, Try.ntmps25
  go_wp2_with fail
  refine (read_any a b p q HX.out _).mono ?_; rintro e w1 ⟨rfl, hb1⟩
  have k0 : w1.cell? ⟨w.heap.size, 0, none⟩ = some (.float .f64 a) := keep_cell hb1 (by first | (simp; done) | (simp; omega)) (by simp [go_sem])
  have k1 : w1.cell? ⟨w.heap.size, 1, none⟩ = some (.float .f64 b) := keep_cell hb1 (by first | (simp; done) | (simp; omega)) (by simp [go_sem])
  have f0 : w1.frozen? ⟨w.heap.size, 0, none⟩ = false := keep_free hb1 (by first | (simp; done) | (simp; omega)) (by simp [go_sem])
  have f1 : w1.frozen? ⟨w.heap.size, 1, none⟩ = false := keep_free hb1 (by first | (simp; done) | (simp; omega)) (by simp [go_sem])
  have g : Below w.heap.size w w1 := bch_one hb1
  clear hb1
  cases i1
  · rcases PP.out with ⟨⟨rfl, o1, -⟩ | ⟨rfl, o1, -⟩, ⟨h, -, o2⟩ | ⟨h, -, o2⟩⟩
    · clear h
      go_wp2_with (go_at_call 74; refine (isinf_any v false HI.out HV.out _).mono ?_; rintro e w' ⟨rfl, rfl⟩)
      go_ret
      exact ⟨_, rfl, no (fun h => by have := HM.out.1 h; simp at this), (g.setCell (by simp) _).setCell (by simp) _⟩
    · cases h
    · cases h
    · clear h
      by_cases cm : p ≤ u ∧ u ≤ q
      · have T := hide (HM.out.2 ⟨rfl, rfl, cm⟩)
        rcases cmp_ways p u with ⟨c1, d1⟩ | ⟨c1, d1⟩ | ⟨c1, d1⟩ <;> rcases cmp_ways u q with ⟨c2, d2⟩ | ⟨c2, d2⟩ | ⟨c2, d2⟩ <;> first | (exfalso; omega) | skip
        all_goals
          rw [c1] at o1
          rw [c2] at o2
          clear d1 d2 c1 c2 cm HM
          go_wp2_with (go_at_call 74; refine (isinf_any v false HI.out HV.out _).mono ?_; rintro e w' ⟨rfl, rfl⟩)
          go_ret
          exact ⟨_, rfl, yes T.out, (g.setCell (by simp) _).setCell (by simp) _⟩
      · have T := hide (show ¬ mem v p q from fun h => cm (HM.out.1 h).2.2)
        rcases cmp_ways p u with ⟨c1, d1⟩ | ⟨c1, d1⟩ | ⟨c1, d1⟩ <;> rcases cmp_ways u q with ⟨c2, d2⟩ | ⟨c2, d2⟩ | ⟨c2, d2⟩ <;> first | (exfalso; omega) | skip
        all_goals
          rw [c1] at o1
          rw [c2] at o2
          clear d1 d2 c1 c2 cm HM
          go_wp2_with (go_at_call 74; refine (isinf_any v false HI.out HV.out _).mono ?_; rintro e w' ⟨rfl, rfl⟩)
          go_ret
          exact ⟨_, rfl, no T.out, (g.setCell (by simp) _).setCell (by simp) _⟩
  · go_wp2_with (go_at_call 74; refine (isinf_any v true HI.out HV.out _).mono ?_; rintro e w' ⟨rfl, rfl⟩)
    go_ret
    exact ⟨_, rfl, no (fun h => by have := HM.out.1 h; simp at this), (g.setCell (by simp) _).setCell (by simp) _⟩
theorem infb_pl {v : Nat} (_hn : Vg.nn true v = false) : Vg.infb v = decide (Vg.pl true v = Vg.PI ∨ Vg.pl true v = -Vg.PI) := by
  unfold Vg.infb
  rw [decide_eq_decide, Vg.PI_eq]
  simp only [Vg.pl]
  split <;> omega
set_option maxRecDepth 20000 in
set_option maxHeartbeats 4000000 in
theorem rmember_any (v a b : Nat) (p q : Int) (hv : v ≤ 18446744073709551615) (hx : Vg.Rd a b p q) (w : World) :
    Calls Try.prog 27 #[.int .u64 v, .agg #[.int .u64 a, .int .u64 b]] w (TB (mem v p q) w) := by
  have HX := hide hx
  have N1 := fun w => rnan_any v hv _ rfl w
  have N2 := fun w => rinf_any v hv _ rfl w
  obtain ⟨i1, hi⟩ : ∃ n, Vg.infb v = n := ⟨_, rfl⟩
  obtain ⟨u, hu⟩ : ∃ u, Vg.pl true v = u := ⟨_, rfl⟩
  obtain ⟨nv, hnv⟩ : ∃ n, Vg.nn true v = n := ⟨_, rfl⟩
  have hm : mem v p q ↔ nv = false ∧ i1 = false ∧ p ≤ u ∧ u ≤ q := by unfold mem; rw [hi, hu, hnv]
  have HM := hide hm
  rw [hnv] at N1
  rw [hi] at N2
  cases nv
  · cases i1
    · have N3 := fun w => rplain_any v hv hnv w
      rw [Vg.plain_atn hv hnv, hu] at N3
      have pu := Vg.pl_pl hnv
      have fi := infb_pl hnv
      rw [hu] at pu fi
      rw [hi] at fi
      replace fi := of_decide_eq_false fi.symm
      have R := hide (show Vg.Rd (Vg.atn true u) (Vg.atn true u) u u from Vg.Rd.self (.inr (by unfold Vg.Pl at pu; omega)))
      obtain ⟨XU, hXU⟩ : ∃ n, Vg.atn true u = n := ⟨_, rfl⟩
      rw [hXU] at N3 R
      clear hm hnv hi hu hv hx pu fi hXU
      go_enter Try.func27, Try.ntmps27
      go_wp2_with (first | (go_at_call 75; refine (N1 _).mono ?_; rintro e w' ⟨rfl, rfl⟩) | (go_at_call 30; refine (N2 _).mono ?_; rintro e w' ⟨rfl, rfl⟩) | (go_at_call 76; refine (N3 _).mono ?_; rintro e w' ⟨rfl, rfl⟩))
      refine (rsubset_any _ _ a b u u p q R.out HX.out _).mono ?_; rintro e w' ⟨n, rfl, hn, hb⟩
      have HN := hide hn
      have g := bch_one hb
      clear hb hn
      go_wp2_with fail
      go_ret
      refine ⟨_, rfl, HN.out.trans ?_, g⟩
      have := HM.out
      simp at this
      rw [this]
      omega
    · clear hm hnv hi hu hv hx
      go_enter Try.func27, Try.ntmps27
      go_wp2_with (first | (go_at_call 75; refine (N1 _).mono ?_; rintro e w' ⟨rfl, rfl⟩) | (go_at_call 30; refine (N2 _).mono ?_; rintro e w' ⟨rfl, rfl⟩))
      go_ret
      exact ⟨_, rfl, no (fun h => by have := HM.out.1 h; simp at this), b_one⟩
  · clear hm hnv hi hu hv hx N2
    go_enter Try.func27, Try.ntmps27
    go_wp2_with (go_at_call 75; refine (N1 _).mono ?_; rintro e w' ⟨rfl, rfl⟩)
    go_ret
    exact ⟨_, rfl, no (fun h => by have := HM.out.1 h; simp at this), b_one⟩
end Go.Proofs.Ytljnadoodbninaa
