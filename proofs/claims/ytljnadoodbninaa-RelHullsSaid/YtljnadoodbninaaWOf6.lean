/- Contract of the reference's Of: an interval as a set of reals. -/
import Derived.Test.YtljnadoodbninaaWSet
import Derived.Test.YtljnadoodbninaaKRelKinds
namespace Go.Proofs.Ytljnadoodbninaa
open Go.RowKit
def TOf (p q : Int) (w : World) (e : Ending) (w' : World) : Prop :=
  ∃ n i s A1 n1 c1 A2 n2 c2 j t A3 n3 c3 A4 n4 c4, e = .returned (.agg #[.bool n, .int .i64 i, .bool s, .slice A1 n1 c1, .slice A2 n2 c2, .int .i64 j, .bool t, .slice A3 n3 c3, .slice A4 n4 c4]) ∧
    (q < p ∧ n = true ∨ p ≤ q ∧ n = false ∧ En w' (.agg #[.int .i64 i, .bool s, .slice A1 n1 c1, .slice A2 n2 c2]) (Vg.ei p) (Vg.eZ p) Vg.LP 64 ∧ En w' (.agg #[.int .i64 j, .bool t, .slice A3 n3 c3, .slice A4 n4 c4]) (Vg.ei q) (Vg.eZ q) Vg.LP 64) ∧ Below w.heap.size w w'
theorem finite_any (n : Nat) (hn : n ≤ 4611686018427387904) (w : World) : Calls Try.prog 100 #[.int .i64 n] w (TEn 0 (n : Int) 1 64 w) := by
  have I0 := fun w => int_any n hn w
  clear hn
  go_enter Try.func100, Try.ntmps100
  go_wp2_with fail
  refine (I0 _).mono ?_; rintro e w1 ⟨v, rfl, hv, hb⟩
  have k0 : w1.cell? ⟨w.heap.size, 0, none⟩ = some (.int .i64 0) := keep_cell hb (by simp) (by simp [go_sem])
  have f0 : w1.frozen? ⟨w.heap.size, 0, none⟩ = false := keep_free hb (by simp) (by simp)
  have k1 : w1.cell? ⟨w.heap.size, 1, none⟩ = some (.bool false) := keep_cell hb (by simp) (by simp [go_sem])
  have f1 : w1.frozen? ⟨w.heap.size, 1, none⟩ = false := keep_free hb (by simp) (by simp)
  have k2 : w1.cell? ⟨w.heap.size, 2, none⟩ = some (.slice none 0 0) := keep_cell hb (by simp) (by simp [go_sem])
  have f2 : w1.frozen? ⟨w.heap.size, 2, none⟩ = false := keep_free hb (by simp) (by simp)
  have k3 : w1.cell? ⟨w.heap.size, 3, none⟩ = some (.slice none 0 0) := keep_cell hb (by simp) (by simp [go_sem])
  have f3 : w1.frozen? ⟨w.heap.size, 3, none⟩ = false := keep_free hb (by simp) (by simp)
  have z : w.heap.size < w1.heap.size := by have := hb.size; simp at this; omega
  have g := bch_one hb
  have HV := hide hv
  obtain ⟨s', A1, n1, c1', A2, n2, c2', xs, ys, rfl, -⟩ := hv
  clear hb
  go_wp2
  exact bodyPost_ret (v := .agg #[.int .i64 0, .bool s', .slice A1 n1 c1', .slice A2 n2 c2']) (by simp [results, Try.results100, go_sem, *]) rfl ⟨_, rfl, ⟨_, _, _, _, _, _, _, rfl, (((HV.out.other k0 (by simp) _).other (u := .bool false) (by simp [go_sem, *]) (by simp) _).other (u := .slice none 0 0) (by simp [go_sem, *]) (by simp) _).other (u := .slice none 0 0) (by simp [go_sem, *]) (by simp) _⟩, (((g.setCell (by dsimp only <;> omega) _).setCell (by dsimp only <;> omega) _).setCell (by dsimp only <;> omega) _).setCell (by dsimp only <;> omega) _⟩

set_option maxRecDepth 20000 in
set_option maxHeartbeats 8000000 in
theorem of6_any (a b : Nat) (p q : Int) (h : Vg.Rd a b p q) (w : World) : Calls Try.prog 71 #[.agg #[.int .u64 a, .int .u64 b]] w (TOf p q w) := by
  have R0 := fun w => rread_any a b p q h w
  have hI := h.iv
  have B1 := fun w => bound_any p hI.lo w
  have B2 := fun w => bound_any q hI.hi w
  have E0 := fun w => rempty_any w
  have F0 := fun w => finite_any 0 (by decide) w
  obtain ⟨n, hn⟩ : ∃ n, decide (q < p) = n := ⟨_, rfl⟩
  have HN : Hid (n = true ↔ q < p) := hide (by rw [← hn, decide_eq_true_eq])
  have E1 := relKinds.eqU (a := Vg.atn true p) (b := Vg.atn true q) (c := Vg.atn true Vg.PI) (d := Vg.atn true (-Vg.PI)) n (by
    rw [HN.out]
    constructor
    · intro hh; obtain ⟨rfl, rfl⟩ := hI.empty hh; exact ⟨rfl, rfl⟩
    · rintro ⟨h1, h2⟩
      have h1 := Vg.atn_inj hI.lo Vg.pl_top h1
      have h2 := Vg.atn_inj hI.hi Vg.pl_bot h2
      have := Vg.PI_pos
      omega)
  obtain ⟨X, hX⟩ : ∃ n, Vg.atn true p = n := ⟨_, rfl⟩
  obtain ⟨Y, hY⟩ : ∃ n, Vg.atn true q = n := ⟨_, rfl⟩
  obtain ⟨T0, hT⟩ : ∃ n, Vg.atn true Vg.PI = n := ⟨_, rfl⟩
  obtain ⟨T1, hU⟩ : ∃ n, Vg.atn true (-Vg.PI) = n := ⟨_, rfl⟩
  rw [hX, hY] at R0
  rw [hX] at E1 B1
  rw [hY] at E1 B2
  rw [hT, hU] at E1 E0
  clear hX hY hT hU hI h hn
  go_enter Try.func71, Try.ntmps71
  go_upto_region 1 with fail
  go_cut [3] (fun v wx => ∃ G : Nat, v = .pointer (some ⟨G, 0, none⟩) ∧ Hid (Bx wx (w.heap.size + 1) 9) ∧ wx.cell? ⟨G, 0, none⟩ = some (.int .u64 X) ∧ wx.cell? ⟨G, 1, none⟩ = some (.int .u64 Y) ∧ G < wx.heap.size ∧ w.heap.size + 1 < G ∧ Below w.heap.size w wx)
  case first =>
    go_wp2_with fail
    refine (R0 _).mono ?_; rintro e w1 ⟨rfl, hb⟩
    have NB : Hid (Bx w1 (w.heap.size + 1) 9) := hide ((Bx.new (w.alloc (.cells #[.int .u64 a, .int .u64 b] 24)) #[.bool false, .int .i64 0, .bool false, .slice none 0 0, .slice none 0 0, .int .i64 0, .bool false, .slice none 0 0, .slice none 0 0] 71 (by simp) rfl (by simp)).keep hb (by simp))
    have z : w.heap.size + 1 < w1.heap.size := by have := hb.size; simp at this; omega
    have g : Below w.heap.size w w1 := b_two.trans (hb.mono (by simp <;> omega))
    clear hb
    go_wp2_with fail
    go_meet
    refine ⟨w1.heap.size, rfl, hide (NB.out.keep b_one (by first | omega | (dsimp only; omega))), ?_⟩
    (repeat' apply And.intro) <;> first | (simp [go_sem]; done) | (simp; omega) | exact z | exact (g.alloc g.size _)
  case rest =>
  clear R0
  obtain ⟨G, rfl, NB, m0, m1, z, zz, g⟩ := hcut
  go_upto_region 2 with fail
  go_cut [8] (fun v wx => v = .bool n ∧ Hid (Bx wx (w.heap.size + 1) 9) ∧ wx.cell? ⟨G, 0, none⟩ = some (.int .u64 X) ∧ wx.cell? ⟨G, 1, none⟩ = some (.int .u64 Y) ∧ G < wx.heap.size ∧ w.heap.size + 1 < G ∧ Below w.heap.size w wx)
  case first =>
    go_region_held3 (fun wx => wx.cell? ⟨G, 0, none⟩ = some (.int .u64 X) ∧ wx.cell? ⟨G, 1, none⟩ = some (.int .u64 Y) ∧ G < wx.heap.size ∧ w.heap.size + 1 < G ∧ Below w.heap.size w wx)
      (((try dsimp only); (repeat' apply And.intro) <;> first | assumption | (simp [*]; done) | exact Below.drew (by assumption) | exact keep_cell hb1 (by first | (dsimp only; omega) | (simp; omega)) (by simp [*]) | (have := hb1.size; omega) | (have := hb1.size; simp at this; omega) | exact bch (by simp [*]) hb1 | exact bch (Below.drew (by simp [*])) hb1))
      (first | (go_at_call 32; refine (E0 _).mono ?_; rintro e w' ⟨rfl, hb1⟩; have NB := hide (NB.out.keep hb1 (by first | omega | (dsimp only; omega)))) | fail)
    all_goals
      go_wp2_with fail
      go_meet
      exact ⟨rfl, by first | exact NB | exact hide NB.out.drew, by simp [*]⟩
  case rest =>
  clear E0 E1 NB m0 m1 z zz g
  obtain ⟨rfl, NB, m0, m1, z, zz, g⟩ := hcut
  cases n
  · have HP : Hid (p ≤ q) := hide (by have h := mt HN.out.2 (by decide); omega)
    clear HN F0
    go_upto_region 4 with fail
    refine wp_region_held_drew (S := fun wx => wx.cell? ⟨G, 0, none⟩ = some (.int .u64 X) ∧ wx.cell? ⟨G, 1, none⟩ = some (.int .u64 Y) ∧ G < wx.heap.size ∧ w.heap.size + 1 < G ∧ Below w.heap.size w wx) (by kernel_rfl) ?_ (fun hHeld => ?_)
    · (((try dsimp only); (repeat' apply And.intro) <;> first | assumption | (simp [*]; done) | exact Below.drew (by assumption) | exact keep_cell hb1 (by first | (dsimp only; omega) | (simp; omega)) (by simp [*]) | (have := hb1.size; omega) | (have := hb1.size; simp at this; omega) | exact bch (by simp [*]) hb1 | exact bch (Below.drew (by simp [*])) hb1))
    refine wpAnyH_take (i := 0) (oi := { dst := some 12, op := Op.fieldAddr 24 (Operand.tmp 3) 0, type := _, pos := _, after := _, guard := none }) (v := ?_) rfl (by kernel_rfl) (by kernel_rfl) (by kernel_rfl) (fun _ _ _ h => h) (Or.inl ⟨by rfl, ?_⟩) (by assumption) ?_
    rotate_left
    · intro w hSw; (try dsimp only at hSw); go_simp
      try with_reducible rfl
    try simp only [Act.put, List.setIfInBounds_toArray, List.set_cons_zero, List.set_cons_succ]
    refine wpAnyH_take (i := 1) (oi := { dst := some 13, op := Op.load 22 (Operand.tmp 12), type := _, pos := _, after := _, guard := none }) (v := ?_) rfl (by kernel_rfl) (by kernel_rfl) (by kernel_rfl) (fun _ _ _ h => h) (Or.inl ⟨by rfl, ?_⟩) (by assumption) ?_
    rotate_left
    · intro w hSw; (try dsimp only at hSw); go_simp
      try with_reducible rfl
    try simp only [Act.put, List.setIfInBounds_toArray, List.set_cons_zero, List.set_cons_succ]
    refine wpAnyH_take (i := 3) (oi := { dst := some 15, op := Op.fieldAddr 24 (Operand.tmp 3) 1, type := _, pos := _, after := _, guard := none }) (v := ?_) rfl (by kernel_rfl) (by kernel_rfl) (by kernel_rfl) (fun _ _ _ h => h) (Or.inl ⟨by rfl, ?_⟩) (by assumption) ?_
    rotate_left
    · intro w hSw; (try dsimp only at hSw); go_simp
      try with_reducible rfl
    try simp only [Act.put, List.setIfInBounds_toArray, List.set_cons_zero, List.set_cons_succ]
    refine wpAnyH_take (i := 4) (oi := { dst := some 16, op := Op.load 22 (Operand.tmp 15), type := _, pos := _, after := _, guard := none }) (v := ?_) rfl (by kernel_rfl) (by kernel_rfl) (by kernel_rfl) (fun _ _ _ h => h) (Or.inl ⟨by rfl, ?_⟩) (by assumption) ?_
    rotate_left
    · intro w hSw; (try dsimp only at hSw); go_simp
      try with_reducible rfl
    try simp only [Act.put, List.setIfInBounds_toArray, List.set_cons_zero, List.set_cons_succ]
    refine wpAnyH_ready (rs := [2]) (by kernel_rfl) (by simp) ?_
    refine AllReadyH.cons (o := { dst := some 14, op := Op.call { callee := Callee.value (Operand.func 101), args := #[Operand.tmp 13], argTypes := #[22] }, type := _, pos := _, after := _, guard := none }) rfl (fun K hK => ?_) AllReadyH.nil
    go_simp
    go_at_call 101; refine (B1 _).mono ?_; rintro e w' ⟨v1, rfl, p1, hb1⟩; have NB := hide (NB.out.keep hb1 (by first | omega | (dsimp only; omega))); have P1 := hide p1; obtain ⟨s1, A1, n1, c1, A2, n2, c2, rfl, -⟩ := p1
    go_wp2_with fail
    refine hK.out _ _ ?_ (fun hHeld => ?_)
    · (((try dsimp only); (repeat' apply And.intro) <;> first | assumption | (simp [*]; done) | exact Below.drew (by assumption) | exact keep_cell hb1 (by first | (dsimp only; omega) | (simp; omega)) (by simp [*]) | (have := hb1.size; omega) | (have := hb1.size; simp at this; omega) | exact bch (by simp [*]) hb1 | exact bch (Below.drew (by simp [*])) hb1))
    clear hK K
    try simp only [Act.put, List.setIfInBounds_toArray, List.set_cons_zero, List.set_cons_succ]
    refine wpAnyH_ready (rs := [5]) (by kernel_rfl) (by simp) ?_
    refine AllReadyH.cons (o := { dst := some 17, op := Op.call { callee := Callee.value (Operand.func 101), args := #[Operand.tmp 16], argTypes := #[22] }, type := _, pos := _, after := _, guard := none }) rfl (fun K hK => ?_) AllReadyH.nil
    go_simp
    go_at_call 101; refine (B2 _).mono ?_; rintro e w' ⟨v2, rfl, p2, hb1⟩; have NB := hide (NB.out.keep hb1 (by first | omega | (dsimp only; omega))); have P1 := hide (P1.out.keep hb1); have P2 := hide p2; obtain ⟨s2, A3, n3, c3, A4, n4, c4, rfl, -⟩ := p2
    go_wp2_with fail
    refine hK.out _ _ ?_ (fun hHeld => ?_)
    · (((try dsimp only); (repeat' apply And.intro) <;> first | assumption | (simp [*]; done) | exact Below.drew (by assumption) | exact keep_cell hb1 (by first | (dsimp only; omega) | (simp; omega)) (by simp [*]) | (have := hb1.size; omega) | (have := hb1.size; simp at this; omega) | exact bch (by simp [*]) hb1 | exact bch (Below.drew (by simp [*])) hb1))
    clear hK K
    try simp only [Act.put, List.setIfInBounds_toArray, List.set_cons_zero, List.set_cons_succ]
    refine wpAnyH_take (i := 6) (oi := { dst := some 18, op := Op.build 71 #[(0, Operand.const (Value.bool false)), (1, Operand.tmp 14), (2, Operand.tmp 17)], type := _, pos := _, after := _, guard := none }) (v := ?_) rfl (by kernel_rfl) (by kernel_rfl) (by kernel_rfl) (fun _ _ _ h => h) (Or.inl ⟨by rfl, ?_⟩) (by assumption) ?_
    rotate_left
    · intro w hSw; (try dsimp only at hSw); go_simp
      try with_reducible rfl
    try simp only [Act.put, List.setIfInBounds_toArray, List.set_cons_zero, List.set_cons_succ]
    refine wpAnyH_ready (rs := [7]) (by kernel_rfl) (by simp) ?_
    refine AllReadyH.cons (o := { dst := none, op := Op.store 71 (Operand.tmp 2) (Operand.tmp 18), type := _, pos := _, after := _, guard := none }) rfl (fun K hK => ?_) AllReadyH.nil
    rw [if_pos (by rfl)]
    refine wp_store_mid 71 _ _ rfl (w.heap.size + 1) 0 #[.bool false, .int .i64 (Vg.ei p), .bool s1, .slice A1 n1 c1, .slice A2 n2 c2, .int .i64 (Vg.ei q), .bool s2, .slice A3 n3 c3, .slice A4 n4 c4] rfl rfl NB.out.1 (by kernel_rfl) (by simp [Value.oneCell']) ?_
    refine hK.out _ _ ?_ (fun hHeld => ?_)
    · exact ⟨(sc_other (by dsimp only; omega)).trans hHeld.1, (sc_other (by dsimp only; omega)).trans hHeld.2.1, by rw [sc_size]; exact hHeld.2.2.1, hHeld.2.2.2.1, sc_below _ (by omega) _ _ _ hHeld.2.2.2.2⟩
    clear hK K
    try simp only [Act.put]
    refine wpAnyH_done (by kernel_rfl) ?_ _
    have G9 := hHeld.2.2.2.2
    go_wp2
    refine bodyPost_ret (results_cell rfl _ _ _ ⟨w.heap.size + 1, 0, none⟩ _ rfl (sc_load Try.prog (vs := [.bool false, .int .i64 (Vg.ei p), .bool s1, .slice A1 n1 c1, .slice A2 n2 c2, .int .i64 (Vg.ei q), .bool s2, .slice A3 n3 c3, .slice A4 n4 c4]) NB.out.1 Try.underlying71 rfl (by kernel_rfl))) rfl ?_
    exact ⟨false, _, _, _, _, _, _, _, _, _, _, _, _, _, _, _, _, rfl, .inr ⟨HP.out, rfl, P1.out.cells NB.out.2 _ (by simp), P2.out.cells NB.out.2 _ (by simp)⟩, G9⟩
  · have HP : Hid (q < p) := hide (HN.out.1 rfl)
    clear HN B1 B2 m0 m1
    go_wp2_with fail
    refine (F0 _).mono ?_; rintro e w1 ⟨v1, rfl, hv, hb⟩
    obtain ⟨s1, A1, n1, c1, A2, n2, c2, rfl, -⟩ := hv
    have NB := hide (NB.out.keep hb (by omega))
    have z := Nat.lt_of_lt_of_le z hb.size
    have g := bch g hb
    clear hb
    go_wp2_with fail
    refine (F0 _).mono ?_; rintro e w2 ⟨v2, rfl, hv, hb⟩
    obtain ⟨s2, A3, n3, c3, A4, n4, c4, rfl, -⟩ := hv
    have NB := hide (NB.out.keep hb (by omega))
    have g := bch g hb
    clear hb F0 z zz
    obtain ⟨u0', k0⟩ := Option.isSome_iff_exists.1 (NB.out.1 0 (by decide)).1
    have f0 := (NB.out.1 0 (by decide)).2
    obtain ⟨u1', k1⟩ := Option.isSome_iff_exists.1 (NB.out.1 1 (by decide)).1
    have f1 := (NB.out.1 1 (by decide)).2
    obtain ⟨u2', k2⟩ := Option.isSome_iff_exists.1 (NB.out.1 2 (by decide)).1
    have f2 := (NB.out.1 2 (by decide)).2
    obtain ⟨u3', k3⟩ := Option.isSome_iff_exists.1 (NB.out.1 3 (by decide)).1
    have f3 := (NB.out.1 3 (by decide)).2
    obtain ⟨u4', k4⟩ := Option.isSome_iff_exists.1 (NB.out.1 4 (by decide)).1
    have f4 := (NB.out.1 4 (by decide)).2
    obtain ⟨u5', k5⟩ := Option.isSome_iff_exists.1 (NB.out.1 5 (by decide)).1
    have f5 := (NB.out.1 5 (by decide)).2
    obtain ⟨u6', k6⟩ := Option.isSome_iff_exists.1 (NB.out.1 6 (by decide)).1
    have f6 := (NB.out.1 6 (by decide)).2
    obtain ⟨u7', k7⟩ := Option.isSome_iff_exists.1 (NB.out.1 7 (by decide)).1
    have f7 := (NB.out.1 7 (by decide)).2
    obtain ⟨u8', k8⟩ := Option.isSome_iff_exists.1 (NB.out.1 8 (by decide)).1
    have f8 := (NB.out.1 8 (by decide)).2
    simp only [Nat.zero_add] at k0 f0 k1 f1 k2 f2 k3 f3 k4 f4 k5 f5 k6 f6 k7 f7 k8 f8
    clear NB
    go_wp2
    exact bodyPost_ret (v := .agg #[.bool true, .int .i64 0, .bool s1, .slice A1 n1 c1, .slice A2 n2 c2, .int .i64 0, .bool s2, .slice A3 n3 c3, .slice A4 n4 c4]) (by simp [results, Try.results71, go_sem, *]) rfl ⟨true, _, _, _, _, _, _, _, _, _, _, _, _, _, _, _, _, rfl, .inl ⟨HP.out, rfl⟩, ((((((((g.setCell (by dsimp only <;> omega) _).setCell (by dsimp only <;> omega) _).setCell (by dsimp only <;> omega) _).setCell (by dsimp only <;> omega) _).setCell (by dsimp only <;> omega) _).setCell (by dsimp only <;> omega) _).setCell (by dsimp only <;> omega) _).setCell (by dsimp only <;> omega) _).setCell (by dsimp only <;> omega) _⟩
end Go.Proofs.Ytljnadoodbninaa
