/- Contract of the reference's Mid: of an interval of two numbers, the middle, rounded. -/
import Derived.Test.YtljnadoodbninaaWRnd2
import Derived.Test.YtljnadoodbninaaWRAdd
import Derived.Test.YtljnadoodbninaaWBits6
import Derived.Test.YtljnadoodbninaaWRefRead
import Derived.Test.YtljnadoodbninaaKRelKinds
namespace Go.Proofs.Ytljnadoodbninaa
open Go.RowKit
theorem val_pow {r E : Nat} (h : r < 9218868437227405312) (hE : 2045 = E) : Vg.val FloatKind.f64.format r < 2 ^ (53 + E) := by
  rcases Nat.eq_zero_or_pos r with h0 | h0
  · rw [h0, Vg.val_zero]; exact Nat.two_pow_pos _
  · obtain ⟨k, L, e, -, -, k2, -, l2⟩ := Vg.val_kL h0 h
    rw [e, Nat.pow_add]
    exact Nat.lt_of_lt_of_le (Nat.mul_lt_mul_of_pos_right k2 (Nat.two_pow_pos L)) (Nat.mul_le_mul_left _ (Nat.pow_le_pow_right (by decide) (by omega)))
theorem sum_log {p q : Int} (hp : p.natAbs < 9218868437227405312) (hq : q.natAbs < 9218868437227405312) (h0 : Vg.sv p + Vg.sv q ≠ 0) : (Vg.sv p + Vg.sv q).natAbs.log2 ≤ 2098 := by
  obtain ⟨E, hE⟩ : ∃ E, (2045 : Nat) = E := ⟨_, rfl⟩
  have a := val_pow hp hE
  have b := val_pow hq hE
  rw [← sv_natAbs] at a b
  have c : (Vg.sv p + Vg.sv q).natAbs < 2 ^ (53 + E + 1) := by rw [Nat.pow_succ]; omega
  have d := (Nat.log2_lt (by omega : (Vg.sv p + Vg.sv q).natAbs ≠ 0) (k := 53 + E + 1)).2 c
  omega
theorem mdp_bd {p q : Int} (h1 : -Vg.PI < p) (h2 : q < Vg.PI) (hc : p + 1 < q) : p < Vg.mdp p q ∧ Vg.mdp p q < q := by
  obtain ⟨c, a, b, d⟩ := Vg.cen p q h1 h2 hc
  rw [← Vg.cen_place a h1 h2 hc b d]
  exact ⟨b, d⟩
theorem mdp_abs (p q : Int) : (Vg.mdp p q).natAbs = Vg.UH (Vg.sv p + Vg.sv q).natAbs := by unfold Vg.mdp; split <;> omega
theorem bits_near (p q : Int) (h1 : -Vg.PI < p) (h2 : q < Vg.PI) (hc : p + 1 < q) (v : Value) (B : Nat) (hB : B ≤ 65536) (w : World) (hv : Rt w v (Vg.sv p + Vg.sv q) (Vg.LP * 2) B) :
    Calls Try.prog 97 #[.int .i64 0, v] w fun e w' => e = .returned (.int .u64 (Vg.atn true (Vg.mdp p q) : Nat)) ∧ Below w.heap.size w w' := by
  have R : ∀ w' : World, Below w.heap.size w w' → Calls Try.prog 124 #[.int .i64 0, v, .int .i64 53, .int .i64 1023] w' fun e w'' => e = .returned (.int .u64 (Vg.atn true (Vg.mdp p q) : Nat)) ∧ Below w'.heap.size w' w'' := by
    intro w' hb
    obtain ⟨s, A1, n1, c1, A2, n2, c2, xs, ys, rfl, i1, i2, i3, i4, i5, i6⟩ := hv.keep hb
    obtain ⟨k1, k2, k3⟩ := zi_inj i4 i3
    have bd := mdp_bd h1 h2 hc
    have ab := mdp_abs p q
    have pi := Vg.PI_eq
    by_cases h0 : Vg.sv p + Vg.sv q = 0
    · have e0 : Vg.nat32 xs = 0 := by
        rw [h0, show (0 : Int).natAbs = 0 from rfl, Nat.zero_mul] at k1
        have := Vg.LP_pos
        rcases Nat.mul_eq_zero.1 k1 with h | h <;> omega
      have e1 : Vg.mdp p q = 0 := by rw [h0, show (0 : Int).natAbs = 0 from rfl, Vg.UH_zero] at ab; omega
      rw [e1, Vg.atn_zero]
      exact rounded_zero 0 s A1 A2 n1 c1 n2 c2 xs w' i1 (by omega) e0
    · have r := rounded_near s A1 A2 n1 c1 n2 c2 xs ys w' i1 i2 i4 (by omega) (by omega) (Vg.sv p + Vg.sv q).natAbs (by omega) (sum_log (by omega) (by omega) h0) (by rw [← k1, Nat.mul_comm 2]) (by rw [← ab]; omega)
      have e : mk s (Vg.mdp p q).natAbs = Vg.atn true (Vg.mdp p q) := mk_atn (fun h => k2 (by unfold Vg.mdp at h; split at h <;> omega)) (fun h => k3 (by unfold Vg.mdp at h; split at h <;> omega))
      rwa [← ab, e] at r
  obtain ⟨X, hX⟩ : ∃ n, Vg.atn true (Vg.mdp p q) = n := ⟨_, rfl⟩
  rw [hX] at R ⊢
  obtain ⟨s, A1, n1, c1, A2, n2, c2, xs, ys, rfl, -⟩ := hv
  clear h1 h2 hc hB hX
  go_enter Try.func97, Try.ntmps97
  go_wp2_with fail
  refine (R _ b_one).mono ?_; rintro e w1 ⟨rfl, hb⟩
  have g := bch_one hb
  clear hb R
  go_wp2
  go_ret
  exact ⟨rfl, g⟩
/-- What is loaded where a struct was stored, cell by cell. -/
theorem sc_same {w : World} {b : Nat} {vs : List Value} (h : w.there b 0 vs.length) (j : Nat) (hj : j < vs.length) : (w.setCells b 0 vs).cell? ⟨b, j, none⟩ = some vs[j] := by
  have := World.cell?_setCells_in b vs 0 w (fun j hj => (h j hj).1) j hj
  rwa [Nat.zero_add] at this
/-- The middle is told where both ends are numbers. -/
def TMid (p q : Int) (w : World) (e : Ending) (w' : World) : Prop := ∃ m : Nat, e = .returned (.int .u64 (m : Int)) ∧ (-Vg.PI < p → q < Vg.PI → m = Vg.atn true (Vg.mdp p q)) ∧ Below w.heap.size w w'
set_option maxRecDepth 20000 in
set_option maxHeartbeats 16000000 in
theorem mid8_any (p q : Int) (hI : Vg.Iv p q) (hc : p + 1 < q) (w : World) : Calls Try.prog 92 #[.agg #[.int .u64 (Vg.atn true p : Nat), .int .u64 (Vg.atn true q : Nat)]] w (TMid p q w) := by
  have hp := hI.lo
  have hq := hI.hi
  have hpi := Vg.PI_eq
  have bp := hp.bd
  have bq := hq.bd
  have q0 : q ≠ -Vg.PI := by omega
  have p0 : p ≠ Vg.PI := by omega
  have RR := fun w => rread_any _ _ p q (Vg.Rd.self hI) w
  have R1 := fun w => rempty_any w
  have R2 := fun w => rentire_any w
  obtain ⟨l, hl⟩ : ∃ b, decide (p = -Vg.PI) = b := ⟨_, rfl⟩
  obtain ⟨h, hh⟩ : ∃ b, decide (q = Vg.PI) = b := ⟨_, rfl⟩
  have E1 := relKinds.eqU (a := Vg.atn true p) (b := Vg.atn true q) (c := Vg.atn true Vg.PI) (d := Vg.atn true (-Vg.PI)) false (by
    refine ⟨fun h => (by cases h), fun ⟨h1, h2⟩ => ?_⟩
    exact absurd (Vg.atn_inj hp Vg.pl_top h1) p0)
  have E2 := relKinds.eqU (a := Vg.atn true p) (b := Vg.atn true q) (c := Vg.atn true (-Vg.PI)) (d := Vg.atn true Vg.PI) (l && h) (by
    rw [← hl, ← hh, Bool.and_eq_true, decide_eq_true_eq, decide_eq_true_eq]
    exact ⟨fun ⟨a, b⟩ => by rw [a, b]; exact ⟨rfl, rfl⟩, fun ⟨a, b⟩ => ⟨Vg.atn_inj hp Vg.pl_bot a, Vg.atn_inj hq Vg.pl_top b⟩⟩)
  have tl : ((Vg.atn true p : Int) == 18442240474082181120) = l := by
    rw [← hl, Bool.eq_iff_iff, beq_iff_eq, decide_eq_true_eq]
    have e := Vg.atn_bot
    exact ⟨fun a => Vg.atn_inj hp Vg.pl_bot (by omega), fun a => by rw [a, e]; rfl⟩
  have th : ((Vg.atn true q : Int) == 9218868437227405312) = h := by
    rw [← hh, Bool.eq_iff_iff, beq_iff_eq, decide_eq_true_eq]
    have e := Vg.atn_top
    exact ⟨fun a => Vg.atn_inj hq Vg.pl_top (by omega), fun a => by rw [a, e]; rfl⟩
  have HL : Hid ((l = true → ¬ -Vg.PI < p) ∧ (h = true → ¬ q < Vg.PI)) := hide (by
    rw [← hl, ← hh, decide_eq_true_eq, decide_eq_true_eq]; omega)
  have HF : Hid (l = false → h = false → (∀ w, Calls Try.prog 120 #[.int .u64 (Vg.atn true p : Nat)] w (TRt (Vg.sv p) Vg.LP 64 w)) ∧ (∀ w, Calls Try.prog 120 #[.int .u64 (Vg.atn true q : Nat)] w (TRt (Vg.sv q) Vg.LP 64 w)) ∧ -Vg.PI < p ∧ q < Vg.PI) := hide (by
    intro a b
    rw [← hl] at a
    rw [← hh] at b
    have a := of_decide_eq_false a
    have b := of_decide_eq_false b
    have rp := Vg.rg_atn hp
    have rq := Vg.rg_atn hq
    have F1 := fun w => frombits_any _ (Vg.atn_le hp) (by rw [rp]; omega) w
    have F2 := fun w => frombits_any _ (Vg.atn_le hq) (by rw [rq]; omega) w
    rw [Vg.su_atn hp] at F1
    rw [Vg.su_atn hq] at F2
    exact ⟨F1, F2, by omega, by omega⟩)
  have HC := hide hc
  obtain ⟨X, hX⟩ : ∃ n, Vg.atn true p = n := ⟨_, rfl⟩
  obtain ⟨Y, hY⟩ : ∃ n, Vg.atn true q = n := ⟨_, rfl⟩
  obtain ⟨T0, hT⟩ : ∃ n, Vg.atn true Vg.PI = n := ⟨_, rfl⟩
  obtain ⟨T1, hU⟩ : ∃ n, Vg.atn true (-Vg.PI) = n := ⟨_, rfl⟩
  rw [hX, hY] at RR E1 E2 HF ⊢
  rw [hX] at tl
  rw [hY] at th
  rw [hT, hU] at E1 E2 R1 R2
  clear hX hY hT hU hl hh hI hp hq hpi bp bq q0 p0 hc
  go_enter Try.func92, Try.ntmps92
  go_upto_region 1 with fail
  have g : Below w.heap.size w (w.alloc (.cells #[.int .u64 (X : Int), .int .u64 (Y : Int)] 24)) := b_one
  go_cut [3] (fun v wx => ∃ GB : Nat, v = .pointer (some ⟨GB, 0, none⟩) ∧ wx.cell? ⟨GB, 0, none⟩ = some (.int .u64 (X : Int)) ∧ wx.cell? ⟨GB, 1, none⟩ = some (.int .u64 (Y : Int)) ∧ GB < wx.heap.size ∧ Below w.heap.size w wx)
  case first =>
    go_wp2_with fail
    refine (RR _).mono ?_; rintro e w' ⟨rfl, hb⟩
    have g := (by first | exact bch g hb | exact bch g.drew hb)
    clear hb
    go_wp2_with fail
    go_meet
    refine ⟨_, rfl, ?_⟩
    (repeat' apply And.intro) <;> first | exact keep_cell b_one (by dsimp only <;> omega) (by assumption) | assumption | (simp [go_sem, *]; done) | exact g.alloc g.size _ | (simp; omega) | (simp [*]; done)
  case rest =>
  clear g
  obtain ⟨GB, rfl, y0, y1, zy, g⟩ := hcut
  clear RR
  go_upto_region 2 with fail
  go_cut [9] (fun v wx => v = .bool false ∧ wx.cell? ⟨GB, 0, none⟩ = some (.int .u64 (X : Int)) ∧ wx.cell? ⟨GB, 1, none⟩ = some (.int .u64 (Y : Int)) ∧ GB < wx.heap.size ∧ Below w.heap.size w wx)
  case first =>
    go_region_held3 (fun wx => wx.cell? ⟨GB, 0, none⟩ = some (.int .u64 (X : Int)) ∧ wx.cell? ⟨GB, 1, none⟩ = some (.int .u64 (Y : Int)) ∧ GB < wx.heap.size ∧ Below w.heap.size w wx)
      (((try dsimp only); (repeat' apply And.intro) <;> first | assumption | (simp [*]; done) | exact Below.drew (by assumption) | exact keep_cell hb1 (by first | (dsimp only; omega) | (simp; omega)) (by simp [*]) | (have := hb1.size; omega) | (have := hb1.size; simp at this; omega) | exact bch (by simp [*]) hb1 | exact bch (Below.drew (by simp [*])) hb1))
      (first | (go_at_call 32; refine (R1 _).mono ?_; rintro e w' ⟨rfl, hb1⟩) | fail)
    all_goals
      go_wp2_with fail
      go_meet
      refine ⟨rfl, ?_⟩
      first | assumption | (go_split_ands; (repeat' apply And.intro) <;> first | assumption | omega | (simp [*]; done))
  case rest =>
  clear y0 y1 zy g E1 R1
  obtain ⟨rfl, y0, y1, zy, g⟩ := hcut
  go_upto_region 4 with fail
  go_cut [12] (fun v wx => v = .bool (l && h) ∧ wx.cell? ⟨GB, 0, none⟩ = some (.int .u64 (X : Int)) ∧ wx.cell? ⟨GB, 1, none⟩ = some (.int .u64 (Y : Int)) ∧ GB < wx.heap.size ∧ Below w.heap.size w wx)
  case first =>
    go_region_held3 (fun wx => wx.cell? ⟨GB, 0, none⟩ = some (.int .u64 (X : Int)) ∧ wx.cell? ⟨GB, 1, none⟩ = some (.int .u64 (Y : Int)) ∧ GB < wx.heap.size ∧ Below w.heap.size w wx)
      (((try dsimp only); (repeat' apply And.intro) <;> first | assumption | (simp [*]; done) | exact Below.drew (by assumption) | exact keep_cell hb1 (by first | (dsimp only; omega) | (simp; omega)) (by simp [*]) | (have := hb1.size; omega) | (have := hb1.size; simp at this; omega) | exact bch (by simp [*]) hb1 | exact bch (Below.drew (by simp [*])) hb1))
      (first | (go_at_call 34; refine (R2 _).mono ?_; rintro e w' ⟨rfl, hb1⟩) | fail)
    all_goals
      go_wp2_with fail
      go_meet
      refine ⟨rfl, ?_⟩
      first | assumption | (go_split_ands; (repeat' apply And.intro) <;> first | assumption | omega | (simp [*]; done))
  case rest =>
  clear y0 y1 zy g E2 R2
  obtain ⟨rfl, y0, y1, zy, g⟩ := hcut
  cases l <;> cases h
  · obtain ⟨F1, F2, h1, h2⟩ := HF.out rfl rfl
    have AD := fun (w : World) (a b : Value) (ha : Rt w a (Vg.sv p) Vg.LP 64) (hb : Rt w b (Vg.sv q) Vg.LP 64) => radd_any a b (Vg.sv p) (Vg.sv q) Vg.LP 64 (by decide) w ha hb
    have I2 := fun w => int_any 2 (by decide) w
    have QU := fun (w : World) (a b : Value) (ha : Rt w a (Vg.sv p + Vg.sv q) Vg.LP 774) (hb : Rt w b ((2 : Nat) : Int) 1 774) => rquo_any a b (Vg.sv p + Vg.sv q) 2 (by decide) Vg.LP 774 (by decide) w ha hb
    have BN := fun (w : World) (v : Value) (hv : Rt w v (Vg.sv p + Vg.sv q) (Vg.LP * 2) 6196) => bits_near p q h1 h2 HC.out v 6196 (by decide) w hv
    obtain ⟨Z, hZ⟩ : ∃ n, Vg.atn true (Vg.mdp p q) = n := ⟨_, rfl⟩
    rw [hZ] at BN
    have HZ := hide hZ
    clear HF HL HC h1 h2 hZ
    go_upto_region 10 with fail
    obtain ⟨wd, hwd⟩ : ∃ x, wc = x := ⟨_, rfl⟩
    subst hwd
    go_cut [4] (fun v wx => ∃ (GR : Nat) (s : Bool) (A1 : Option Addr) (n1 c1 : Nat) (A2 : Option Addr) (n2 c2 : Nat), v = .pointer (some ⟨GR, 0, none⟩) ∧ Hid (Rt wx (.agg #[.bool s, .slice A1 n1 c1, .slice A2 n2 c2]) (Vg.sv p + Vg.sv q) Vg.LP 774) ∧ wx.cell? ⟨GR, 0, none⟩ = some (.bool s) ∧ wx.cell? ⟨GR, 1, none⟩ = some (.slice A1 n1 c1) ∧ wx.cell? ⟨GR, 2, none⟩ = some (.slice A2 n2 c2) ∧ GR < wx.heap.size ∧ Below w.heap.size w wx)
    case first =>
      clear I2 QU BN
      refine wp_region_held_drew (S := fun wx => wx.cell? ⟨GB, 0, none⟩ = some (.int .u64 (X : Int)) ∧ wx.cell? ⟨GB, 1, none⟩ = some (.int .u64 (Y : Int)) ∧ GB < wx.heap.size ∧ Below w.heap.size w wx) (by kernel_rfl) ?_ (fun hHeld => ?_)
      · exact ⟨y0, y1, zy, g.drew⟩
      refine wpAnyH_take (i := 0) (oi := { dst := some 19, op := Op.fieldAddr 24 (Operand.tmp 3) 0, type := _, pos := _, after := _, guard := none }) (v := ?_) rfl (by kernel_rfl) (by kernel_rfl) (by kernel_rfl) (fun _ _ _ h => h) (Or.inl ⟨by rfl, ?_⟩) (by assumption) ?_
      rotate_left
      · intro w hSw; (try dsimp only at hSw); go_simp
        try with_reducible rfl
      try simp only [Act.put, List.setIfInBounds_toArray, List.set_cons_zero, List.set_cons_succ]
      refine wpAnyH_take (i := 1) (oi := { dst := some 20, op := Op.load 22 (Operand.tmp 19), type := _, pos := _, after := _, guard := none }) (v := ?_) rfl (by kernel_rfl) (by kernel_rfl) (by kernel_rfl) (fun _ _ _ h => h) (Or.inl ⟨by rfl, ?_⟩) (by assumption) ?_
      rotate_left
      · intro w hSw; (try dsimp only at hSw); go_simp
        try with_reducible rfl
      try simp only [Act.put, List.setIfInBounds_toArray, List.set_cons_zero, List.set_cons_succ]
      refine wpAnyH_take (i := 3) (oi := { dst := some 22, op := Op.fieldAddr 24 (Operand.tmp 3) 1, type := _, pos := _, after := _, guard := none }) (v := ?_) rfl (by kernel_rfl) (by kernel_rfl) (by kernel_rfl) (fun _ _ _ h => h) (Or.inl ⟨by rfl, ?_⟩) (by assumption) ?_
      rotate_left
      · intro w hSw; (try dsimp only at hSw); go_simp
        try with_reducible rfl
      try simp only [Act.put, List.setIfInBounds_toArray, List.set_cons_zero, List.set_cons_succ]
      refine wpAnyH_take (i := 4) (oi := { dst := some 23, op := Op.load 22 (Operand.tmp 22), type := _, pos := _, after := _, guard := none }) (v := ?_) rfl (by kernel_rfl) (by kernel_rfl) (by kernel_rfl) (fun _ _ _ h => h) (Or.inl ⟨by rfl, ?_⟩) (by assumption) ?_
      rotate_left
      · intro w hSw; (try dsimp only at hSw); go_simp
        try with_reducible rfl
      try simp only [Act.put, List.setIfInBounds_toArray, List.set_cons_zero, List.set_cons_succ]
      refine wpAnyH_ready (rs := [2, 7]) (by kernel_rfl) (by simp) ?_
      refine AllReadyH.cons (o := { dst := some 21, op := Op.call { callee := Callee.value (Operand.func 120), args := #[Operand.tmp 20], argTypes := #[22] }, type := _, pos := _, after := _, guard := none }) rfl (fun K hK => ?_) ?_
      · go_simp
        go_at_call 120; refine ((F1 _)).mono ?_; rintro e wa1 ⟨v1, rfl, p1, hb1⟩
        have P1 := hide p1
        clear p1
        go_wp2_with fail
        refine hK.out _ _ ?_ (fun hHeld2 => ?_)
        · exact ⟨keep_cell hb1 hHeld.2.2.1 hHeld.1, keep_cell hb1 hHeld.2.2.1 hHeld.2.1, Nat.lt_of_lt_of_le hHeld.2.2.1 hb1.size, bch hHeld.2.2.2 hb1⟩
        clear hK K hHeld
        have hHeld := hHeld2
        clear hHeld2
        try simp only [Act.put, List.setIfInBounds_toArray, List.set_cons_zero, List.set_cons_succ]
        refine wpAnyH_ready (rs := [5, 7]) (by kernel_rfl) (by simp) ?_
        refine AllReadyH.cons (o := { dst := some 24, op := Op.call { callee := Callee.value (Operand.func 120), args := #[Operand.tmp 23], argTypes := #[22] }, type := _, pos := _, after := _, guard := none }) rfl (fun K hK => ?_) ?_
        · go_simp
          go_at_call 120; refine ((F2 _)).mono ?_; rintro e wa2 ⟨v2, rfl, p1, hb1⟩
          replace P1 := hide (P1.out.keep hb1)
          have P2 := hide p1
          clear p1
          go_wp2_with fail
          refine hK.out _ _ ?_ (fun hHeld2 => ?_)
          · exact ⟨keep_cell hb1 hHeld.2.2.1 hHeld.1, keep_cell hb1 hHeld.2.2.1 hHeld.2.1, Nat.lt_of_lt_of_le hHeld.2.2.1 hb1.size, bch hHeld.2.2.2 hb1⟩
          clear hK K hHeld
          have hHeld := hHeld2
          clear hHeld2
          try simp only [Act.put, List.setIfInBounds_toArray, List.set_cons_zero, List.set_cons_succ]
          refine wpAnyH_ready (rs := [6, 7]) (by kernel_rfl) (by simp) ?_
          refine AllReadyH.cons (o := { dst := some 25, op := Op.call { callee := Callee.value (Operand.func 119), args := #[Operand.tmp 21, Operand.tmp 24], argTypes := #[45, 45] }, type := _, pos := _, after := _, guard := none }) rfl (fun K hK => ?_) ?_
          · go_simp
            go_at_call 119; refine ((AD _ _ _ P1.out P2.out)).mono ?_; rintro e wa3 ⟨v3, rfl, p1, hb1⟩
            have P3 := hide p1
            obtain ⟨s, A1, n1, c1, A2, n2, c2, xs, ys, rfl, -⟩ := p1
            go_wp2_with fail
            refine hK.out _ _ ?_ (fun hHeld2 => ?_)
            · exact ⟨keep_cell hb1 hHeld.2.2.1 hHeld.1, keep_cell hb1 hHeld.2.2.1 hHeld.2.1, Nat.lt_of_lt_of_le hHeld.2.2.1 hb1.size, bch hHeld.2.2.2 hb1⟩
            clear hK K hHeld
            have hHeld := hHeld2
            clear hHeld2
            try simp only [Act.put, List.setIfInBounds_toArray, List.set_cons_zero, List.set_cons_succ]
            refine wpAnyH_ready (rs := [7]) (by kernel_rfl) (by simp) ?_
            refine AllReadyH.cons (o := { dst := some 4, op := Op.alloc 45, type := _, pos := _, after := _, guard := none }) rfl (fun K hK => ?_) AllReadyH.nil
            go_simp
            go_wp2_with fail
            have zR : wa3.heap.size < (wa3.alloc (.cells #[.bool false, .slice none 0 0, .slice none 0 0] 45)).heap.size := by simp
            have NB := hide (Bx.new wa3 #[.bool false, .slice none 0 0, .slice none 0 0] 45 rfl rfl (by simp))
            have zz : GB < wa3.heap.size := hHeld.2.2.1
            have zw : w.heap.size ≤ wa3.heap.size := hHeld.2.2.2.size
            replace P3 := hide (Rt.keep (w' := wa3.alloc (.cells #[.bool false, .slice none 0 0, .slice none 0 0] 45)) P3.out b_one)
            refine hK.out _ _ ?_ (fun hHeld2 => ?_)
            · exact ⟨keep_cell b_one hHeld.2.2.1 hHeld.1, keep_cell b_one hHeld.2.2.1 hHeld.2.1, Nat.lt_of_lt_of_le hHeld.2.2.1 b_one.size, hHeld.2.2.2.alloc hHeld.2.2.2.size _⟩
            clear hK K hHeld
            have hHeld := hHeld2
            clear hHeld2
            try simp only [Act.put, List.setIfInBounds_toArray, List.set_cons_zero, List.set_cons_succ]
            refine wpAnyH_ready (rs := [8]) (by kernel_rfl) (by simp) ?_
            refine AllReadyH.cons (o := { dst := none, op := Op.store 45 (Operand.tmp 4) (Operand.tmp 25), type := _, pos := _, after := _, guard := none }) rfl (fun K hK => ?_) AllReadyH.nil
            rw [if_pos (by rfl)]
            refine wp_store_mid 45 _ _ rfl wa3.heap.size 0 #[.bool s, .slice A1 n1 c1, .slice A2 n2 c2] rfl rfl NB.out.1 (by kernel_rfl) (by simp [Value.oneCell']) ?_
            refine hK.out _ _ ?_ (fun hHeld2 => ?_)
            · exact ⟨(sc_other (by dsimp only; omega)).trans hHeld.1, (sc_other (by dsimp only; omega)).trans hHeld.2.1, by rw [sc_size]; exact hHeld.2.2.1, sc_below _ (by omega) _ _ _ hHeld.2.2.2⟩
            clear hK K hHeld
            try simp only [Act.put]
            refine wpAnyH_done (by kernel_rfl) ?_ _
            have M := sc_same (vs := [.bool s, .slice A1 n1 c1, .slice A2 n2 c2]) NB.out.1
            go_wp2_with fail
            go_meet
            exact ⟨_, s, A1, n1, c1, A2, n2, c2, rfl, hide (P3.out.cells NB.out.2 [.bool s, .slice A1 n1 c1, .slice A2 n2 c2] (by simp)), M 0 (by simp), M 1 (by simp), M 2 (by simp), by rw [sc_size]; exact zR, hHeld2.2.2.2⟩
          refine AllReadyH.cons (o := { dst := some 4, op := Op.alloc 45, type := _, pos := _, after := _, guard := none }) rfl (fun K hK => ?_) AllReadyH.nil
          go_simp
          go_wp2_with fail
          have zR : wa2.heap.size < (wa2.alloc (.cells #[.bool false, .slice none 0 0, .slice none 0 0] 45)).heap.size := by simp
          have NB := hide (Bx.new wa2 #[.bool false, .slice none 0 0, .slice none 0 0] 45 rfl rfl (by simp))
          have zz : GB < wa2.heap.size := hHeld.2.2.1
          have zw : w.heap.size ≤ wa2.heap.size := hHeld.2.2.2.size
          replace P1 := hide (Rt.keep (w' := wa2.alloc (.cells #[.bool false, .slice none 0 0, .slice none 0 0] 45)) P1.out b_one)
          replace P2 := hide (Rt.keep (w' := wa2.alloc (.cells #[.bool false, .slice none 0 0, .slice none 0 0] 45)) P2.out b_one)
          refine hK.out _ _ ?_ (fun hHeld2 => ?_)
          · exact ⟨keep_cell b_one hHeld.2.2.1 hHeld.1, keep_cell b_one hHeld.2.2.1 hHeld.2.1, Nat.lt_of_lt_of_le hHeld.2.2.1 b_one.size, hHeld.2.2.2.alloc hHeld.2.2.2.size _⟩
          clear hK K hHeld
          have hHeld := hHeld2
          clear hHeld2
          try simp only [Act.put, List.setIfInBounds_toArray, List.set_cons_zero, List.set_cons_succ]
          refine wpAnyH_ready (rs := [6]) (by kernel_rfl) (by simp) ?_
          refine AllReadyH.cons (o := { dst := some 25, op := Op.call { callee := Callee.value (Operand.func 119), args := #[Operand.tmp 21, Operand.tmp 24], argTypes := #[45, 45] }, type := _, pos := _, after := _, guard := none }) rfl (fun K hK => ?_) AllReadyH.nil
          go_simp
          go_at_call 119; refine ((AD _ _ _ P1.out P2.out)).mono ?_; rintro e wa3 ⟨v3, rfl, p1, hb1⟩
          replace NB := hide (NB.out.keep hb1 zR)
          replace zR := Nat.lt_of_lt_of_le zR hb1.size
          have P3 := hide p1
          obtain ⟨s, A1, n1, c1, A2, n2, c2, xs, ys, rfl, -⟩ := p1
          go_wp2_with fail
          refine hK.out _ _ ?_ (fun hHeld2 => ?_)
          · exact ⟨keep_cell hb1 hHeld.2.2.1 hHeld.1, keep_cell hb1 hHeld.2.2.1 hHeld.2.1, Nat.lt_of_lt_of_le hHeld.2.2.1 hb1.size, bch hHeld.2.2.2 hb1⟩
          clear hK K hHeld
          have hHeld := hHeld2
          clear hHeld2
          try simp only [Act.put, List.setIfInBounds_toArray, List.set_cons_zero, List.set_cons_succ]
          refine wpAnyH_ready (rs := [8]) (by kernel_rfl) (by simp) ?_
          refine AllReadyH.cons (o := { dst := none, op := Op.store 45 (Operand.tmp 4) (Operand.tmp 25), type := _, pos := _, after := _, guard := none }) rfl (fun K hK => ?_) AllReadyH.nil
          rw [if_pos (by rfl)]
          refine wp_store_mid 45 _ _ rfl wa2.heap.size 0 #[.bool s, .slice A1 n1 c1, .slice A2 n2 c2] rfl rfl NB.out.1 (by kernel_rfl) (by simp [Value.oneCell']) ?_
          refine hK.out _ _ ?_ (fun hHeld2 => ?_)
          · exact ⟨(sc_other (by dsimp only; omega)).trans hHeld.1, (sc_other (by dsimp only; omega)).trans hHeld.2.1, by rw [sc_size]; exact hHeld.2.2.1, sc_below _ (by omega) _ _ _ hHeld.2.2.2⟩
          clear hK K hHeld
          try simp only [Act.put]
          refine wpAnyH_done (by kernel_rfl) ?_ _
          have M := sc_same (vs := [.bool s, .slice A1 n1 c1, .slice A2 n2 c2]) NB.out.1
          go_wp2_with fail
          go_meet
          exact ⟨_, s, A1, n1, c1, A2, n2, c2, rfl, hide (P3.out.cells NB.out.2 [.bool s, .slice A1 n1 c1, .slice A2 n2 c2] (by simp)), M 0 (by simp), M 1 (by simp), M 2 (by simp), by rw [sc_size]; exact zR, hHeld2.2.2.2⟩
        refine AllReadyH.cons (o := { dst := some 4, op := Op.alloc 45, type := _, pos := _, after := _, guard := none }) rfl (fun K hK => ?_) AllReadyH.nil
        go_simp
        go_wp2_with fail
        have zR : wa1.heap.size < (wa1.alloc (.cells #[.bool false, .slice none 0 0, .slice none 0 0] 45)).heap.size := by simp
        have NB := hide (Bx.new wa1 #[.bool false, .slice none 0 0, .slice none 0 0] 45 rfl rfl (by simp))
        have zz : GB < wa1.heap.size := hHeld.2.2.1
        have zw : w.heap.size ≤ wa1.heap.size := hHeld.2.2.2.size
        replace P1 := hide (Rt.keep (w' := wa1.alloc (.cells #[.bool false, .slice none 0 0, .slice none 0 0] 45)) P1.out b_one)
        refine hK.out _ _ ?_ (fun hHeld2 => ?_)
        · exact ⟨keep_cell b_one hHeld.2.2.1 hHeld.1, keep_cell b_one hHeld.2.2.1 hHeld.2.1, Nat.lt_of_lt_of_le hHeld.2.2.1 b_one.size, hHeld.2.2.2.alloc hHeld.2.2.2.size _⟩
        clear hK K hHeld
        have hHeld := hHeld2
        clear hHeld2
        try simp only [Act.put, List.setIfInBounds_toArray, List.set_cons_zero, List.set_cons_succ]
        refine wpAnyH_ready (rs := [5]) (by kernel_rfl) (by simp) ?_
        refine AllReadyH.cons (o := { dst := some 24, op := Op.call { callee := Callee.value (Operand.func 120), args := #[Operand.tmp 23], argTypes := #[22] }, type := _, pos := _, after := _, guard := none }) rfl (fun K hK => ?_) AllReadyH.nil
        go_simp
        go_at_call 120; refine ((F2 _)).mono ?_; rintro e wa2 ⟨v2, rfl, p1, hb1⟩
        replace P1 := hide (P1.out.keep hb1)
        replace NB := hide (NB.out.keep hb1 zR)
        replace zR := Nat.lt_of_lt_of_le zR hb1.size
        have P2 := hide p1
        clear p1
        go_wp2_with fail
        refine hK.out _ _ ?_ (fun hHeld2 => ?_)
        · exact ⟨keep_cell hb1 hHeld.2.2.1 hHeld.1, keep_cell hb1 hHeld.2.2.1 hHeld.2.1, Nat.lt_of_lt_of_le hHeld.2.2.1 hb1.size, bch hHeld.2.2.2 hb1⟩
        clear hK K hHeld
        have hHeld := hHeld2
        clear hHeld2
        try simp only [Act.put, List.setIfInBounds_toArray, List.set_cons_zero, List.set_cons_succ]
        refine wpAnyH_ready (rs := [6]) (by kernel_rfl) (by simp) ?_
        refine AllReadyH.cons (o := { dst := some 25, op := Op.call { callee := Callee.value (Operand.func 119), args := #[Operand.tmp 21, Operand.tmp 24], argTypes := #[45, 45] }, type := _, pos := _, after := _, guard := none }) rfl (fun K hK => ?_) AllReadyH.nil
        go_simp
        go_at_call 119; refine ((AD _ _ _ P1.out P2.out)).mono ?_; rintro e wa3 ⟨v3, rfl, p1, hb1⟩
        replace NB := hide (NB.out.keep hb1 zR)
        replace zR := Nat.lt_of_lt_of_le zR hb1.size
        have P3 := hide p1
        obtain ⟨s, A1, n1, c1, A2, n2, c2, xs, ys, rfl, -⟩ := p1
        go_wp2_with fail
        refine hK.out _ _ ?_ (fun hHeld2 => ?_)
        · exact ⟨keep_cell hb1 hHeld.2.2.1 hHeld.1, keep_cell hb1 hHeld.2.2.1 hHeld.2.1, Nat.lt_of_lt_of_le hHeld.2.2.1 hb1.size, bch hHeld.2.2.2 hb1⟩
        clear hK K hHeld
        have hHeld := hHeld2
        clear hHeld2
        try simp only [Act.put, List.setIfInBounds_toArray, List.set_cons_zero, List.set_cons_succ]
        refine wpAnyH_ready (rs := [8]) (by kernel_rfl) (by simp) ?_
        refine AllReadyH.cons (o := { dst := none, op := Op.store 45 (Operand.tmp 4) (Operand.tmp 25), type := _, pos := _, after := _, guard := none }) rfl (fun K hK => ?_) AllReadyH.nil
        rw [if_pos (by rfl)]
        refine wp_store_mid 45 _ _ rfl wa1.heap.size 0 #[.bool s, .slice A1 n1 c1, .slice A2 n2 c2] rfl rfl NB.out.1 (by kernel_rfl) (by simp [Value.oneCell']) ?_
        refine hK.out _ _ ?_ (fun hHeld2 => ?_)
        · exact ⟨(sc_other (by dsimp only; omega)).trans hHeld.1, (sc_other (by dsimp only; omega)).trans hHeld.2.1, by rw [sc_size]; exact hHeld.2.2.1, sc_below _ (by omega) _ _ _ hHeld.2.2.2⟩
        clear hK K hHeld
        try simp only [Act.put]
        refine wpAnyH_done (by kernel_rfl) ?_ _
        have M := sc_same (vs := [.bool s, .slice A1 n1 c1, .slice A2 n2 c2]) NB.out.1
        go_wp2_with fail
        go_meet
        exact ⟨_, s, A1, n1, c1, A2, n2, c2, rfl, hide (P3.out.cells NB.out.2 [.bool s, .slice A1 n1 c1, .slice A2 n2 c2] (by simp)), M 0 (by simp), M 1 (by simp), M 2 (by simp), by rw [sc_size]; exact zR, hHeld2.2.2.2⟩
      refine AllReadyH.cons (o := { dst := some 4, op := Op.alloc 45, type := _, pos := _, after := _, guard := none }) rfl (fun K hK => ?_) AllReadyH.nil
      go_simp
      go_wp2_with fail
      have zR : wc.drew.heap.size < (wc.drew.alloc (.cells #[.bool false, .slice none 0 0, .slice none 0 0] 45)).heap.size := by simp
      have NB := hide (Bx.new wc.drew #[.bool false, .slice none 0 0, .slice none 0 0] 45 rfl rfl (by simp))
      have zz : GB < wc.drew.heap.size := hHeld.2.2.1
      have zw : w.heap.size ≤ wc.drew.heap.size := hHeld.2.2.2.size
      refine hK.out _ _ ?_ (fun hHeld2 => ?_)
      · exact ⟨keep_cell b_one hHeld.2.2.1 hHeld.1, keep_cell b_one hHeld.2.2.1 hHeld.2.1, Nat.lt_of_lt_of_le hHeld.2.2.1 b_one.size, hHeld.2.2.2.alloc hHeld.2.2.2.size _⟩
      clear hK K hHeld
      have hHeld := hHeld2
      clear hHeld2
      try simp only [Act.put, List.setIfInBounds_toArray, List.set_cons_zero, List.set_cons_succ]
      refine wpAnyH_ready (rs := [2]) (by kernel_rfl) (by simp) ?_
      refine AllReadyH.cons (o := { dst := some 21, op := Op.call { callee := Callee.value (Operand.func 120), args := #[Operand.tmp 20], argTypes := #[22] }, type := _, pos := _, after := _, guard := none }) rfl (fun K hK => ?_) AllReadyH.nil
      go_simp
      go_at_call 120; refine ((F1 _)).mono ?_; rintro e wa1 ⟨v1, rfl, p1, hb1⟩
      replace NB := hide (NB.out.keep hb1 zR)
      replace zR := Nat.lt_of_lt_of_le zR hb1.size
      have P1 := hide p1
      clear p1
      go_wp2_with fail
      refine hK.out _ _ ?_ (fun hHeld2 => ?_)
      · exact ⟨keep_cell hb1 hHeld.2.2.1 hHeld.1, keep_cell hb1 hHeld.2.2.1 hHeld.2.1, Nat.lt_of_lt_of_le hHeld.2.2.1 hb1.size, bch hHeld.2.2.2 hb1⟩
      clear hK K hHeld
      have hHeld := hHeld2
      clear hHeld2
      try simp only [Act.put, List.setIfInBounds_toArray, List.set_cons_zero, List.set_cons_succ]
      refine wpAnyH_ready (rs := [5]) (by kernel_rfl) (by simp) ?_
      refine AllReadyH.cons (o := { dst := some 24, op := Op.call { callee := Callee.value (Operand.func 120), args := #[Operand.tmp 23], argTypes := #[22] }, type := _, pos := _, after := _, guard := none }) rfl (fun K hK => ?_) AllReadyH.nil
      go_simp
      go_at_call 120; refine ((F2 _)).mono ?_; rintro e wa2 ⟨v2, rfl, p1, hb1⟩
      replace P1 := hide (P1.out.keep hb1)
      replace NB := hide (NB.out.keep hb1 zR)
      replace zR := Nat.lt_of_lt_of_le zR hb1.size
      have P2 := hide p1
      clear p1
      go_wp2_with fail
      refine hK.out _ _ ?_ (fun hHeld2 => ?_)
      · exact ⟨keep_cell hb1 hHeld.2.2.1 hHeld.1, keep_cell hb1 hHeld.2.2.1 hHeld.2.1, Nat.lt_of_lt_of_le hHeld.2.2.1 hb1.size, bch hHeld.2.2.2 hb1⟩
      clear hK K hHeld
      have hHeld := hHeld2
      clear hHeld2
      try simp only [Act.put, List.setIfInBounds_toArray, List.set_cons_zero, List.set_cons_succ]
      refine wpAnyH_ready (rs := [6]) (by kernel_rfl) (by simp) ?_
      refine AllReadyH.cons (o := { dst := some 25, op := Op.call { callee := Callee.value (Operand.func 119), args := #[Operand.tmp 21, Operand.tmp 24], argTypes := #[45, 45] }, type := _, pos := _, after := _, guard := none }) rfl (fun K hK => ?_) AllReadyH.nil
      go_simp
      go_at_call 119; refine ((AD _ _ _ P1.out P2.out)).mono ?_; rintro e wa3 ⟨v3, rfl, p1, hb1⟩
      replace NB := hide (NB.out.keep hb1 zR)
      replace zR := Nat.lt_of_lt_of_le zR hb1.size
      have P3 := hide p1
      obtain ⟨s, A1, n1, c1, A2, n2, c2, xs, ys, rfl, -⟩ := p1
      go_wp2_with fail
      refine hK.out _ _ ?_ (fun hHeld2 => ?_)
      · exact ⟨keep_cell hb1 hHeld.2.2.1 hHeld.1, keep_cell hb1 hHeld.2.2.1 hHeld.2.1, Nat.lt_of_lt_of_le hHeld.2.2.1 hb1.size, bch hHeld.2.2.2 hb1⟩
      clear hK K hHeld
      have hHeld := hHeld2
      clear hHeld2
      try simp only [Act.put, List.setIfInBounds_toArray, List.set_cons_zero, List.set_cons_succ]
      refine wpAnyH_ready (rs := [8]) (by kernel_rfl) (by simp) ?_
      refine AllReadyH.cons (o := { dst := none, op := Op.store 45 (Operand.tmp 4) (Operand.tmp 25), type := _, pos := _, after := _, guard := none }) rfl (fun K hK => ?_) AllReadyH.nil
      rw [if_pos (by rfl)]
      refine wp_store_mid 45 _ _ rfl wc.drew.heap.size 0 #[.bool s, .slice A1 n1 c1, .slice A2 n2 c2] rfl rfl NB.out.1 (by kernel_rfl) (by simp [Value.oneCell']) ?_
      refine hK.out _ _ ?_ (fun hHeld2 => ?_)
      · exact ⟨(sc_other (by dsimp only; omega)).trans hHeld.1, (sc_other (by dsimp only; omega)).trans hHeld.2.1, by rw [sc_size]; exact hHeld.2.2.1, sc_below _ (by omega) _ _ _ hHeld.2.2.2⟩
      clear hK K hHeld
      try simp only [Act.put]
      refine wpAnyH_done (by kernel_rfl) ?_ _
      have M := sc_same (vs := [.bool s, .slice A1 n1 c1, .slice A2 n2 c2]) NB.out.1
      go_wp2_with fail
      go_meet
      exact ⟨_, s, A1, n1, c1, A2, n2, c2, rfl, hide (P3.out.cells NB.out.2 [.bool s, .slice A1 n1 c1, .slice A2 n2 c2] (by simp)), M 0 (by simp), M 1 (by simp), M 2 (by simp), by rw [sc_size]; exact zR, hHeld2.2.2.2⟩
    case rest =>
    clear y0 y1 zy g F1 F2 AD
    obtain ⟨GR, s, A1, n1, c1, A2, n2, c2, rfl, P3, x0, x1, x2, zx, g⟩ := hcut
    go_upto_region 11 with fail
    refine wp_region_held_drew (S := fun wx => wx.cell? ⟨GR, 0, none⟩ = some (.bool s) ∧ wx.cell? ⟨GR, 1, none⟩ = some (.slice A1 n1 c1) ∧ wx.cell? ⟨GR, 2, none⟩ = some (.slice A2 n2 c2) ∧ GR < wx.heap.size ∧ Below w.heap.size w wx) (by kernel_rfl) ?_ (fun hHeld => ?_)
    · (((try dsimp only); (repeat' apply And.intro) <;> first | assumption | (simp [*]; done) | exact Below.drew (by assumption) | exact keep_cell hb1 (by first | (dsimp only; omega) | (simp; omega)) (by simp [*]) | (have := hb1.size; omega) | (have := hb1.size; simp at this; omega) | exact bch (by simp [*]) hb1 | exact bch (Below.drew (by simp [*])) hb1))
    refine wpAnyH_take (i := 0) (oi := { dst := some 26, op := Op.load 45 (Operand.tmp 4), type := _, pos := _, after := _, guard := none }) (v := ?_) rfl (by kernel_rfl) (by kernel_rfl) (by kernel_rfl) (fun _ _ _ h => h) (Or.inl ⟨by rfl, ?_⟩) (by assumption) ?_
    rotate_left
    · intro w hSw; (try dsimp only at hSw); go_simp
      try with_reducible rfl
    try simp only [Act.put, List.setIfInBounds_toArray, List.set_cons_zero, List.set_cons_succ]
    refine wpAnyH_ready (rs := [1]) (by kernel_rfl) (by simp) ?_
    refine AllReadyH.cons (o := { dst := some 27, op := Op.call { callee := Callee.value (Operand.func 122), args := #[Operand.const (Value.int IntKind.i64 2)], argTypes := #[3] }, type := _, pos := _, after := _, guard := none }) rfl (fun K hK => ?_) AllReadyH.nil
    go_simp
    go_at_call 122; refine (I2 _).mono ?_; rintro e w' ⟨v2, rfl, p1, hb1⟩; replace P3 := (by first | exact hide (P3.out.keep hb1) | exact hide ((P3.out.keep b_drew).keep hb1)); have P4 := hide (p1.more (B' := 774) (by decide)); clear p1
    go_wp2_with fail
    refine hK.out _ _ ?_ (fun hHeld2 => ?_)
    · (((try dsimp only); (repeat' apply And.intro) <;> first | assumption | (simp [*]; done) | exact Below.drew (by assumption) | exact keep_cell hb1 (by first | (dsimp only; omega) | (simp; omega)) (by simp [*]) | (have := hb1.size; omega) | (have := hb1.size; simp at this; omega) | exact bch (by simp [*]) hb1 | exact bch (Below.drew (by simp [*])) hb1))
    clear hK K hHeld
    have hHeld := hHeld2
    clear hHeld2
    try simp only [Act.put, List.setIfInBounds_toArray, List.set_cons_zero, List.set_cons_succ]
    refine wpAnyH_ready (rs := [2]) (by kernel_rfl) (by simp) ?_
    refine AllReadyH.cons (o := { dst := some 28, op := Op.call { callee := Callee.value (Operand.func 121), args := #[Operand.tmp 26, Operand.tmp 27], argTypes := #[45, 45] }, type := _, pos := _, after := _, guard := none }) rfl (fun K hK => ?_) AllReadyH.nil
    go_simp
    go_at_call 121; refine (QU _ _ _ P3.out P4.out).mono ?_; rintro e w' ⟨v3, rfl, p1, hb1⟩; have P5 := hide p1; clear p1 P3 P4
    go_wp2_with fail
    refine hK.out _ _ ?_ (fun hHeld2 => ?_)
    · (((try dsimp only); (repeat' apply And.intro) <;> first | assumption | (simp [*]; done) | exact Below.drew (by assumption) | exact keep_cell hb1 (by first | (dsimp only; omega) | (simp; omega)) (by simp [*]) | (have := hb1.size; omega) | (have := hb1.size; simp at this; omega) | exact bch (by simp [*]) hb1 | exact bch (Below.drew (by simp [*])) hb1))
    clear hK K hHeld
    have hHeld := hHeld2
    clear hHeld2
    try simp only [Act.put, List.setIfInBounds_toArray, List.set_cons_zero, List.set_cons_succ]
    refine wpAnyH_ready (rs := [3]) (by kernel_rfl) (by simp) ?_
    refine AllReadyH.cons (o := { dst := some 29, op := Op.call { callee := Callee.value (Operand.func 97), args := #[Operand.const (Value.int IntKind.i64 0), Operand.tmp 28], argTypes := #[3, 45] }, type := _, pos := _, after := _, guard := none }) rfl (fun K hK => ?_) AllReadyH.nil
    go_simp
    go_at_call 97; refine (BN _ _ P5.out).mono ?_; rintro e w' ⟨rfl, hb1⟩; clear P5
    go_wp2_with fail
    refine hK.out _ _ ?_ (fun hHeld2 => ?_)
    · (((try dsimp only); (repeat' apply And.intro) <;> first | assumption | (simp [*]; done) | exact Below.drew (by assumption) | exact keep_cell hb1 (by first | (dsimp only; omega) | (simp; omega)) (by simp [*]) | (have := hb1.size; omega) | (have := hb1.size; simp at this; omega) | exact bch (by simp [*]) hb1 | exact bch (Below.drew (by simp [*])) hb1))
    clear hK K hHeld
    have hHeld := hHeld2
    clear hHeld2
    try simp only [Act.put, List.setIfInBounds_toArray, List.set_cons_zero, List.set_cons_succ]
    refine wpAnyH_take (i := 4) (oi := { dst := some 2, op := Op.assign (Operand.tmp 29), type := _, pos := _, after := _, guard := none }) (v := ?_) rfl (by kernel_rfl) (by kernel_rfl) (by kernel_rfl) (fun _ _ _ h => h) (Or.inl ⟨by rfl, ?_⟩) (by assumption) ?_
    rotate_left
    · intro w hSw; (try dsimp only at hSw); go_simp
      try with_reducible rfl
    try simp only [Act.put, List.setIfInBounds_toArray, List.set_cons_zero, List.set_cons_succ]
    refine wpAnyH_done (by kernel_rfl) ?_ _
    have G9 := hHeld.2.2.2.2
    clear hHeld x0 x1 x2 zx g I2 QU BN
    go_step
    go_step
    go_step
    go_ret
    exact ⟨_, rfl, fun _ _ => HZ.out.symm, G9⟩
  · have H := hide (HL.out.2 rfl)
    clear HF HL HC
    go_wp2
    go_ret
    exact ⟨9218868437227405311, rfl, fun _ h => by have := H.out; omega, g⟩
  · have H := hide (HL.out.1 rfl)
    clear HF HL HC
    go_wp2
    go_ret
    exact ⟨18442240474082181119, rfl, fun h _ => by have := H.out; omega, g⟩
  · have H := hide (HL.out.1 rfl)
    clear HF HL HC
    go_wp2
    go_ret
    exact ⟨0, rfl, fun h _ => by have := H.out; omega, g⟩
end Go.Proofs.Ytljnadoodbninaa
