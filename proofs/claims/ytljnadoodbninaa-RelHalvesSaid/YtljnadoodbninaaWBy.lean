/- Contract of the reference's By: quotient and rest, word by word. -/
import Derived.Test.YtljnadoodbninaaWSub
import Derived.Test.YtljnadoodbninaaWLen
namespace Vg
theorem by_end {N D Q R p : Nat} (hp : 0 < p) (hD : 0 < D) (e : N * p = Q * (D * p) + R) (h : R < D * p) : Q = N / D ∧ R / p = N % D := by
  have h0 : 0 < D * p := Nat.mul_pos hD hp
  have e1 : N * p / (D * p) = Q := by rw [e, Nat.mul_comm Q, Nat.mul_add_div h0, Nat.div_eq_of_lt h, Nat.add_zero]
  have e2 : N * p % (D * p) = R := by rw [e, Nat.mul_comm Q, Nat.mul_add_mod, Nat.mod_eq_of_lt h]
  rw [Nat.mul_div_mul_right _ _ hp] at e1
  rw [Nat.mul_mod_mul_right] at e2
  exact ⟨e1.symm, by rw [← e2, Nat.mul_div_cancel _ hp]⟩
/-- The words of a number, one place up. -/
theorem shift_nat {zt rs : List Nat} {K u : Nat} (hK : rs.length = K + 1) (hz : zt.length = K + 1) (h0 : nat32 rs < P32 K) (hu : ∀ h : 0 < zt.length, zt[0] = u) (hs : ∀ p (h : p < zt.length) (h' : p - 1 < rs.length), 1 ≤ p → zt[p] = rs[p - 1]) : nat32 zt = u + 4294967296 * nat32 rs := by
  have e : zt = u :: rs.take K := by
    refine List.ext_getElem (by simp; omega) fun i h1 h2 => ?_
    rcases i with _ | i
    · rw [hu (by omega)]; rfl
    · rw [hs (i + 1) h1 (by omega) (by omega)]
      simp
  have t := nat32_snoc (xs := rs) (i := K) (by omega)
  rw [List.take_of_length_le (by omega)] at t
  have : rs[K] = 0 := by
    refine Classical.byContradiction fun c => ?_
    have := Nat.le_mul_of_pos_right (P32 K) (show 0 < rs[K] by omega)
    omega
  rw [this, Nat.mul_zero, Nat.add_zero] at t
  rw [e, nat32, ← t]
/-- The words above t are moved up by one place, those up to t are as they were. -/
def Shf (t : Nat) (zt rs : List Nat) : Prop := ∀ p (h : p < zt.length) (h' : p < rs.length), (t < p → zt[p] = rs[p - 1]'(by omega)) ∧ (p ≤ t → zt[p] = rs[p])
theorem by_round {us qs zt rs : List Nat} {j d x V R : Nat} (hu : j < us.length) (hq : j < qs.length) (hx : us[j] = x) (h1 : nat32 (us.drop (j + 1)) = nat32 (qs.drop (j + 1)) * V + nat32 rs) (h2 : x + 4294967296 * nat32 rs = R) (h3 : nat32 zt + d * V = R) :
    nat32 (us.drop j) = nat32 ((qs.set j d).drop j) * V + nat32 zt := by
  have l : j < (qs.set j d).length := by rw [List.length_set]; exact hq
  rw [nat32_drop hu, nat32_drop l, hx, h1, List.getElem_set_self, List.drop_set_of_lt (by omega), Nat.add_mul, Nat.mul_add, ← Nat.mul_assoc]
  omega
end Vg
namespace Go.Proofs.Ytljnadoodbninaa
open Go.RowKit
def TBy (N D B : Nat) (w : World) (e : Ending) (w' : World) : Prop :=
  ∃ v1 v2 ys zs, e = .returned (.tuple #[v1, v2]) ∧ (Rw w' v1 ys ∧ Vg.nat32 ys = N / D ∧ ys.length ≤ B) ∧ (Rw w' v2 zs ∧ Vg.nat32 zs = N % D ∧ Vg.WL zs zs.length ∧ zs.length ≤ B) ∧ Below w.heap.size w w'
set_option maxRecDepth 20000 in
set_option maxHeartbeats 16000000 in
theorem by_any (a b : Value) (xs ys : List Nat) (w : World) (ha : Rw w a xs) (hb : Rw w b ys) (hl : xs.length + ys.length ≤ 1099511627776) (hD : 0 < Vg.nat32 ys) : Calls Try.prog 136 #[a, b] w (TBy (Vg.nat32 xs) (Vg.nat32 ys) (xs.length + ys.length + 3) w) := by
  have hinfo := info32
  have BD : Vg.blen (Vg.nat32 ys) ≤ 35184372088832 := Nat.le_trans (Vg.blen_le (Vg.nat32_lt ys hb.1)) (by omega)
  have CM := cmp_any a b xs ys w ha hb (by omega) (by omega)
  have NR := fun (w' : World) (h : Below w.heap.size w w') => norm_any a xs w' (ha.keep h) (by omega)
  have LN := fun (w' : World) (h : Below w.heap.size w w') => len_any b ys w' (hb.keep h) (by omega)
  have LA := fun (s : Nat) (hs : s ≤ 31) (w' : World) (h : Below w.heap.size w w') => left_any a xs s w' (ha.keep h) (by omega)
  have LB := fun (s : Nat) (hs : s ≤ 31) (w' : World) (h : Below w.heap.size w w') => left_any b ys s w' (hb.keep h) (by omega)
  obtain ⟨N, hN⟩ : ∃ n, Vg.nat32 xs = n := ⟨_, rfl⟩
  obtain ⟨D, hDD⟩ : ∃ n, Vg.nat32 ys = n := ⟨_, rfl⟩
  rw [hN, hDD] at CM
  rw [hN] at NR LA ⊢
  rw [hDD] at LN LB BD ⊢
  have HD := hide (show 0 < D ∧ Vg.blen D ≤ 35184372088832 from ⟨hDD ▸ hD, BD⟩)
  obtain ⟨l1, e1⟩ : ∃ n, xs.length = n := ⟨_, rfl⟩
  obtain ⟨l2, e2⟩ : ∃ n, ys.length = n := ⟨_, rfl⟩
  rw [e1] at NR LA ⊢
  rw [e2] at LB ⊢
  have HE := hide (show l1 + l2 ≤ 1099511627776 by rw [← e1, ← e2]; exact hl)
  clear ha hb hl hD hN hDD e1 e2 BD
  go_enter Try.func136, Try.ntmps136
  go_wp2_with fail
  refine CM.mono ?_; rintro e w1 ⟨rfl, hb1⟩
  have G1 := hide hb1
  clear hb1 CM
  by_cases hc : N < D
  · have t0 : cmpz N D = -1 := cmpz_lt hc
    rw [t0]
    have R := hide (show N / D = 0 ∧ N % D = N from ⟨Nat.div_eq_of_lt hc, Nat.mod_eq_of_lt hc⟩)
    clear hc t0 LN LA LB
    go_wp2_with fail
    refine (NR _ G1.out).mono ?_; rintro e w2 ⟨v, zs, rfl, h1, h2, h3, h4, hb⟩
    have H := hide (show _ ∧ _ ∧ _ ∧ _ ∧ _ from ⟨h1, h2, h3, h4, bch G1.out hb⟩)
    clear h1 h2 h3 h4 hb NR
    go_wp2
    go_ret2
    exact ⟨_, _, [], zs, rfl, ⟨⟨by (intro b hb; cases hb), .inl ⟨rfl, _, _, rfl⟩⟩, by rw [R.out.1]; rfl, Nat.zero_le _⟩, ⟨H.out.1, by rw [R.out.2]; exact H.out.2.1, H.out.2.2.1, by have := H.out.2.2.2.1; omega⟩, H.out.2.2.2.2⟩
  have t0 : cmpz N D = 0 ∨ cmpz N D = 1 := by
    rcases Nat.lt_or_ge D N with h | h
    · exact .inr (cmpz_gt h)
    · exact .inl (cmpz_eq (by omega))
  obtain ⟨cz, hcz⟩ : ∃ c, cmpz N D = c := ⟨_, rfl⟩
  rw [hcz] at t0 ⊢
  have t1 : ¬ cz < 0 := by omega
  clear t0 hcz NR
  go_wp2_with fail
  refine (LN _ G1.out).mono ?_; rintro e w1' ⟨rfl, hb⟩
  have G1 := hide (bch G1.out hb)
  obtain ⟨k, hk, hk1, hk2⟩ := Vg.blen_pos HD.out.1
  have hkb : k ≤ 35184372088832 := by have := HD.out.2; omega
  obtain ⟨bl, hbl⟩ : ∃ bl, Vg.blen D = bl := ⟨_, rfl⟩
  rw [hbl] at hk ⊢
  obtain ⟨s, hs⟩ : ∃ s, 31 - k % 32 = s := ⟨_, rfl⟩
  have r1 : IntKind.i64.wrap ((bl : Int) - 1) = (k : Int) := by rw [IntWalk.i64_in _ (by omega)]; omega
  have r2 : (k : Int).tmod 32 = ((k % 32 : Nat) : Int) := by rw [Int.tmod_eq_emod_of_nonneg (by omega)]; omega
  have r3 : IntKind.i64.wrap ((k % 32 : Nat) : Int) = ((k % 32 : Nat) : Int) := IntWalk.i64_in _ (by omega)
  have r4 : IntKind.i64.wrap (31 - ((k % 32 : Nat) : Int)) = (s : Int) := by rw [IntWalk.i64_in _ (by omega)]; omega
  obtain ⟨k32, hk32⟩ : ∃ j, k % 32 = j := ⟨_, rfl⟩
  rw [hk32] at r2 r3 r4
  have hs31 : s ≤ 31 := by omega
  clear hbl hk hk1 hk2 hkb hk32 hs hb LN
  go_wp2_with fail
  refine (LA s hs31 _ G1.out).mono ?_; rintro e w2 ⟨v1, us, rfl, h1, h2, h3, h4, hb⟩
  have G2 := hide (bch G1.out hb)
  obtain ⟨A1, c1, rfl⟩ := h1.len
  obtain ⟨L, hL⟩ : ∃ L, us.length = L := ⟨_, rfl⟩
  have U0 := hide (show Rw w2 (.slice A1 us.length c1) us ∧ Vg.nat32 us = N * 2 ^ s ∧ us.length ≤ l1 + 1 from ⟨h1, h2, by omega⟩)
  clear h1 h2 h3 h4 hb LA
  go_wp2_with fail
  refine (LB s hs31 _ G2.out).mono ?_; rintro e w3 ⟨v2, vs, rfl, h1, h2, h3, h4, hb⟩
  have G3 := hide (bch G2.out hb)
  obtain ⟨A2, c2, rfl⟩ := h1.len
  obtain ⟨M, hM⟩ : ∃ M, vs.length = M := ⟨_, rfl⟩
  have HU := hide (show Rw w3 (.slice A1 L c1) us ∧ Vg.nat32 us = N * 2 ^ s ∧ us.length = L ∧ L ≤ l1 + 1 from ⟨hL ▸ U0.out.1.keep hb, U0.out.2.1, hL, by rw [← hL]; exact U0.out.2.2⟩)
  have HV := hide (show Rw w3 (.slice A2 M c2) vs ∧ Vg.nat32 vs = D * 2 ^ s ∧ vs.length = M ∧ M ≤ l2 + 1 ∧ Vg.WL vs vs.length from ⟨hM ▸ h1, h2, hM, by omega, h3⟩)
  rw [hM]
  clear h1 h2 h3 h4 hb LB U0 hL hM G2
  obtain ⟨V, hV⟩ : ∃ V, D * 2 ^ s = V := ⟨_, rfl⟩
  have HVV := hide hV
  have hVpos := hide (show 0 < V from hV ▸ Nat.mul_pos HD.out.1 (Nat.two_pow_pos _))
  obtain ⟨m, hm⟩ : ∃ m, M = m + 1 := ⟨M - 1, by
    rcases Nat.eq_zero_or_pos M with h | h
    · have e := HV.out.2.1
      rw [List.eq_nil_of_length_eq_zero (HV.out.2.2.1.trans h), hV] at e
      have := hVpos.out
      simp [Vg.nat32] at e
      omega
    · omega⟩
  have HM := hide hm
  obtain ⟨K, hK⟩ : ∃ K, M + 1 = K := ⟨_, rfl⟩
  have HK := hide (show M + 1 = K ∧ K ≤ 1099511627781 ∧ L ≤ 1099511627781 from ⟨hK, by have := HV.out.2.2.2.1; have := HE.out; omega, by have := HU.out.2.2.2; have := HE.out; omega⟩)
  have r5 : IntKind.i64.wrap ((M : Int) + 1) = (K : Nat) := by rw [IntWalk.i64_in _ (by have := HK.out; omega)]; omega
  have mq := fun w => run_make_row' (P := Try.prog) 43 78 (.int .u32 0) 4 Try.underlying43 hinfo rfl .i64 .i64 L (by have := HK.out; omega) (by have := HK.out; omega) w
  have mr := fun w => run_make_row' (P := Try.prog) 43 78 (.int .u32 0) 4 Try.underlying43 hinfo rfl .i64 .i64 K (by have := HK.out; omega) (by have := HK.out; omega) w
  have OQ := hide (show Ow w3 (w3.alloc (.cells (madeCells #[.int .u32 0] L) 78)) w3.heap.size L (List.replicate L 0) from ⟨made_own (Nat.le_refl _) (by have := HK.out; omega), List.length_replicate, Vg.Wd.rep _, Nat.le_refl _, (Below.refl _ _).alloc (Nat.le_refl _) _⟩)
  have OR := hide (show Ow w3 ((w3.alloc (.cells (madeCells #[.int .u32 0] L) 78)).alloc (.cells (madeCells #[.int .u32 0] K) 78)) (w3.heap.size + 1) K (List.replicate K 0) from by
    have h := made_own (w := w3) (w1 := w3.alloc (.cells (madeCells #[.int .u32 0] L) 78)) (K := K) (by simp) (by have := HK.out; omega)
    have e : (w3.alloc (.cells (madeCells #[.int .u32 0] L) 78)).heap.size = w3.heap.size + 1 := by simp
    rw [e] at h
    exact ⟨h, List.length_replicate, Vg.Wd.rep _, by omega, b_two⟩)
  have OQ := hide (OQ.out.below (b_one (o := .cells (madeCells #[.int .u32 0] K) 78)))
  have r6 : IntKind.i64.wrap ((L : Int) - 1) = (L : Int) - 1 := IntWalk.i64_in _ (by have := HK.out; omega)
  have r7 : IntKind.i64.wrap ((K : Int) - 1) = (M : Int) := by rw [IntWalk.i64_in _ (by have := HK.out; omega)]; have := HK.out; omega
  clear hinfo hm hK hV
  go_wp2_with fail
  obtain ⟨GQ, hGQ⟩ : ∃ G, w3.heap.size = G := ⟨_, rfl⟩
  obtain ⟨GR, hGR⟩ : ∃ G, GQ + 1 = G := ⟨_, rfl⟩
  have hne : GQ ≠ GR := by omega
  rw [hGQ] at OQ
  rw [hGQ, hGR] at OR
  rw [hGQ, hGR]
  have HG := hide hne
  clear hne hGQ hGR mq mr
  go_loopg [11] L (fun k ii wr => ∃ (qs rs : List Nat), ii = .int .i64 ((k : Int) - 1) ∧ Hid (k ≤ L) ∧ Hid (Ow w3 wr GQ L qs ∧ Ow w3 wr GR K rs) ∧ Hid (Vg.nat32 (us.drop k) = Vg.nat32 (qs.drop k) * V + Vg.nat32 rs ∧ Vg.nat32 rs < V))
  case atStart => exact ⟨_, _, rfl, hide (Nat.le_refl _), hide ⟨OQ.out, OR.out⟩, hide ⟨by rw [List.drop_of_length_le (by have := HU.out; omega), List.drop_of_length_le (by simp), Vg.nat32_zeros]; simp [Vg.nat32], by rw [Vg.nat32_zeros]; exact hVpos.out⟩⟩
  case round =>
    clear OQ OR r6
    obtain ⟨qs, rs, rfl, HK1, HO, HE1⟩ := hrel
    by_cases c : (0 : Int) ≤ (gk : Int) - 1
    · obtain ⟨j, rfl⟩ : ∃ j, gk = j + 1 := ⟨gk - 1, by omega⟩
      have ej : ((j + 1 : Nat) : Int) - 1 = (j : Int) := by omega
      rw [ej]
      have hju : j < us.length := by have := HU.out; have := HK1.out; omega
      obtain ⟨g, o, hA, hcell⟩ := HU.out.1.at hju
      obtain ⟨x, hx⟩ : ∃ x, us[j] = x := ⟨_, rfl⟩
      rw [hx] at hcell
      obtain rfl : A1 = some ⟨g, o, none⟩ := hA _ _ (by rw [HU.out.2.2.1])
      have hxb : x < 4294967296 := by rw [← hx]; exact HU.out.1.1.at hju
      have hjL : (j : Int) < L := by have := HK1.out; omega
      have ewj : IntKind.i64.wrap ((j : Int) - 1) = (j : Int) - 1 := IntWalk.i64_in _ (by have := HK.out; have := HK1.out; omega)
      have HX := hide (show us[j] = x ∧ x < 4294967296 ∧ j + 1 ≤ L from ⟨hx, hxb, HK1.out⟩)
      have HC := hide hcell
      clear hA hcell hx hxb HK1 ej c
      go_wp2_with fail
      go_loopg [12] M (fun t jj w1 => ∃ zt : List Nat, jj = .int .i64 t ∧ Hid (t ≤ M) ∧ Hid (Ow w3 w1 GQ L qs ∧ Ow w3 w1 GR K zt) ∧ Hid (Vg.Shf t zt rs))
      case atStart => exact ⟨rs, rfl, hide (Nat.le_refl _), HO, hide fun p h h' => ⟨fun hp => absurd h (by have := HO.out.2.2.1; have := HK.out; omega), fun _ => rfl⟩⟩
      case round =>
        obtain ⟨zt, rfl, HT, HP, HS⟩ := hrel
        have hlz := HP.out.2.2.1
        have hlr := HO.out.2.2.1
        by_cases c : (0 : Int) < gk
        · obtain ⟨t, rfl⟩ : ∃ t, gk = t + 1 := ⟨gk - 1, by omega⟩
          obtain ⟨T, hT⟩ : ∃ T, t + 1 = T := ⟨_, rfl⟩
          rw [hT] at c ⊢
          have ewt : IntKind.i64.wrap ((T : Int) - 1) = (t : Int) := by rw [IntWalk.i64_in _ (by have := HT.out; have := HK.out; omega)]; omega
          have htz : t < zt.length := by have := HT.out; have := HK.out; omega
          obtain ⟨z, hz⟩ : ∃ z, zt[t] = z := ⟨_, rfl⟩
          have hzr := (HS.out t htz (by omega)).2 (by omega)
          have hzb : z < 4294967296 := by rw [← hz]; exact HP.out.2.2.2.1.at htz
          have hcz := HP.out.2.cell htz hz
          have f1 := HP.out.2.free T
          have k1 : (t : Int) < K := by omega
          have k2 : (T : Int) < K := by have := HT.out; have := HK.out; omega
          have HQ := hide (show Ow w3 (wr.setCell ⟨GR, T, none⟩ (.int .u32 z)) GQ L qs ∧ Ow w3 (wr.setCell ⟨GR, T, none⟩ (.int .u32 z)) GR K (zt.set T z) from ⟨HP.out.1.far HP.out.2 HG.out T _, HP.out.2.set T hzb⟩)
          have hTz : T < zt.length := by have := HT.out; have := HK.out; omega
          obtain ⟨zT, hzT⟩ : ∃ z, zt[T] = z := ⟨_, rfl⟩
          have hcT := HP.out.2.cell hTz hzT
          have HR := hide (show Vg.Shf t (zt.set T z) rs from by
            intro p h h'
            have h2 : p < zt.length := by simpa using h
            have o := HS.out p h2 h'
            constructor
            · intro hp
              by_cases e : p = T
              · subst e
                rw [List.getElem_set_self, ← hz, hzr]
                congr 1; omega
              · rw [List.getElem_set_ne (by omega)]; exact o.1 (by omega)
            · intro hp
              rw [List.getElem_set_ne (by omega)]; exact o.2 (by omega))
          have HT2 := hide (show t ≤ M ∧ t < t + 1 from ⟨by have := HT.out; omega, by omega⟩)
          clear HS HP HT hz hzr hzb htz hlz hlr hT hTz hzT
          go_wp2
          go_roundg t
          case measure => exact HT2.out.2
          case rel => exact ⟨zt.set T z, rfl, hide HT2.out.1, HQ, HR⟩
        · obtain rfl : gk = 0 := by omega
          have hc : wr.cell? ⟨g, o + j, none⟩ = some (.int .u32 (x : Nat)) := keep_cell HP.out.1.2.2.2.2 HC.out.1 HC.out.2
          have h0z : 0 < zt.length := by have := HK.out; omega
          obtain ⟨z0, hz0⟩ : ∃ z, zt[0] = z := ⟨_, rfl⟩
          have hcz := HP.out.2.cell h0z hz0
          have f0 := HP.out.2.free 0
          have k0 : (0 : Int) < K := by have := HK.out; omega
          have HQ := hide (show Ow w3 (wr.setCell ⟨GR, 0, none⟩ (.int .u32 x)) GQ L qs ∧ Ow w3 (wr.setCell ⟨GR, 0, none⟩ (.int .u32 x)) GR K (zt.set 0 x) from ⟨HP.out.1.far HP.out.2 HG.out 0 _, HP.out.2.set 0 HX.out.2.1⟩)
          have e0 : Vg.nat32 (zt.set 0 x) = x + 4294967296 * Vg.nat32 rs := by
            refine Vg.shift_nat (K := M) (by have := HK.out; omega) (by rw [List.length_set]; have := HK.out; omega) ?_ (fun h => by rw [List.getElem_set_self]) (fun p h h' hp => ?_)
            · have a := HE1.out.2
              have b := Vg.nat32_lt vs HV.out.1.1
              rw [HV.out.2.2.1, HV.out.2.1, HVV.out] at b
              omega
            · rw [List.getElem_set_ne (by omega)]
              have h2 : p < zt.length := by simpa using h
              by_cases hpr : p < rs.length
              · exact (HS.out p h2 hpr).1 (by omega)
              · omega
          obtain ⟨R', hR'⟩ : ∃ R', x + 4294967296 * Vg.nat32 rs = R' := ⟨_, rfl⟩
          rw [hR'] at e0
          have HR := hide (show x + 4294967296 * Vg.nat32 rs = R' ∧ R' < V * 4294967296 ∧ Vg.nat32 (zt.set 0 x) = R' from ⟨hR', by have := HE1.out.2; have := HX.out.2.1; omega, e0⟩)
          have HE2 := hide HE1.out.1
          have hlq := hide (show qs.length = L from HP.out.1.2.1)
          clear hz0 h0z hlz hlr hR' e0 HS HE1 HP HO HT
          go_wp2_with fail
          clear hc hcz f0 k0
          go_loopg [13] R' (fun mm dd w1 => ∃ (d : Nat) (zt : List Nat), dd = .int .u64 d ∧ Hid (Vg.nat32 zt = mm ∧ mm + d * V = R') ∧ Hid (Ow w3 w1 GQ L qs ∧ Ow w3 w1 GR K zt))
          case atStart => exact ⟨0, _, rfl, hide ⟨HR.out.2.2, by rw [Nat.zero_mul, Nat.add_zero]⟩, HQ⟩
          case round =>
            clear HQ
            obtain ⟨d, zt, rfl, HD1, HP⟩ := hrel
            have CMx := cmp_any _ _ zt vs wr HP.out.2.rw (HV.out.1.keep HP.out.2.2.2.2.2) (by have := HP.out.2.2.1; have := HK.out; omega) (by have := HV.out.2.2.1; have := HK.out; omega)
            rw [HD1.out.1, HV.out.2.1, HVV.out] at CMx
            go_wp2_with fail
            refine CMx.mono ?_; rintro e w5 ⟨rfl, hb⟩
            have HP := hide (show _ ∧ _ from ⟨HP.out.1.below hb, HP.out.2.below hb⟩)
            clear hb CMx
            by_cases cv : V ≤ gk
            · obtain ⟨cz2, hcz2⟩ : ∃ z, cmpz gk V = z := ⟨_, rfl⟩
              have tz : decide ((0 : Int) ≤ cz2) = true := decide_eq_true (by
                rw [← hcz2]
                rcases Nat.lt_or_ge V gk with h | h
                · rw [cmpz_gt h]; decide
                · rw [cmpz_eq (by omega)]; decide)
              have GU := guess_any _ _ zt vs m w5 HP.out.2.rw (HV.out.1.keep HP.out.2.2.2.2.2) (by rw [HV.out.2.2.1]; exact HM.out) (by rw [HP.out.2.2.1]; have := HK.out; have := HM.out; omega) (by have := HK.out; have := HM.out; omega) (by rw [HD1.out.1, HV.out.2.1, HVV.out]; exact cv) (by rw [HD1.out.1, HV.out.2.1, HVV.out]; have := HD1.out.2; have := HR.out.2.1; omega)
              rw [hcz2]
              clear hcz2 cv
              go_wp2_with fail
              refine GU.mono ?_; rintro e w6 ⟨x2, rfl, hx2, hb⟩
              have HP := hide (show _ ∧ _ from ⟨HP.out.1.below hb, HP.out.2.below hb⟩)
              have SB := sub_any w3 w6 GR K zt _ vs x2 HP.out.2 HV.out.1 hx2.2.1 (by have := HV.out.2.2.1; have := HK.out; omega) (by have := HK.out; omega) hx2.2.2
              rw [HD1.out.1, HV.out.2.1, HVV.out] at SB hx2
              have HX2 := hide hx2
              clear hb hx2 GU tz
              go_wp2_with fail
              refine SB.mono ?_; rintro e w7 ⟨zs', rfl, hO', hn', hg⟩
              have HP := hide (show Ow w3 w7 GQ L qs ∧ Ow w3 w7 GR K zs' from ⟨HP.out.1.grown hg HG.out hO'.2.2.2.1, hO'⟩)
              obtain ⟨d2, hd2⟩ : ∃ d2, d + x2 = d2 := ⟨_, rfl⟩
              have HN2 := hide (show Vg.nat32 zs' < gk ∧ Vg.nat32 zs' + d2 * V = R' ∧ d2 < 4294967296 from by
                have h1 := HX2.out
                have h2 := HD1.out.2
                have h3 := Nat.mul_le_mul_right V h1.1
                have hV := hVpos.out
                have e : Vg.nat32 zs' + d2 * V = R' := by rw [hn', ← hd2, Nat.add_mul]; omega
                refine ⟨by rw [hn']; omega, e, ?_⟩
                refine Classical.byContradiction fun cc => ?_
                have k1 := Nat.mul_le_mul_right V (show 4294967296 ≤ d2 by omega)
                have k2 := HR.out.2.1
                rw [Nat.mul_comm 4294967296] at k1
                omega)
              have ud : IntKind.u64.wrap ((d : Int) + x2) = (d2 : Int) := by rw [IntKind.wrap_u64]; have := HN2.out.2.2; omega
              clear hO' hn' hg SB hd2 HX2 HD1
              go_wp2
              go_roundg (Vg.nat32 zs')
              case measure => exact HN2.out.1
              case rel => exact ⟨d2, zs', rfl, hide ⟨rfl, HN2.out.2.1⟩, HP⟩
            · have hm1 : cmpz gk V = -1 := cmpz_lt (by omega)
              rw [hm1]
              have HD2 := hide (show d < 4294967296 ∧ Vg.nat32 zt < V ∧ Vg.nat32 zt + d * V = R' from by
                have h := HD1.out
                refine ⟨?_, by omega, by rw [h.1]; exact h.2⟩
                refine Classical.byContradiction fun cc => ?_
                have k1 := Nat.mul_le_mul_right V (show 4294967296 ≤ d by omega)
                have k2 := HR.out.2.1
                rw [Nat.mul_comm 4294967296] at k1
                omega)
              have w32 := wrap32_nat HD2.out.1
              obtain ⟨zq, hzq⟩ : ∃ z, qs[j]'(by have := hlq.out; omega) = z := ⟨_, rfl⟩
              have hcq := HP.out.1.cell (by have := hlq.out; omega) hzq
              have f2 := HP.out.1.free j
              have HF := hide (show Ow w3 (w5.setCell ⟨GQ, j, none⟩ (.int .u32 d)) GQ L (qs.set j d) ∧ Ow w3 (w5.setCell ⟨GQ, j, none⟩ (.int .u32 d)) GR K zt from ⟨HP.out.1.set j HD2.out.1, HP.out.2.far HP.out.1 HG.out.symm j _⟩)
              have HT2 := hide (show Vg.nat32 (us.drop j) = Vg.nat32 ((qs.set j d).drop j) * V + Vg.nat32 zt from Vg.by_round hju (by have := hlq.out; omega) HX.out.1 HE2.out HR.out.1 HD2.out.2.2)
              clear hzq hm1 cv HP HD1
              go_wp2
              go_roundg j
              case measure => omega
              case rel => exact ⟨qs.set j d, zt, rfl, hide (by have := HX.out.2.2; omega), HF, hide ⟨HT2.out, HD2.out.2.1⟩⟩
    · obtain rfl : gk = 0 := by omega
      have RT := right_any _ rs s wr HO.out.2.rw (by have := HO.out.2.2.1; have := HK.out; omega) (by omega)
      have hfin := hide (Vg.by_end (N := N) (D := D) (Q := Vg.nat32 qs) (R := Vg.nat32 rs) (p := 2 ^ s) (Nat.two_pow_pos _) HD.out.1 (by
        have h := HE1.out.1
        rw [List.drop_zero, List.drop_zero, HU.out.2.1] at h
        rw [HVV.out]; exact h) (by rw [HVV.out]; exact HE1.out.2))
      rw [hfin.out.2, HO.out.2.2.1] at RT
      have G4 := hide (bch G3.out HO.out.1.2.2.2.2)
      clear HE1 c
      go_wp2_with fail
      refine RT.mono ?_; rintro e w8 ⟨v8, zs, b8, rfl, h1, h2, h3, h4, hb⟩
      have H8 := hide (show _ ∧ _ ∧ _ ∧ _ from ⟨h1, h2, h3, h4⟩)
      have OQ := hide (HO.out.1.below hb)
      have G5 := hide (bch G4.out hb)
      have NQ := norm_any _ qs w8 OQ.out.rw (by have := OQ.out.2.1; have := HK.out; omega)
      rw [OQ.out.2.1, hfin.out.1] at NQ
      clear h1 h2 h3 h4 hb RT HO
      go_wp2_with fail
      refine NQ.mono ?_; rintro e w9 ⟨v9, ys9, rfl, h1, h2, h3, h4, hb⟩
      have H9 := hide (show _ ∧ _ ∧ _ ∧ _ from ⟨h1, h2, h4, bch G5.out hb⟩)
      have H8 := hide (show _ ∧ _ from ⟨H8.out.1.keep hb, H8.out.2⟩)
      clear h1 h2 h3 h4 hb NQ
      go_wp2
      go_ret2
      exact ⟨_, _, ys9, zs, rfl, ⟨H9.out.1, H9.out.2.1, by have := H9.out.2.2.1; have := HU.out.2.2.2; omega⟩, ⟨H8.out.1, H8.out.2.1, H8.out.2.2.1, by have := H8.out.2.2.2; have := HK.out; have := HV.out.2.2.2.1; omega⟩, H9.out.2.2.2⟩
end Go.Proofs.Ytljnadoodbninaa
