/- Contract of the reference's Times. -/
import Derived.Test.YtljnadoodbninaaWLeft
namespace Vg
theorem times_step {zs xs : List Nat} {i j p c z x y t F : Nat} (hp : p < zs.length) (hi : i < xs.length) (e : p = i + j) (hz : zs[p] = z) (hx : xs[i] = x) (ht : c + z + x * y = t)
    (h : nat32 zs + P32 (i + j) * c = F + nat32 (xs.take i) * (P32 j * y)) :
    nat32 (zs.set p (t % 4294967296)) + P32 (i + 1 + j) * (t / 4294967296) = F + nat32 (xs.take (i + 1)) * (P32 j * y) := by
  have e1 := nat32_set zs p hp (t % 4294967296)
  have dm := Nat.div_add_mod t 4294967296
  rw [nat32_snoc hi, hx, Nat.add_mul, show i + 1 + j = i + j + 1 by omega, P32_succ]
  rw [hz, e] at e1
  have e2 : P32 i * x * (P32 j * y) = P32 (i + j) * (x * y) := by
    rw [P32_add]; simp only [Nat.mul_assoc, Nat.mul_comm, Nat.mul_left_comm]
  have e3 : 4294967296 * P32 (i + j) * (t / 4294967296) = P32 (i + j) * (4294967296 * (t / 4294967296)) := by
    simp only [Nat.mul_assoc, Nat.mul_comm, Nat.mul_left_comm]
  rw [e2, e3]
  have e4 : P32 (i + j) * c + P32 (i + j) * z + P32 (i + j) * (x * y) = P32 (i + j) * (4294967296 * (t / 4294967296)) + P32 (i + j) * (t % 4294967296) := by
    rw [← Nat.mul_add, ← Nat.mul_add, ← Nat.mul_add, dm, ht]
  rw [e] 
  omega
theorem times_end {zs ys : List Nat} {n j c y A : Nat} (hp : j + n < zs.length) (hj : j < ys.length) (h0 : zs[j + n] = 0) (hy : ys[j] = y)
    (h : nat32 zs + P32 (n + j) * c = A * nat32 (ys.take j) + A * (P32 j * y)) : nat32 (zs.set (j + n) c) = A * nat32 (ys.take (j + 1)) := by
  have e1 := nat32_set zs (j + n) hp c
  rw [h0, Nat.mul_zero, Nat.add_zero] at e1
  rw [e1, nat32_snoc hj, hy, Nat.mul_add, Nat.add_comm j n, h]
end Vg
namespace Go.Proofs.Ytljnadoodbninaa
open Go.RowKit
set_option maxRecDepth 20000 in
set_option maxHeartbeats 16000000 in
theorem times_any (a b : Value) (xs ys : List Nat) (w : World) (ha : Rw w a xs) (hb : Rw w b ys) (hl : xs.length + ys.length ≤ 35184372088831) : Calls Try.prog 86 #[a, b] w (TNa (Vg.nat32 xs * Vg.nat32 ys) (xs.length + ys.length) w) := by
  have HA := hide ha
  have HB := hide hb
  have hinfo := info32
  have W1 := fun (w' : World) (h : Below w.heap.size w w') => words_any _ xs w' (ha.keep h) (by omega)
  have W2 := fun (w' : World) (h : Below w.heap.size w w') => words_any _ ys w' (hb.keep h) (by omega)
  obtain ⟨A1, c1, rfl⟩ := ha.len
  obtain ⟨A2, c2, rfl⟩ := hb.len
  obtain ⟨N1, hN1⟩ : ∃ n, xs.length = n := ⟨_, rfl⟩
  obtain ⟨N2, hN2⟩ : ∃ n, ys.length = n := ⟨_, rfl⟩
  rw [hN1] at W1 ⊢
  rw [hN2] at W2 ⊢
  have HN := hide (show xs.length = N1 ∧ ys.length = N2 ∧ N1 + N2 ≤ 35184372088831 from ⟨hN1, hN2, by omega⟩)
  clear hl ha hb hN1 hN2
  go_enter Try.func86, Try.ntmps86
  go_wp2_with fail
  refine (W1 _ (Below.refl _ _)).mono ?_; rintro e w1 ⟨n, rfl, hn, hb1⟩
  have G1 := hide hb1
  have HX := hide hn
  clear hb1 hn W1
  go_wp2_with fail
  refine (W2 _ G1.out).mono ?_; rintro e w2 ⟨m, rfl, hm, hb2⟩
  have G2 := hide (bch G1.out hb2)
  have HY := hide hm
  clear hb2 hm W2 G1
  have hnN : n ≤ N1 := by have := HX.out.1; have := HN.out; omega
  have hmN : m ≤ N2 := by have := HY.out.1; have := HN.out; omega
  obtain ⟨K, hK⟩ : ∃ K, n + m = K := ⟨_, rfl⟩
  have hKb : K ≤ 35184372088831 := by have := HN.out; omega
  have r5 : IntKind.i64.wrap ((n : Int) + m) = (K : Nat) := by rw [IntWalk.i64_in _ (by omega)]; omega
  have HK := hide hK
  have hmk := fun w => run_make_row' (P := Try.prog) 43 78 (.int .u32 0) 4 Try.underlying43 hinfo rfl .i64 .i64 K (by omega) (by omega) w
  have OW := hide (show Ow w (w2.alloc (.cells (madeCells #[.int .u32 0] K) 78)) w2.heap.size K (List.replicate K 0) from ⟨made_own G2.out.size hKb, List.length_replicate, Vg.Wd.rep _, G2.out.size, G2.out.alloc G2.out.size _⟩)
  clear hinfo hK
  go_wp2_with fail
  obtain ⟨G, hG⟩ : ∃ G, w2.heap.size = G := ⟨_, rfl⟩
  rw [hG] at OW ⊢
  clear hG hmk
  go_loopg [8, 9, 10, 11] m (fun k jj yy cc ii wr => ∃ (j : Nat) (zs : List Nat), jj = .int .i64 j ∧ Hid (j + k = m) ∧ Hid (Ow w wr G K zs) ∧ Hid (Vg.nat32 zs = Vg.nat32 xs * Vg.nat32 (ys.take j) ∧ ∀ p (h : p < zs.length), n + j ≤ p → zs[p] = 0))
  case atStart => exact ⟨0, _, rfl, hide (by omega), OW, hide ⟨by rw [Vg.nat32_zeros, List.take_zero]; simp [Vg.nat32], fun p h _ => List.getElem_replicate h⟩⟩
  case round =>
    clear OW G2
    obtain ⟨j, zs, rfl, HJ, HO, HZ⟩ := hrel
    by_cases c : (j : Int) < m
    · have hj : j < ys.length := by have := HN.out; omega
      obtain ⟨g, o, hA, hcell⟩ := HB.out.at hj
      obtain ⟨y, hy⟩ : ∃ m : Nat, ys[j] = m := ⟨_, rfl⟩
      rw [hy] at hcell
      obtain rfl : A2 = some ⟨g, o, none⟩ := hA _ _ (by rw [HN.out.2.1])
      have hc : wr.cell? ⟨g, o + j, none⟩ = some (.int .u32 (y : Nat)) := keep_cell HO.out.2.2.2.2 hcell.1 hcell.2
      have ew : IntKind.i64.wrap ((j : Int) + 1) = (j + 1 : Nat) := by rw [IntWalk.i64_in _ (by have := HN.out; omega)]; rfl
      have hjN : (j : Int) < N2 := by omega
      have hyb : y < 4294967296 := by rw [← hy]; exact HB.out.1.at hj
      have uy : IntKind.u64.wrap (y : Int) = (y : Int) := by rw [IntKind.wrap_u64]; omega
      have HYJ := hide hy
      clear hcell hA hy
      by_cases e0 : y = 0
      · subst e0
        have HZ3 : Hid (Vg.nat32 (ys.take (j + 1)) = Vg.nat32 (ys.take j)) := hide (by rw [Vg.nat32_snoc hj, HYJ.out, Nat.mul_zero, Nat.add_zero])
        clear HYJ
        go_wp2
        go_roundg (m - (j + 1))
        case measure => have := HJ.out; omega
        case rel => exact ⟨j + 1, zs, by simp, hide (by have := HJ.out; omega), HO, hide ⟨by rw [HZ3.out]; exact HZ.out.1, fun p h1 h2 => HZ.out.2 p h1 (by omega)⟩⟩
      · have t2 : (y == 0) = false := beq_eq_false_iff_ne.2 e0
        have t3 : ((y : Int) == 0) = false := by rw [beq_eq_false_iff_ne]; omega
        clear e0
        go_wp2_with fail
        go_loopg [10, 11] n (fun k cc ii wr' => ∃ (i c : Nat) (zs : List Nat), ii = .int .i64 i ∧ cc = .int .u64 c ∧ Hid (i + k = n) ∧ Hid (Ow w wr' G K zs) ∧ Hid (c < 4294967296 ∧ Vg.nat32 zs + Vg.P32 (i + j) * c = Vg.nat32 xs * Vg.nat32 (ys.take j) + Vg.nat32 (xs.take i) * (Vg.P32 j * y) ∧ ∀ p (h : p < zs.length), n + j ≤ p → zs[p] = 0))
        case atStart => exact ⟨0, 0, zs, rfl, rfl, hide (by omega), HO, hide ⟨by decide, by rw [HZ.out.1, List.take_zero]; simp [Vg.nat32], HZ.out.2⟩⟩
        case round =>
          clear HO HZ
          obtain ⟨i, cr, zs, rfl, rfl, HI, HO, HZ⟩ := hrel
          by_cases c2 : (i : Int) < n
          · have hi1 : i < xs.length := by have := HN.out; omega
            obtain ⟨g', o', hA', hcell'⟩ := HA.out.at hi1
            obtain ⟨x, hx⟩ : ∃ m : Nat, xs[i] = m := ⟨_, rfl⟩
            rw [hx] at hcell'
            obtain rfl : A1 = some ⟨g', o', none⟩ := hA' _ _ (by rw [HN.out.1])
            have hcx : wr.cell? ⟨g', o' + i, none⟩ = some (.int .u32 (x : Nat)) := keep_cell HO.out.2.2.2.2 hcell'.1 hcell'.2
            have ewi : IntKind.i64.wrap ((i : Int) + 1) = (i + 1 : Nat) := by rw [IntWalk.i64_in _ (by have := HN.out; omega)]; rfl
            have hiN : (i : Int) < N1 := by omega
            have hxb : x < 4294967296 := by rw [← hx]; exact HA.out.1.at hi1
            have ux : IntKind.u64.wrap (x : Int) = (x : Int) := by rw [IntKind.wrap_u64]; omega
            obtain ⟨p, hp⟩ : ∃ p, i + j = p := ⟨_, rfl⟩
            have hpz : p < zs.length := by have := HO.out.2.1; have := HK.out; omega
            have hpK : (p : Int) < K := by have := HO.out.2.1; omega
            have rp : IntKind.i64.wrap ((i : Int) + j) = (p : Nat) := by rw [IntWalk.i64_in _ (by have := HN.out; omega)]; omega
            obtain ⟨z, hz⟩ : ∃ z, zs[p] = z := ⟨_, rfl⟩
            have hzb : z < 4294967296 := by rw [← hz]; exact HO.out.2.2.1.at hpz
            have hcz := HO.out.cell hpz hz
            have uz : IntKind.u64.wrap (z : Int) = (z : Int) := by rw [IntKind.wrap_u64]; omega
            have hcrb := HZ.out.1
            obtain ⟨s1, hs1⟩ : ∃ s, cr + z = s := ⟨_, rfl⟩
            have us1 : IntKind.u64.wrap ((cr : Int) + z) = (s1 : Int) := by rw [IntKind.wrap_u64]; omega
            have hxy : x * y ≤ 4294967295 * 4294967295 := Nat.mul_le_mul (by omega) (by omega)
            obtain ⟨pr, hpr⟩ : ∃ s, x * y = s := ⟨_, rfl⟩
            rw [hpr] at hxy
            have upr : IntKind.u64.wrap ((x : Int) * y) = (pr : Int) := by
              have : (x : Int) * y = (pr : Int) := by rw [← hpr]; norm_cast
              rw [this, IntKind.wrap_u64]; omega
            obtain ⟨t, ht⟩ : ∃ s, s1 + pr = s := ⟨_, rfl⟩
            have ut : IntKind.u64.wrap ((s1 : Int) + pr) = (t : Int) := by rw [IntKind.wrap_u64]; omega
            have a1 := and_low t (by omega)
            obtain ⟨lo, hlo⟩ : ∃ z, t % 4294967296 = z := ⟨_, rfl⟩
            obtain ⟨c', hc'⟩ : ∃ z, t / 4294967296 = z := ⟨_, rfl⟩
            rw [hlo] at a1
            have u1 := wrap32_nat (x := lo) (by omega)
            have e3 : (t : Int) / 4294967296 = (c' : Int) := by omega
            have HT := hide (show Vg.nat32 (zs.set p lo) + Vg.P32 (i + 1 + j) * c' = Vg.nat32 xs * Vg.nat32 (ys.take j) + Vg.nat32 (xs.take (i + 1)) * (Vg.P32 j * y) from by
              have h := Vg.times_step (t := t) hpz hi1 hp.symm hz hx (by omega) HZ.out.2.1
              rwa [hlo, hc'] at h)
            have HB2 := hide (show c' < 4294967296 ∧ lo < 4294967296 ∧ p < n + j from ⟨by omega, by omega, by omega⟩)
            have HZ2 := hide HZ.out.2.2
            have HZZ := hide hz
            clear hcell' hA' hx hp hz hs1 hpr ht hlo hc' HZ hxy hxb hzb hcrb
            go_wp2_with fail
            go_quiet (fail)
            obtain ⟨wx, hwx⟩ : ∃ wx, wr.drewN nq = wx := ⟨_, rfl⟩
            have HO2 : Hid (Ow w wx G K zs) := hide (hwx ▸ HO.out.drewN nq)
            rw [hwx]
            clear hwx hcx hcz HO
            have f1 := HO2.out.free p
            have hcz2 := HO2.out.cell hpz HZZ.out
            have HS := hide (HO2.out.set p HB2.out.2.1)
            go_wp2
            go_roundg (n - (i + 1))
            case measure => have := HI.out; omega
            case rel => exact ⟨i + 1, c', zs.set p lo, by simp, rfl, hide (by have := HI.out; omega), HS, hide ⟨HB2.out.1, HT.out, fun p' h1 h2 => by rw [List.getElem_set_ne (by have := HB2.out; omega)]; exact HZ2.out p' (by simpa using h1) h2⟩⟩
          · have hin : i = n := by have := HI.out; omega
            subst hin
            obtain ⟨P, hP⟩ : ∃ P, j + i = P := ⟨_, rfl⟩
            have hPz : P < zs.length := by have := HO.out.2.1; have := HK.out; omega
            have hPK : (P : Int) < K := by have := HO.out.2.1; omega
            have rP : IntKind.i64.wrap ((j : Int) + i) = (P : Nat) := by rw [IntWalk.i64_in _ (by have := HN.out; omega)]; omega
            have hz0 := HZ.out.2.2 P hPz (by omega)
            have hcb := HZ.out.1
            have uc := wrap32_nat hcb
            have f1 := HO.out.free P
            have hcz := HO.out.cell hPz hz0
            have HS := hide (HO.out.set P hcb)
            have HT := hide (show Vg.nat32 (zs.set P cr) = Vg.nat32 xs * Vg.nat32 (ys.take (j + 1)) from by
              have h := HZ.out.2.1
              rw [HX.out.nat] at h
              have e := Vg.times_end (zs := zs) (n := i) (j := j) (by omega) hj (by simp only [hP]; exact hz0) HYJ.out h
              rwa [hP] at e)
            have HZ2 := hide HZ.out.2.2
            have HP := hide (show P = i + j from by omega)
            clear hP HZ hz0 hcb HO
            go_wp2
            go_roundg (m - (j + 1))
            case measure => have := HJ.out; omega
            case rel => exact ⟨j + 1, zs.set P cr, by simp, hide (by have := HJ.out; omega), HS, hide ⟨HT.out, fun p h1 h2 => by rw [List.getElem_set_ne (by have := HP.out; omega)]; exact HZ2.out p (by simpa using h1) (by omega)⟩⟩
    · have hjm : j = m := by have := HJ.out; omega
      subst hjm
      have NM := fun (w' : World) (h : Below w.heap.size w w') (a : Value) (hr : Rw w' a zs) => norm_any a _ w' hr (by rw [HO.out.2.1]; exact hKb)
      have HD : Hid (Vg.nat32 zs = Vg.nat32 xs * Vg.nat32 ys) := hide (by rw [HZ.out.1, HY.out.nat])
      go_wp2_with fail
      refine (NM _ HO.out.2.2.2.2 _ HO.out.rw).mono ?_; rintro e w9 ⟨v9, ys', rfl, h1, h2, h3, h4, hb9⟩
      rw [HO.out.2.1] at h4
      have R9 := hide (show _ ∧ _ ∧ _ ∧ _ ∧ _ from ⟨h1, h2.trans HD.out, h3, h4, bch HO.out.2.2.2.2 hb9⟩)
      clear h1 h2 h3 h4 hb9 NM HO
      go_wp2
      go_ret
      exact ⟨_, ys', rfl, R9.out.1, R9.out.2.1, R9.out.2.2.1, by have := R9.out.2.2.2.1; have := HK.out; omega, R9.out.2.2.2.2⟩
end Go.Proofs.Ytljnadoodbninaa
