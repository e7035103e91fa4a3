/- Contracts of the reference's Plus and Minus. -/
import Derived.Test.YtljnadoodbninaaWRat
namespace Vg
theorem plus_step {zs xs ys : List Nat} {i c x y t : Nat} (hz : zs.length = i) (ex : nat32 (xs.take (i + 1)) = nat32 (xs.take i) + P32 i * x) (ey : nat32 (ys.take (i + 1)) = nat32 (ys.take i) + P32 i * y) (ht : c + x + y = t)
    (h : nat32 zs + P32 i * c = nat32 (xs.take i) + nat32 (ys.take i)) : nat32 (zs ++ [t % 4294967296]) + P32 (i + 1) * (t / 4294967296) = nat32 (xs.take (i + 1)) + nat32 (ys.take (i + 1)) := by
  have dm := Nat.div_add_mod t 4294967296
  have e : P32 i * (4294967296 * (t / 4294967296)) + P32 i * (t % 4294967296) = P32 i * c + P32 i * x + P32 i * y := by
    rw [← Nat.mul_add, ← Nat.mul_add, ← Nat.mul_add, dm, ht]
  rw [nat32_app, hz, ex, ey, P32_succ, show nat32 [t % 4294967296] = t % 4294967296 by simp [nat32], Nat.mul_comm 4294967296, Nat.mul_assoc]
  omega
theorem minus_step {zs xs ys : List Nat} {i b x y z b' : Nat} (hz : zs.length = i) (ex : nat32 (xs.take (i + 1)) = nat32 (xs.take i) + P32 i * x) (ey : nat32 (ys.take (i + 1)) = nat32 (ys.take i) + P32 i * y) (ht : z + (b + y) = x + 4294967296 * b')
    (h : nat32 zs + nat32 (ys.take i) = nat32 (xs.take i) + P32 i * b) : nat32 (zs ++ [z]) + nat32 (ys.take (i + 1)) = nat32 (xs.take (i + 1)) + P32 (i + 1) * b' := by
  have e : P32 i * z + (P32 i * b + P32 i * y) = P32 i * x + P32 i * (4294967296 * b') := by
    rw [← Nat.mul_add, ← Nat.mul_add, ← Nat.mul_add, ht]
  rw [nat32_app, hz, ex, ey, P32_succ, show nat32 [z] = z by simp [nat32], Nat.mul_comm 4294967296, Nat.mul_assoc]
  omega
end Vg
namespace Go.Proofs.Ytljnadoodbninaa
open Go.RowKit

set_option maxRecDepth 20000 in
set_option maxHeartbeats 8000000 in
theorem plus_any (a b : Value) (xs ys : List Nat) (w : World) (ha : Rw w a xs) (hb : Rw w b ys) (hl : xs.length + ys.length ≤ 17592186044415) :
    Calls Try.prog 129 #[a, b] w (TNa (Vg.nat32 xs + Vg.nat32 ys) (xs.length + ys.length + 1) w) := by
  obtain ⟨i0, hi, hz0, hz1, hz2⟩ := info_parts info32
  have HA := hide ha
  have HB := hide hb
  obtain ⟨A1, c1, rfl⟩ := ha.len
  obtain ⟨A2, c2, rfl⟩ := hb.len
  obtain ⟨N1, hN1⟩ : ∃ n, xs.length = n := ⟨_, rfl⟩
  obtain ⟨N2, hN2⟩ : ∃ n, ys.length = n := ⟨_, rfl⟩
  rw [hN1, hN2] at hl
  rw [hN1, hN2]
  have HL := hide hl
  have HN := hide (show xs.length = N1 ∧ ys.length = N2 ∧ N1 + N2 ≤ 17592186044415 from ⟨hN1, hN2, hl⟩)
  clear hl ha hb hN1 hN2
  go_enter Try.func129, Try.ntmps129
  go_wp2_with fail
  go_loopg [5, 6, 7] (N1 + N2) (fun k l c i wr => ∃ (j cr : Nat) (zs : List Nat), c = .int .u64 cr ∧ i = .int .i64 j ∧ Hid (j + k = N1 + N2 ∧ cr ≤ 1 ∧ zs.length = j) ∧ Hid (Vg.Wd zs ∧ Vg.nat32 zs + Vg.P32 j * cr = Vg.nat32 (xs.take j) + Vg.nat32 (ys.take j)) ∧ Hid (wr.ownsRow w.heap.size 78 1 l zs.length (zs.map wv) ∧ Below w.heap.size w wr))
  case atStart => exact ⟨0, 0, [], rfl, rfl, hide ⟨by omega, by decide, rfl⟩, hide ⟨by (intro b hb; cases hb), by simp [Vg.nat32]⟩, hide ⟨own_nil32, Below.refl _ _⟩⟩
  case round =>
    obtain ⟨j, cr, zs, rfl, rfl, HI, HE, HO⟩ := hrel
    have crb := HI.out.2.1
    by_cases cx : (j : Int) < N1
    · by_cases cy : (j : Int) < N2
      · have hx1 : j < xs.length := by have := HN.out; omega
        obtain ⟨gx, ox, hAx, hcellx⟩ := HA.out.at hx1
        obtain ⟨x, hx⟩ : ∃ m : Nat, xs[j] = m := ⟨_, rfl⟩
        rw [hx] at hcellx
        obtain rfl : A1 = some ⟨gx, ox, none⟩ := hAx _ _ (by rw [HN.out.1])
        have hcx : wr.cell? ⟨gx, ox + j, none⟩ = some (.int .u32 (x : Nat)) := keep_cell HO.out.2 hcellx.1 hcellx.2
        have hxb : x < 4294967296 := by rw [← hx]; exact HA.out.1.at hx1
        have ux : IntKind.u64.wrap (x : Int) = (x : Int) := by rw [IntKind.wrap_u64]; omega
        have Sx := Vg.nat32_snoc hx1
        rw [hx] at Sx
        clear hcellx hAx hx
        have jx : (j : Int) < N1 := by omega
        have hy1 : j < ys.length := by have := HN.out; omega
        obtain ⟨gy, oy, hAy, hcelly⟩ := HB.out.at hy1
        obtain ⟨y, hy⟩ : ∃ m : Nat, ys[j] = m := ⟨_, rfl⟩
        rw [hy] at hcelly
        obtain rfl : A2 = some ⟨gy, oy, none⟩ := hAy _ _ (by rw [HN.out.2.1])
        have hcy : wr.cell? ⟨gy, oy + j, none⟩ = some (.int .u32 (y : Nat)) := keep_cell HO.out.2 hcelly.1 hcelly.2
        have hyb : y < 4294967296 := by rw [← hy]; exact HB.out.1.at hy1
        have uy : IntKind.u64.wrap (y : Int) = (y : Int) := by rw [IntKind.wrap_u64]; omega
        have Sy := Vg.nat32_snoc hy1
        rw [hy] at Sy
        clear hcelly hAy hy
        have jy : (j : Int) < N2 := by omega
        have ew : IntKind.i64.wrap ((j : Int) + 1) = (j + 1 : Nat) := by rw [IntWalk.i64_in _ (by have := HN.out; omega)]; rfl
        obtain ⟨s1, hs1⟩ : ∃ s, cr + x = s := ⟨_, rfl⟩
        have us1 : IntKind.u64.wrap ((cr : Int) + x) = (s1 : Int) := by rw [IntKind.wrap_u64]; omega
        obtain ⟨t, ht⟩ : ∃ s, s1 + y = s := ⟨_, rfl⟩
        have ut : IntKind.u64.wrap ((s1 : Int) + y) = (t : Int) := by rw [IntKind.wrap_u64]; omega
        have a1 := and_low t (by omega)
        obtain ⟨lo, hlo⟩ : ∃ z, t % 4294967296 = z := ⟨_, rfl⟩
        obtain ⟨c', hc'⟩ : ∃ z, t / 4294967296 = z := ⟨_, rfl⟩
        have HT := hide (show Vg.nat32 (zs ++ [lo]) + Vg.P32 (j + 1) * c' = Vg.nat32 (xs.take (j + 1)) + Vg.nat32 (ys.take (j + 1)) from by
          have h := Vg.plus_step (t := t) HI.out.2.2 Sx Sy (by omega) HE.out.2
          rwa [hlo, hc'] at h)
        rw [hlo] at a1
        have u1 := wrap32_nat (x := lo) (by omega)
        have e3 : (t : Int) / 4294967296 = (c' : Int) := by omega
        have HC := hide (show c' ≤ 1 ∧ lo < 4294967296 ∧ j < N1 + N2 from ⟨by omega, by omega, by omega⟩)
        have HW := hide HE.out.1
        clear hlo hc' Sx Sy HE crb hs1 ht
        go_wp2_with (at_builtin; refine wpList_append_own _ rfl _ _ 43 rfl w.heap.size 78 i0 (.int .u32 0) 1 4 Try.underlying43 hi hz0 hz1 hz2 rfl (by decide) _ (zs).length ((zs).map wv) rfl (HO.out.1.alloc _) ⟨wr.heap.size, 0, none⟩ 1 1 [.int .u32 (lo : Nat)] rfl rfl (by intro j u hj; rcases j with _ | j <;> simp at hj; subst hj; simp [Addr.add]) (by intro u hu; simp at hu; subst hu; rfl) (by have := HL.out; have := HI.out; unfold maxLen; omega) (by have := HL.out; have := HI.out; omega) (by have := HO.out.2.size; simp; omega) ?_; intro v' w1 hown' hgrow _)
        have R := hide (own_more32 HO.out.1 HO.out.2 hown' hgrow)
        clear hown' hgrow HO
        go_wp2
        go_roundg (N1 + N2 - (j + 1))
        case measure => have := HI.out; have := HC.out; omega
        case rel => exact ⟨j + 1, c', zs ++ [lo], rfl, by simp, hide ⟨by have := HC.out; omega, HC.out.1, by rw [List.length_append, HI.out.2.2]; rfl⟩, hide ⟨HW.out.snoc HC.out.2.1, HT.out⟩, R⟩
      · have hx1 : j < xs.length := by have := HN.out; omega
        obtain ⟨gx, ox, hAx, hcellx⟩ := HA.out.at hx1
        obtain ⟨x, hx⟩ : ∃ m : Nat, xs[j] = m := ⟨_, rfl⟩
        rw [hx] at hcellx
        obtain rfl : A1 = some ⟨gx, ox, none⟩ := hAx _ _ (by rw [HN.out.1])
        have hcx : wr.cell? ⟨gx, ox + j, none⟩ = some (.int .u32 (x : Nat)) := keep_cell HO.out.2 hcellx.1 hcellx.2
        have hxb : x < 4294967296 := by rw [← hx]; exact HA.out.1.at hx1
        have ux : IntKind.u64.wrap (x : Int) = (x : Int) := by rw [IntKind.wrap_u64]; omega
        have Sx := Vg.nat32_snoc hx1
        rw [hx] at Sx
        clear hcellx hAx hx
        have jx : (j : Int) < N1 := by omega
        have Sy : Vg.nat32 (ys.take (j + 1)) = Vg.nat32 (ys.take j) + Vg.P32 j * 0 := by rw [List.take_of_length_le (by have := HN.out; omega), List.take_of_length_le (by have := HN.out; omega), Nat.mul_zero, Nat.add_zero]
        have ew : IntKind.i64.wrap ((j : Int) + 1) = (j + 1 : Nat) := by rw [IntWalk.i64_in _ (by have := HN.out; omega)]; rfl
        obtain ⟨s1, hs1⟩ : ∃ s, cr + x = s := ⟨_, rfl⟩
        have us1 : IntKind.u64.wrap ((cr : Int) + x) = (s1 : Int) := by rw [IntKind.wrap_u64]; omega
        obtain ⟨t, ht⟩ : ∃ s, s1 = s := ⟨_, rfl⟩
        have a1 := and_low t (by omega)
        obtain ⟨lo, hlo⟩ : ∃ z, t % 4294967296 = z := ⟨_, rfl⟩
        obtain ⟨c', hc'⟩ : ∃ z, t / 4294967296 = z := ⟨_, rfl⟩
        have HT := hide (show Vg.nat32 (zs ++ [lo]) + Vg.P32 (j + 1) * c' = Vg.nat32 (xs.take (j + 1)) + Vg.nat32 (ys.take (j + 1)) from by
          have h := Vg.plus_step (t := t) HI.out.2.2 Sx Sy (by omega) HE.out.2
          rwa [hlo, hc'] at h)
        rw [hlo] at a1
        have u1 := wrap32_nat (x := lo) (by omega)
        have e3 : (t : Int) / 4294967296 = (c' : Int) := by omega
        have HC := hide (show c' ≤ 1 ∧ lo < 4294967296 ∧ j < N1 + N2 from ⟨by omega, by omega, by omega⟩)
        have HW := hide HE.out.1
        subst ht
        clear hlo hc' Sx Sy HE crb hs1
        go_wp2_with (at_builtin; refine wpList_append_own _ rfl _ _ 43 rfl w.heap.size 78 i0 (.int .u32 0) 1 4 Try.underlying43 hi hz0 hz1 hz2 rfl (by decide) _ (zs).length ((zs).map wv) rfl (HO.out.1.alloc _) ⟨wr.heap.size, 0, none⟩ 1 1 [.int .u32 (lo : Nat)] rfl rfl (by intro j u hj; rcases j with _ | j <;> simp at hj; subst hj; simp [Addr.add]) (by intro u hu; simp at hu; subst hu; rfl) (by have := HL.out; have := HI.out; unfold maxLen; omega) (by have := HL.out; have := HI.out; omega) (by have := HO.out.2.size; simp; omega) ?_; intro v' w1 hown' hgrow _)
        have R := hide (own_more32 HO.out.1 HO.out.2 hown' hgrow)
        clear hown' hgrow HO
        go_wp2
        go_roundg (N1 + N2 - (j + 1))
        case measure => have := HI.out; have := HC.out; omega
        case rel => exact ⟨j + 1, c', zs ++ [lo], rfl, by simp, hide ⟨by have := HC.out; omega, HC.out.1, by rw [List.length_append, HI.out.2.2]; rfl⟩, hide ⟨HW.out.snoc HC.out.2.1, HT.out⟩, R⟩
    · by_cases cy : (j : Int) < N2
      · have Sx : Vg.nat32 (xs.take (j + 1)) = Vg.nat32 (xs.take j) + Vg.P32 j * 0 := by rw [List.take_of_length_le (by have := HN.out; omega), List.take_of_length_le (by have := HN.out; omega), Nat.mul_zero, Nat.add_zero]
        have hy1 : j < ys.length := by have := HN.out; omega
        obtain ⟨gy, oy, hAy, hcelly⟩ := HB.out.at hy1
        obtain ⟨y, hy⟩ : ∃ m : Nat, ys[j] = m := ⟨_, rfl⟩
        rw [hy] at hcelly
        obtain rfl : A2 = some ⟨gy, oy, none⟩ := hAy _ _ (by rw [HN.out.2.1])
        have hcy : wr.cell? ⟨gy, oy + j, none⟩ = some (.int .u32 (y : Nat)) := keep_cell HO.out.2 hcelly.1 hcelly.2
        have hyb : y < 4294967296 := by rw [← hy]; exact HB.out.1.at hy1
        have uy : IntKind.u64.wrap (y : Int) = (y : Int) := by rw [IntKind.wrap_u64]; omega
        have Sy := Vg.nat32_snoc hy1
        rw [hy] at Sy
        clear hcelly hAy hy
        have jy : (j : Int) < N2 := by omega
        have ew : IntKind.i64.wrap ((j : Int) + 1) = (j + 1 : Nat) := by rw [IntWalk.i64_in _ (by have := HN.out; omega)]; rfl
        obtain ⟨s1, hs1⟩ : ∃ s, cr = s := ⟨_, rfl⟩
        obtain ⟨t, ht⟩ : ∃ s, cr + y = s := ⟨_, rfl⟩
        have ut : IntKind.u64.wrap ((cr : Int) + y) = (t : Int) := by rw [IntKind.wrap_u64]; omega
        have a1 := and_low t (by omega)
        obtain ⟨lo, hlo⟩ : ∃ z, t % 4294967296 = z := ⟨_, rfl⟩
        obtain ⟨c', hc'⟩ : ∃ z, t / 4294967296 = z := ⟨_, rfl⟩
        have HT := hide (show Vg.nat32 (zs ++ [lo]) + Vg.P32 (j + 1) * c' = Vg.nat32 (xs.take (j + 1)) + Vg.nat32 (ys.take (j + 1)) from by
          have h := Vg.plus_step (t := t) HI.out.2.2 Sx Sy (by omega) HE.out.2
          rwa [hlo, hc'] at h)
        rw [hlo] at a1
        have u1 := wrap32_nat (x := lo) (by omega)
        have e3 : (t : Int) / 4294967296 = (c' : Int) := by omega
        have HC := hide (show c' ≤ 1 ∧ lo < 4294967296 ∧ j < N1 + N2 from ⟨by omega, by omega, by omega⟩)
        have HW := hide HE.out.1
        subst hs1
        clear hlo hc' Sx Sy HE crb ht
        go_wp2_with (at_builtin; refine wpList_append_own _ rfl _ _ 43 rfl w.heap.size 78 i0 (.int .u32 0) 1 4 Try.underlying43 hi hz0 hz1 hz2 rfl (by decide) _ (zs).length ((zs).map wv) rfl (HO.out.1.alloc _) ⟨wr.heap.size, 0, none⟩ 1 1 [.int .u32 (lo : Nat)] rfl rfl (by intro j u hj; rcases j with _ | j <;> simp at hj; subst hj; simp [Addr.add]) (by intro u hu; simp at hu; subst hu; rfl) (by have := HL.out; have := HI.out; unfold maxLen; omega) (by have := HL.out; have := HI.out; omega) (by have := HO.out.2.size; simp; omega) ?_; intro v' w1 hown' hgrow _)
        have R := hide (own_more32 HO.out.1 HO.out.2 hown' hgrow)
        clear hown' hgrow HO
        go_wp2
        go_roundg (N1 + N2 - (j + 1))
        case measure => have := HI.out; have := HC.out; omega
        case rel => exact ⟨j + 1, c', zs ++ [lo], rfl, by simp, hide ⟨by have := HC.out; omega, HC.out.1, by rw [List.length_append, HI.out.2.2]; rfl⟩, hide ⟨HW.out.snoc HC.out.2.1, HT.out⟩, R⟩
      · have HT := hide (show Vg.nat32 (zs ++ [cr]) = Vg.nat32 xs + Vg.nat32 ys from by
          have h := HE.out.2
          rw [List.take_of_length_le (by have := HN.out; omega), List.take_of_length_le (by have := HN.out; omega)] at h
          rw [Vg.nat32_app, HI.out.2.2, ← h]; simp [Vg.nat32])
        have HJ := hide (show j ≤ N1 + N2 from by have := HI.out.1; omega)
        have HW := hide (show Vg.Wd (zs ++ [cr]) from HE.out.1.snoc (by omega))
        have u1 := wrap32_nat (x := cr) (by omega)
        clear crb
        go_wp2_with (at_builtin; refine wpList_append_own _ rfl _ _ 43 rfl w.heap.size 78 i0 (.int .u32 0) 1 4 Try.underlying43 hi hz0 hz1 hz2 rfl (by decide) _ (zs).length ((zs).map wv) rfl (HO.out.1.alloc _) ⟨wr.heap.size, 0, none⟩ 1 1 [.int .u32 (cr : Nat)] rfl rfl (by intro j u hj; rcases j with _ | j <;> simp at hj; subst hj; simp [Addr.add]) (by intro u hu; simp at hu; subst hu; rfl) (by have := HL.out; have := HI.out; unfold maxLen; omega) (by have := HL.out; have := HI.out; omega) (by have := HO.out.2.size; simp; omega) ?_; intro v' w1 hown' hgrow _)
        have R := hide (own_more32 HO.out.1 HO.out.2 hown' hgrow)
        have NM := norm_any _ _ _ (Rw.own HW.out R.out.1) (by rw [List.length_append, HI.out.2.2]; have := HL.out; have := HJ.out; show j + 1 ≤ _; omega)
        rw [HT.out] at NM
        clear hown' hgrow HO
        go_wp2_with fail
        refine NM.mono ?_; rintro e w9 ⟨v9, ys', rfl, h1, h2, h3, h4, hb9⟩
        rw [List.length_append, HI.out.2.2] at h4
        have R9 := hide (show _ ∧ _ ∧ _ ∧ _ ∧ _ from ⟨h1, h2, h3, h4, bch R.out.2 hb9⟩)
        clear h1 h2 h3 h4 hb9 NM R
        go_wp2
        go_ret
        exact ⟨_, ys', rfl, R9.out.1, R9.out.2.1, R9.out.2.2.1, by have h : ys'.length ≤ j + 1 := R9.out.2.2.2.1; have := HJ.out; omega, R9.out.2.2.2.2⟩

set_option maxRecDepth 20000 in
set_option maxHeartbeats 8000000 in
theorem minus_any (a b : Value) (xs ys : List Nat) (w : World) (ha : Rw w a xs) (hb : Rw w b ys) (hl : xs.length + ys.length ≤ 17592186044415) (hyx : ys.length ≤ xs.length) (hle : Vg.nat32 ys ≤ Vg.nat32 xs) :
    Calls Try.prog 130 #[a, b] w (TNa (Vg.nat32 xs - Vg.nat32 ys) xs.length w) := by
  obtain ⟨i0, hi, hz0, hz1, hz2⟩ := info_parts info32
  have HA := hide ha
  have HB := hide hb
  obtain ⟨A1, c1, rfl⟩ := ha.len
  obtain ⟨A2, c2, rfl⟩ := hb.len
  obtain ⟨N1, hN1⟩ : ∃ n, xs.length = n := ⟨_, rfl⟩
  obtain ⟨N2, hN2⟩ : ∃ n, ys.length = n := ⟨_, rfl⟩
  rw [hN1, hN2] at hl hyx
  rw [hN1, hN2]
  have HL := hide hl
  have HN := hide (show xs.length = N1 ∧ ys.length = N2 ∧ N1 + N2 ≤ 17592186044415 ∧ N2 ≤ N1 ∧ Vg.nat32 ys ≤ Vg.nat32 xs from ⟨hN1, hN2, hl, hyx, hle⟩)
  clear hl ha hb hN1 hN2 hyx hle
  go_enter Try.func130, Try.ntmps130
  go_wp2_with fail
  go_loopg [5, 6, 7] N1 (fun k l c i wr => ∃ (j cr : Nat) (zs : List Nat), c = .int .u64 cr ∧ i = .int .i64 j ∧ Hid (j + k = N1 ∧ cr ≤ 1 ∧ zs.length = j) ∧ Hid (Vg.Wd zs ∧ Vg.nat32 zs + Vg.nat32 (ys.take j) = Vg.nat32 (xs.take j) + Vg.P32 j * cr) ∧ Hid (wr.ownsRow w.heap.size 78 1 l zs.length (zs.map wv) ∧ Below w.heap.size w wr))
  case atStart => exact ⟨0, 0, [], rfl, rfl, hide ⟨by omega, by decide, rfl⟩, hide ⟨by (intro b hb; cases hb), by simp [Vg.nat32]⟩, hide ⟨own_nil32, Below.refl _ _⟩⟩
  case round =>
    obtain ⟨j, cr, zs, rfl, rfl, HI, HE, HO⟩ := hrel
    have crb := HI.out.2.1
    by_cases cx : (j : Int) < N1
    · have hx1 : j < xs.length := by have := HN.out; omega
      obtain ⟨gx, ox, hAx, hcellx⟩ := HA.out.at hx1
      obtain ⟨x, hx⟩ : ∃ m : Nat, xs[j] = m := ⟨_, rfl⟩
      rw [hx] at hcellx
      obtain rfl : A1 = some ⟨gx, ox, none⟩ := hAx _ _ (by rw [HN.out.1])
      have hcx : wr.cell? ⟨gx, ox + j, none⟩ = some (.int .u32 (x : Nat)) := keep_cell HO.out.2 hcellx.1 hcellx.2
      have hxb : x < 4294967296 := by rw [← hx]; exact HA.out.1.at hx1
      have ux : IntKind.u64.wrap (x : Int) = (x : Int) := by rw [IntKind.wrap_u64]; omega
      have Sx := Vg.nat32_snoc hx1
      rw [hx] at Sx
      clear hcellx hAx hx
      have ew : IntKind.i64.wrap ((j : Int) + 1) = (j + 1 : Nat) := by rw [IntWalk.i64_in _ (by have := HN.out; omega)]; rfl
      by_cases cy : (j : Int) < N2
      · have hy1 : j < ys.length := by have := HN.out; omega
        obtain ⟨gy, oy, hAy, hcelly⟩ := HB.out.at hy1
        obtain ⟨y, hy⟩ : ∃ m : Nat, ys[j] = m := ⟨_, rfl⟩
        rw [hy] at hcelly
        obtain rfl : A2 = some ⟨gy, oy, none⟩ := hAy _ _ (by rw [HN.out.2.1])
        have hcy : wr.cell? ⟨gy, oy + j, none⟩ = some (.int .u32 (y : Nat)) := keep_cell HO.out.2 hcelly.1 hcelly.2
        have hyb : y < 4294967296 := by rw [← hy]; exact HB.out.1.at hy1
        have uy : IntKind.u64.wrap (y : Int) = (y : Int) := by rw [IntKind.wrap_u64]; omega
        have Sy := Vg.nat32_snoc hy1
        rw [hy] at Sy
        clear hcelly hAy hy
        obtain ⟨t, ht⟩ : ∃ s, cr + y = s := ⟨_, rfl⟩
        have ut : IntKind.u64.wrap ((cr : Int) + y) = (t : Int) := by rw [IntKind.wrap_u64]; omega
        rcases Nat.lt_or_ge x t with ct | ct
        · have hlt : (x : Int) < t := by omega
          obtain ⟨h2, hh2⟩ : ∃ h2, x + 4294967296 = h2 := ⟨_, rfl⟩
          have uh2 : IntKind.u64.wrap ((x : Int) + 4294967296) = (h2 : Int) := by rw [IntKind.wrap_u64]; omega
          obtain ⟨lo, hlo⟩ : ∃ z, h2 - t = z := ⟨_, rfl⟩
          have uz : IntKind.u64.wrap ((h2 : Int) - t) = (lo : Int) := by rw [IntKind.wrap_u64]; omega
          have HT := hide (show Vg.nat32 (zs ++ [lo]) + Vg.nat32 (ys.take (j + 1)) = Vg.nat32 (xs.take (j + 1)) + Vg.P32 (j + 1) * 1 from
            Vg.minus_step HI.out.2.2 Sx Sy (by omega) HE.out.2)
          have HC := hide (show lo < 4294967296 ∧ j < N1 from ⟨by omega, by omega⟩)
          have u1 := wrap32_nat (x := lo) HC.out.1
          have HW := hide HE.out.1
          clear hlo Sx Sy HE crb hh2 ht
          go_wp2_with (at_builtin; refine wpList_append_own _ rfl _ _ 43 rfl w.heap.size 78 i0 (.int .u32 0) 1 4 Try.underlying43 hi hz0 hz1 hz2 rfl (by decide) _ (zs).length ((zs).map wv) rfl (HO.out.1.alloc _) ⟨wr.heap.size, 0, none⟩ 1 1 [.int .u32 (lo : Nat)] rfl rfl (by intro j u hj; rcases j with _ | j <;> simp at hj; subst hj; simp [Addr.add]) (by intro u hu; simp at hu; subst hu; rfl) (by have := HL.out; have := HI.out; unfold maxLen; omega) (by have := HL.out; have := HI.out; omega) (by have := HO.out.2.size; simp; omega) ?_; intro v' w1 hown' hgrow _)
          have R := hide (own_more32 HO.out.1 HO.out.2 hown' hgrow)
          clear hown' hgrow HO
          go_wp2
          go_roundg (N1 - (j + 1))
          case measure => have := HI.out; have := HC.out; omega
          case rel => exact ⟨j + 1, 1, zs ++ [lo], rfl, by simp, hide ⟨by have := HC.out; omega, by decide, by rw [List.length_append, HI.out.2.2]; rfl⟩, hide ⟨HW.out.snoc HC.out.1, HT.out⟩, R⟩
        · have hlt : ¬ (x : Int) < t := by omega
          obtain ⟨lo, hlo⟩ : ∃ z, x - t = z := ⟨_, rfl⟩
          have uz : IntKind.u64.wrap ((x : Int) - t) = (lo : Int) := by rw [IntKind.wrap_u64]; omega
          have HT := hide (show Vg.nat32 (zs ++ [lo]) + Vg.nat32 (ys.take (j + 1)) = Vg.nat32 (xs.take (j + 1)) + Vg.P32 (j + 1) * 0 from
            Vg.minus_step HI.out.2.2 Sx Sy (by omega) HE.out.2)
          have HC := hide (show lo < 4294967296 ∧ j < N1 from ⟨by omega, by omega⟩)
          have u1 := wrap32_nat (x := lo) HC.out.1
          have HW := hide HE.out.1
          clear hlo Sx Sy HE crb ht
          go_wp2_with (at_builtin; refine wpList_append_own _ rfl _ _ 43 rfl w.heap.size 78 i0 (.int .u32 0) 1 4 Try.underlying43 hi hz0 hz1 hz2 rfl (by decide) _ (zs).length ((zs).map wv) rfl (HO.out.1.alloc _) ⟨wr.heap.size, 0, none⟩ 1 1 [.int .u32 (lo : Nat)] rfl rfl (by intro j u hj; rcases j with _ | j <;> simp at hj; subst hj; simp [Addr.add]) (by intro u hu; simp at hu; subst hu; rfl) (by have := HL.out; have := HI.out; unfold maxLen; omega) (by have := HL.out; have := HI.out; omega) (by have := HO.out.2.size; simp; omega) ?_; intro v' w1 hown' hgrow _)
          have R := hide (own_more32 HO.out.1 HO.out.2 hown' hgrow)
          clear hown' hgrow HO
          go_wp2
          go_roundg (N1 - (j + 1))
          case measure => have := HI.out; have := HC.out; omega
          case rel => exact ⟨j + 1, 0, zs ++ [lo], rfl, by simp, hide ⟨by have := HC.out; omega, by decide, by rw [List.length_append, HI.out.2.2]; rfl⟩, hide ⟨HW.out.snoc HC.out.1, HT.out⟩, R⟩
      · have Sy : Vg.nat32 (ys.take (j + 1)) = Vg.nat32 (ys.take j) + Vg.P32 j * 0 := by rw [List.take_of_length_le (by have := HN.out; omega), List.take_of_length_le (by have := HN.out; omega), Nat.mul_zero, Nat.add_zero]
        obtain ⟨t, ht⟩ : ∃ s, cr = s := ⟨_, rfl⟩
        rcases Nat.lt_or_ge x t with ct | ct
        · have hlt : (x : Int) < t := by omega
          obtain ⟨h2, hh2⟩ : ∃ h2, x + 4294967296 = h2 := ⟨_, rfl⟩
          have uh2 : IntKind.u64.wrap ((x : Int) + 4294967296) = (h2 : Int) := by rw [IntKind.wrap_u64]; omega
          obtain ⟨lo, hlo⟩ : ∃ z, h2 - t = z := ⟨_, rfl⟩
          have uz : IntKind.u64.wrap ((h2 : Int) - t) = (lo : Int) := by rw [IntKind.wrap_u64]; omega
          have HT := hide (show Vg.nat32 (zs ++ [lo]) + Vg.nat32 (ys.take (j + 1)) = Vg.nat32 (xs.take (j + 1)) + Vg.P32 (j + 1) * 1 from
            Vg.minus_step HI.out.2.2 Sx Sy (by omega) HE.out.2)
          have HC := hide (show lo < 4294967296 ∧ j < N1 from ⟨by omega, by omega⟩)
          have u1 := wrap32_nat (x := lo) HC.out.1
          have HW := hide HE.out.1
          clear hlo Sx Sy HE crb hh2
          subst ht
          go_wp2_with (at_builtin; refine wpList_append_own _ rfl _ _ 43 rfl w.heap.size 78 i0 (.int .u32 0) 1 4 Try.underlying43 hi hz0 hz1 hz2 rfl (by decide) _ (zs).length ((zs).map wv) rfl (HO.out.1.alloc _) ⟨wr.heap.size, 0, none⟩ 1 1 [.int .u32 (lo : Nat)] rfl rfl (by intro j u hj; rcases j with _ | j <;> simp at hj; subst hj; simp [Addr.add]) (by intro u hu; simp at hu; subst hu; rfl) (by have := HL.out; have := HI.out; unfold maxLen; omega) (by have := HL.out; have := HI.out; omega) (by have := HO.out.2.size; simp; omega) ?_; intro v' w1 hown' hgrow _)
          have R := hide (own_more32 HO.out.1 HO.out.2 hown' hgrow)
          clear hown' hgrow HO
          go_wp2
          go_roundg (N1 - (j + 1))
          case measure => have := HI.out; have := HC.out; omega
          case rel => exact ⟨j + 1, 1, zs ++ [lo], rfl, by simp, hide ⟨by have := HC.out; omega, by decide, by rw [List.length_append, HI.out.2.2]; rfl⟩, hide ⟨HW.out.snoc HC.out.1, HT.out⟩, R⟩
        · have hlt : ¬ (x : Int) < t := by omega
          obtain ⟨lo, hlo⟩ : ∃ z, x - t = z := ⟨_, rfl⟩
          have uz : IntKind.u64.wrap ((x : Int) - t) = (lo : Int) := by rw [IntKind.wrap_u64]; omega
          have HT := hide (show Vg.nat32 (zs ++ [lo]) + Vg.nat32 (ys.take (j + 1)) = Vg.nat32 (xs.take (j + 1)) + Vg.P32 (j + 1) * 0 from
            Vg.minus_step HI.out.2.2 Sx Sy (by omega) HE.out.2)
          have HC := hide (show lo < 4294967296 ∧ j < N1 from ⟨by omega, by omega⟩)
          have u1 := wrap32_nat (x := lo) HC.out.1
          have HW := hide HE.out.1
          clear hlo Sx Sy HE crb
          subst ht
          go_wp2_with (at_builtin; refine wpList_append_own _ rfl _ _ 43 rfl w.heap.size 78 i0 (.int .u32 0) 1 4 Try.underlying43 hi hz0 hz1 hz2 rfl (by decide) _ (zs).length ((zs).map wv) rfl (HO.out.1.alloc _) ⟨wr.heap.size, 0, none⟩ 1 1 [.int .u32 (lo : Nat)] rfl rfl (by intro j u hj; rcases j with _ | j <;> simp at hj; subst hj; simp [Addr.add]) (by intro u hu; simp at hu; subst hu; rfl) (by have := HL.out; have := HI.out; unfold maxLen; omega) (by have := HL.out; have := HI.out; omega) (by have := HO.out.2.size; simp; omega) ?_; intro v' w1 hown' hgrow _)
          have R := hide (own_more32 HO.out.1 HO.out.2 hown' hgrow)
          clear hown' hgrow HO
          go_wp2
          go_roundg (N1 - (j + 1))
          case measure => have := HI.out; have := HC.out; omega
          case rel => exact ⟨j + 1, 0, zs ++ [lo], rfl, by simp, hide ⟨by have := HC.out; omega, by decide, by rw [List.length_append, HI.out.2.2]; rfl⟩, hide ⟨HW.out.snoc HC.out.1, HT.out⟩, R⟩
    · have hj : j = N1 := by have := HI.out; omega
      have HT := hide (show Vg.nat32 zs = Vg.nat32 xs - Vg.nat32 ys from by
        have h := HE.out.2
        have l := Vg.nat32_lt zs HE.out.1
        have hn := HN.out
        rw [HI.out.2.2] at l
        rw [List.take_of_length_le (by omega), List.take_of_length_le (by omega)] at h
        rcases (show cr = 0 ∨ cr = 1 by omega) with e | e
        · rw [e, Nat.mul_zero] at h; omega
        · rw [e, Nat.mul_one] at h; omega)
      have NM := norm_any _ _ _ (Rw.own HE.out.1 HO.out.1) (by rw [HI.out.2.2]; have := HL.out; omega)
      rw [HT.out, HI.out.2.2] at NM
      have HJ := hide hj
      clear crb HE HT
      go_wp2_with fail
      refine NM.mono ?_; rintro e w9 ⟨v9, ys', rfl, h1, h2, h3, h4, hb9⟩
      have R9 := hide (show _ ∧ _ ∧ _ ∧ _ ∧ _ from ⟨h1, h2, h3, h4, bch HO.out.2 hb9⟩)
      clear h1 h2 h3 h4 hb9 NM HO
      go_wp2
      go_ret
      exact ⟨_, ys', rfl, R9.out.1, R9.out.2.1, R9.out.2.2.1, by have := R9.out.2.2.2.1; have := HJ.out; omega, R9.out.2.2.2.2⟩
end Go.Proofs.Ytljnadoodbninaa
