/- Contracts of the reference's sub and guess: a multiple is taken away where it stands. -/
import Derived.Test.YtljnadoodbninaaWTimes
namespace Vg
theorem sub_step {zs zs0 ys : List Nat} {i c b c' b' h t z x y c1 : Nat} (hi : i < zs.length) (hi0 : i < zs0.length) (hd : zs0[i] = h) (hy : nat32 (ys.take (i + 1)) = nat32 (ys.take i) + P32 i * y)
    (h1 : c1 = c + y * x) (h2 : t = c1 % 4294967296 + b) (h3 : c' = c1 / 4294967296) (h4 : z + t = h + 4294967296 * b')
    (e : nat32 (zs.take i) + x * nat32 (ys.take i) = nat32 (zs0.take i) + (b + c) * P32 i) :
    nat32 ((zs.set i z).take (i + 1)) + x * nat32 (ys.take (i + 1)) = nat32 (zs0.take (i + 1)) + (b' + c') * P32 (i + 1) := by
  have l1 : i < (zs.set i z).length := by rw [List.length_set]; exact hi
  rw [nat32_snoc l1, nat32_snoc hi0, hd, hy, List.getElem_set_self, List.take_set_of_le (by omega), P32_succ]
  have dm := Nat.div_add_mod c1 4294967296
  have k : b + c + (z + y * x) = h + 4294967296 * (b' + c') := by
    rw [h3]
    omega
  have e1 : nat32 (zs.take i) + P32 i * z + x * (nat32 (ys.take i) + P32 i * y) = nat32 (zs.take i) + x * nat32 (ys.take i) + P32 i * (z + y * x) := by
    rw [Nat.mul_add, Nat.mul_add, Nat.mul_left_comm x, Nat.mul_comm x y]; omega
  have e2 : nat32 (zs0.take i) + P32 i * h + (b' + c') * (4294967296 * P32 i) = nat32 (zs0.take i) + P32 i * (h + 4294967296 * (b' + c')) := by
    rw [Nat.mul_add, Nat.mul_left_comm (b' + c'), Nat.mul_comm (b' + c'), Nat.mul_left_comm (P32 i)]; omega
  rw [e1, e2, e, ← k, Nat.mul_add (P32 i) (b + c), Nat.mul_comm (P32 i) (b + c)]
  omega
theorem sub_end {A B S c P : Nat} (e : A + S = B + c * P) (hS : S ≤ B) (hA : A < P) : c = 0 ∧ A + S = B := by
  rcases Nat.eq_zero_or_pos c with h | h
  · subst h; rw [Nat.zero_mul] at e; exact ⟨rfl, e⟩
  · have := Nat.le_mul_of_pos_left P h
    omega
theorem guess_ok {rs bs : List Nat} {n q : Nat} (hb : bs.length = n + 1) (hr : rs.length = n + 2) (wb : Wd bs) (h : nat32 bs ≤ nat32 rs) (hlt : nat32 rs < nat32 bs * 4294967296)
    (hq : q = (rs[n] + rs[n + 1] * 4294967296) / (bs[n] + 1)) : 0 < (if q = 0 then 1 else q) ∧ (if q = 0 then 1 else q) < 4294967296 ∧ (if q = 0 then 1 else q) * nat32 bs ≤ nat32 rs := by
  have e1 := nat32_snoc (xs := rs) (i := n) (by omega)
  have e2 := nat32_snoc (xs := rs) (i := n + 1) (by omega)
  have e3 := nat32_snoc (xs := bs) (i := n) (by omega)
  rw [List.take_of_length_le (by omega)] at e2
  rw [List.take_of_length_le (by omega)] at e3
  have l := nat32_lt _ (wb.take n)
  rw [List.length_take, Nat.min_eq_left (by omega)] at l
  have hle : q * nat32 bs ≤ nat32 rs := by
    have k := Nat.div_mul_le_self (rs[n] + rs[n + 1] * 4294967296) (bs[n] + 1)
    rw [← hq] at k
    have m1 : nat32 bs ≤ (bs[n] + 1) * P32 n := by rw [Nat.add_mul, Nat.one_mul, Nat.mul_comm bs[n]]; omega
    have m2 := Nat.mul_le_mul_left q m1
    rw [← Nat.mul_assoc] at m2
    have m3 := Nat.mul_le_mul_right (P32 n) k
    have m4 : (rs[n] + rs[n + 1] * 4294967296) * P32 n ≤ nat32 rs := by
      rw [e2, e1, P32_succ, Nat.add_mul, Nat.mul_comm rs[n], Nat.mul_right_comm 4294967296, Nat.mul_comm (4294967296 * rs[n + 1]), Nat.mul_comm rs[n + 1]]
      rw [Nat.mul_comm (P32 n) (4294967296 * rs[n + 1])]
      omega
    omega
  have hx : (if q = 0 then 1 else q) * nat32 bs ≤ nat32 rs := by
    split
    · rw [Nat.one_mul]; exact h
    · exact hle
  refine ⟨by split <;> omega, ?_, hx⟩
  refine Classical.byContradiction fun c => ?_
  have := Nat.mul_le_mul_right (nat32 bs) (show 4294967296 ≤ (if q = 0 then 1 else q) by omega)
  rw [Nat.mul_comm 4294967296] at this
  omega
end Vg
namespace Go.Proofs.Ytljnadoodbninaa
open Go.RowKit
theorem grown_refl (w : World) (r : Option Nat) : w.grownBy w r := ⟨rfl, rfl, rfl, Nat.le_refl _, fun _ _ _ => rfl⟩
theorem grown_trans {w w1 w2 : World} {r : Option Nat} (h : w.grownBy w1 r) (k : w1.grownBy w2 r) : w.grownBy w2 r :=
  ⟨k.os.trans h.os, k.tape.trans h.tape, k.output.trans h.output, Nat.le_trans h.size k.size, fun i hi hr => (k.block i (Nat.lt_of_lt_of_le hi h.size) hr).trans (h.block i hi hr)⟩
theorem grown_drewN {w w1 : World} {r : Option Nat} (h : w.grownBy w1 r) (n : Nat) : w.grownBy (w1.drewN n) r := ⟨h.os, h.tape, h.output, h.size, h.block⟩
theorem Ow.grown {w wr w' : World} {G K G' : Nat} {zs : List Nat} (h : Ow w wr G K zs) (hg : wr.grownBy w' (some G')) (hne : G ≠ G') (hG : w.heap.size ≤ G') : Ow w w' G K zs :=
  ⟨h.1.kept hg (.inr (by simpa [Value.ownBlock] using hne)), h.2.1, h.2.2.1, h.2.2.2.1, h.2.2.2.2.grown hg h.2.2.2.2.size (fun k hk => by injection hk with hk; omega)⟩
theorem Ow.below {w wr w' : World} {G K : Nat} {zs : List Nat} (h : Ow w wr G K zs) (hb : Below wr.heap.size wr w') : Ow w w' G K zs :=
  ⟨h.1.kept (row := none) ⟨hb.os, hb.tape, hb.output, hb.size, fun k hk _ => hb.block k hk⟩ (.inr (by simp [Value.ownBlock])), h.2.1, h.2.2.1, h.2.2.2.1, bch h.2.2.2.2 hb⟩
theorem Ow.far {w wr : World} {G K G' K' : Nat} {zs zs' : List Nat} (h : Ow w wr G K zs) (h' : Ow w wr G' K' zs') (hne : G ≠ G') (p : Nat) (x : Value) : Ow w (wr.setCell ⟨G', p, none⟩ x) G K zs :=
  h.grown (h'.1.stored p x).2 hne h'.2.2.2.1
theorem or_lowS (x y : Nat) (hx : x < 4294967296) (hy : y < 4294967296) : bits .or .u64 ((y * 4294967296 : Nat) : Int) (x : Int) = ((x + y * 4294967296 : Nat) : Int) := by
  have h := u64_or_nat (y * 4294967296) x (by omega) (by omega)
  rw [h]
  congr 1
  have e := Nat.shiftLeft_add_eq_or_of_lt (i := 32) (b := x) (by omega) y
  rw [Nat.shiftLeft_eq] at e
  rw [← e, Nat.add_comm]
def TSb (w w0 : World) (G K : Nat) (N : Nat) (e : Ending) (w' : World) : Prop := ∃ zs', e = .returned (.tuple #[]) ∧ Ow w w' G K zs' ∧ Vg.nat32 zs' = N ∧ w0.grownBy w' (some G)
set_option maxRecDepth 20000 in
set_option maxHeartbeats 8000000 in
theorem sub_any (w w0 : World) (G K : Nat) (zs : List Nat) (b : Value) (ys : List Nat) (x : Nat) (hO : Ow w w0 G K zs) (hb : Rw w b ys) (hx : x < 4294967296) (hM : ys.length ≤ K) (hK : K ≤ 35184372088831) (hle : x * Vg.nat32 ys ≤ Vg.nat32 zs) :
    Calls Try.prog 142 #[.slice (some ⟨G, 0, none⟩) K K, b, .int .u64 x] w0 (TSb w w0 G K (Vg.nat32 zs - x * Vg.nat32 ys)) := by
  have HB := hide hb
  obtain ⟨A2, c2, rfl⟩ := hb.len
  obtain ⟨M, hM'⟩ : ∃ n, ys.length = n := ⟨_, rfl⟩
  rw [hM']
  have HN := hide (show ys.length = M ∧ M ≤ K ∧ K ≤ 35184372088831 ∧ x * Vg.nat32 ys ≤ Vg.nat32 zs ∧ zs.length = K from ⟨hM', by omega, hK, hle, hO.2.1⟩)
  have HO0 := hide hO
  have HX := hide hx
  clear hb hM hM' hK hle hO hx
  go_enter Try.func142, Try.ntmps142
  go_wp2_with fail
  go_loopg [6, 7, 8] K (fun k cc bb ii w1 => ∃ (i c b : Nat) (zt : List Nat), cc = .int .u64 c ∧ bb = .int .u64 b ∧ ii = .int .i64 i ∧ Hid (i + k = K ∧ c < 4294967296 ∧ b ≤ 1) ∧ Hid (Ow w w1 G K zt ∧ w0.grownBy w1 (some G)) ∧ Hid (Vg.nat32 (zt.take i) + x * Vg.nat32 (ys.take i) = Vg.nat32 (zs.take i) + (b + c) * Vg.P32 i ∧ ∀ p (h : p < zt.length) (h0 : p < zs.length), i ≤ p → zt[p] = zs[p]))
  case atStart => exact ⟨0, 0, 0, zs, rfl, rfl, rfl, hide ⟨by omega, by decide, by decide⟩, hide ⟨HO0.out, grown_refl _ _⟩, hide ⟨by simp [Vg.nat32], fun _ _ _ _ => rfl⟩⟩
  case round =>
    obtain ⟨i, c, b, zt, rfl, rfl, rfl, HI, HO, HE⟩ := hrel
    by_cases ck : (i : Int) < K
    · have hzt := HO.out.1.2.1
      have hi : i < zt.length := by omega
      have hi0 : i < zs.length := by have := HN.out.2.2.2.2; omega
      obtain ⟨h, hh⟩ : ∃ h, zt[i] = h := ⟨_, rfl⟩
      have hh0 : zs[i] = h := by rw [← hh]; exact (HE.out.2 i hi hi0 (Nat.le_refl _)).symm
      have hhb : h < 4294967296 := by rw [← hh]; exact HO.out.1.2.2.1.at hi
      have hcz := HO.out.1.cell hi hh
      have f1 := HO.out.1.free i
      have ewi : IntKind.i64.wrap ((i : Int) + 1) = (i + 1 : Nat) := by rw [IntWalk.i64_in _ (by have := HN.out; omega)]; rfl
      have uh : IntKind.u64.wrap (h : Int) = (h : Int) := by rw [IntKind.wrap_u64]; omega
      have main : ∀ (c1 y : Nat), c1 = c + y * x → y < 4294967296 → Vg.nat32 (ys.take (i + 1)) = Vg.nat32 (ys.take i) + Vg.P32 i * y → ∃ t c' : Nat, c1 ≤ 18446744073709551615 ∧ bits .and .u64 (c1 : Int) 4294967295 = ((c1 % 4294967296 : Nat) : Int) ∧ c1 % 4294967296 + b = t ∧ t ≤ 4294967296 ∧ c1 / 4294967296 = c' ∧ c' < 4294967296 ∧
          ∀ z b' : Nat, z + t = h + 4294967296 * b' → Vg.nat32 ((zt.set i z).take (i + 1)) + x * Vg.nat32 (ys.take (i + 1)) = Vg.nat32 (zs.take (i + 1)) + (b' + c') * Vg.P32 (i + 1) := by
        intro c1 y e1 hyb hyt
        have m : y * x ≤ 4294967295 * 4294967295 := Nat.mul_le_mul (by omega) (by have := HX.out; omega)
        have hI := HI.out
        have hc1 : c1 ≤ 18446744073709551615 := by omega
        refine ⟨_, _, hc1, and_low c1 hc1, rfl, by omega, rfl, by omega, fun z b' e4 => ?_⟩
        exact Vg.sub_step hi hi0 hh0 hyt e1 rfl rfl e4 HE.out.1
      by_cases cm : (i : Int) < M
      · have hiy : i < ys.length := by have := HN.out; omega
        obtain ⟨g', o', hA', hcell'⟩ := HB.out.at hiy
        obtain ⟨y, hy⟩ : ∃ y, ys[i] = y := ⟨_, rfl⟩
        rw [hy] at hcell'
        obtain rfl : A2 = some ⟨g', o', none⟩ := hA' _ _ (by rw [HN.out.1])
        have hcy : wr.cell? ⟨g', o' + i, none⟩ = some (.int .u32 (y : Nat)) := keep_cell HO.out.1.2.2.2.2 hcell'.1 hcell'.2
        have hyb : y < 4294967296 := by rw [← hy]; exact HB.out.1.at hiy
        have uy : IntKind.u64.wrap (y : Int) = (y : Int) := by rw [IntKind.wrap_u64]; omega
        have hyx : y * x ≤ 4294967295 * 4294967295 := Nat.mul_le_mul (by omega) (by have := HX.out; omega)
        obtain ⟨pr, hpr⟩ : ∃ s, y * x = s := ⟨_, rfl⟩
        have upr : IntKind.u64.wrap ((y : Int) * x) = (pr : Int) := by
          have : (y : Int) * x = (pr : Int) := by rw [← hpr]; norm_cast
          rw [this, IntKind.wrap_u64]; omega
        obtain ⟨c1, hc1⟩ : ∃ s, c + pr = s := ⟨_, rfl⟩
        have uc1 : IntKind.u64.wrap ((c : Int) + pr) = (c1 : Int) := by rw [IntKind.wrap_u64]; have := HI.out; omega
        obtain ⟨t, c', m1, a1, m2, m3, m4, m5, fin⟩ := main c1 y (by omega) hyb (by rw [Vg.nat32_snoc hiy, hy])
        obtain ⟨lo, hlo⟩ : ∃ lo, c1 % 4294967296 = lo := ⟨_, rfl⟩
        rw [hlo] at a1 m2
        have ut : IntKind.u64.wrap ((lo : Int) + b) = (t : Int) := by rw [IntKind.wrap_u64]; omega
        have e3 : (c1 : Int) / 4294967296 = (c' : Int) := by omega
        rcases Nat.lt_or_ge h t with ht | ht
        · have ht' : (h : Int) < t := by omega
          obtain ⟨h2, hh2⟩ : ∃ h2, h + 4294967296 = h2 := ⟨_, rfl⟩
          have uh2 : IntKind.u64.wrap ((h : Int) + 4294967296) = (h2 : Int) := by rw [IntKind.wrap_u64]; omega
          obtain ⟨z, hz⟩ : ∃ z, h2 - t = z := ⟨_, rfl⟩
          have uz : IntKind.u64.wrap ((h2 : Int) - t) = (z : Int) := by rw [IntKind.wrap_u64]; omega
          have hzb : z < 4294967296 := by omega
          have u32 := wrap32_nat hzb
          have HS := hide (HO.out.1.set i hzb)
          have HG := hide (grown_trans HO.out.2 (HO.out.1.1.stored i (wv z)).2)
          have HT := hide (fin z 1 (by omega))
          have HC := hide (show c' < 4294967296 ∧ i + 1 ≤ K from ⟨m5, by omega⟩)
          have HD := hide HE.out.2
          have HJ := hide (show i + 1 + (gk - 1) = K ∧ gk - 1 < gk from by have := HI.out; omega)
          clear hcell' hA' hy hiy hyb hyx hpr hc1 hlo m1 m2 m3 m4 m5 fin main HE HO HI hh hh0 hhb hi hi0 hzt hz hzb hh2
          go_wp2
          go_roundg (gk - 1)
          case measure => exact HJ.out.2
          case rel => exact ⟨i + 1, c', 1, zt.set i z, rfl, rfl, by simp, hide ⟨HJ.out.1, HC.out.1, by decide⟩, hide ⟨HS.out, HG.out⟩, hide ⟨HT.out, fun p h1 h0 hp => by rw [List.getElem_set_ne (by omega)]; exact HD.out p (by simpa using h1) h0 (by omega)⟩⟩
        · have ht' : ¬ (h : Int) < t := by omega
          obtain ⟨z, hz⟩ : ∃ z, h - t = z := ⟨_, rfl⟩
          have uz : IntKind.u64.wrap ((h : Int) - t) = (z : Int) := by rw [IntKind.wrap_u64]; omega
          have hzb : z < 4294967296 := by omega
          have u32 := wrap32_nat hzb
          have HS := hide (HO.out.1.set i hzb)
          have HG := hide (grown_trans HO.out.2 (HO.out.1.1.stored i (wv z)).2)
          have HT := hide (fin z 0 (by omega))
          have HC := hide (show c' < 4294967296 ∧ i + 1 ≤ K from ⟨m5, by omega⟩)
          have HD := hide HE.out.2
          have HJ := hide (show i + 1 + (gk - 1) = K ∧ gk - 1 < gk from by have := HI.out; omega)
          clear hcell' hA' hy hiy hyb hyx hpr hc1 hlo m1 m2 m3 m4 m5 fin main HE HO HI hh hh0 hhb hi hi0 hzt hz hzb
          go_wp2
          go_roundg (gk - 1)
          case measure => exact HJ.out.2
          case rel => exact ⟨i + 1, c', 0, zt.set i z, rfl, rfl, by simp, hide ⟨HJ.out.1, HC.out.1, by decide⟩, hide ⟨HS.out, HG.out⟩, hide ⟨HT.out, fun p h1 h0 hp => by rw [List.getElem_set_ne (by omega)]; exact HD.out p (by simpa using h1) h0 (by omega)⟩⟩
      · obtain ⟨c1, hc1⟩ : ∃ c1, c = c1 := ⟨_, rfl⟩
        have hy0 : ys.take (i + 1) = ys.take i := by rw [List.take_of_length_le (by have := HN.out; omega), List.take_of_length_le (by have := HN.out; omega)]
        obtain ⟨t, c', m1, a1, m2, m3, m4, m5, fin⟩ := main c1 0 (by omega) (by decide) (by rw [hy0, Nat.mul_zero, Nat.add_zero])
        subst hc1
        obtain ⟨lo, hlo⟩ : ∃ lo, c % 4294967296 = lo := ⟨_, rfl⟩
        rw [hlo] at a1 m2
        have ut : IntKind.u64.wrap ((lo : Int) + b) = (t : Int) := by rw [IntKind.wrap_u64]; omega
        have e3 : (c : Int) / 4294967296 = (c' : Int) := by omega
        rcases Nat.lt_or_ge h t with ht | ht
        · have ht' : (h : Int) < t := by omega
          obtain ⟨h2, hh2⟩ : ∃ h2, h + 4294967296 = h2 := ⟨_, rfl⟩
          have uh2 : IntKind.u64.wrap ((h : Int) + 4294967296) = (h2 : Int) := by rw [IntKind.wrap_u64]; omega
          obtain ⟨z, hz⟩ : ∃ z, h2 - t = z := ⟨_, rfl⟩
          have uz : IntKind.u64.wrap ((h2 : Int) - t) = (z : Int) := by rw [IntKind.wrap_u64]; omega
          have hzb : z < 4294967296 := by omega
          have u32 := wrap32_nat hzb
          have HS := hide (HO.out.1.set i hzb)
          have HG := hide (grown_trans HO.out.2 (HO.out.1.1.stored i (wv z)).2)
          have HT := hide (fin z 1 (by omega))
          have HC := hide (show c' < 4294967296 ∧ i + 1 ≤ K from ⟨m5, by omega⟩)
          have HD := hide HE.out.2
          have HJ := hide (show i + 1 + (gk - 1) = K ∧ gk - 1 < gk from by have := HI.out; omega)
          clear hy0 hlo m1 m2 m3 m4 m5 fin main HE HO HI hh hh0 hhb hi hi0 hzt hz hzb hh2
          go_wp2
          go_roundg (gk - 1)
          case measure => exact HJ.out.2
          case rel => exact ⟨i + 1, c', 1, zt.set i z, rfl, rfl, by simp, hide ⟨HJ.out.1, HC.out.1, by decide⟩, hide ⟨HS.out, HG.out⟩, hide ⟨HT.out, fun p h1 h0 hp => by rw [List.getElem_set_ne (by omega)]; exact HD.out p (by simpa using h1) h0 (by omega)⟩⟩
        · have ht' : ¬ (h : Int) < t := by omega
          obtain ⟨z, hz⟩ : ∃ z, h - t = z := ⟨_, rfl⟩
          have uz : IntKind.u64.wrap ((h : Int) - t) = (z : Int) := by rw [IntKind.wrap_u64]; omega
          have hzb : z < 4294967296 := by omega
          have u32 := wrap32_nat hzb
          have HS := hide (HO.out.1.set i hzb)
          have HG := hide (grown_trans HO.out.2 (HO.out.1.1.stored i (wv z)).2)
          have HT := hide (fin z 0 (by omega))
          have HC := hide (show c' < 4294967296 ∧ i + 1 ≤ K from ⟨m5, by omega⟩)
          have HD := hide HE.out.2
          have HJ := hide (show i + 1 + (gk - 1) = K ∧ gk - 1 < gk from by have := HI.out; omega)
          clear hy0 hlo m1 m2 m3 m4 m5 fin main HE HO HI hh hh0 hhb hi hi0 hzt hz hzb
          go_wp2
          go_roundg (gk - 1)
          case measure => exact HJ.out.2
          case rel => exact ⟨i + 1, c', 0, zt.set i z, rfl, rfl, by simp, hide ⟨HJ.out.1, HC.out.1, by decide⟩, hide ⟨HS.out, HG.out⟩, hide ⟨HT.out, fun p h1 h0 hp => by rw [List.getElem_set_ne (by omega)]; exact HD.out p (by simpa using h1) h0 (by omega)⟩⟩
    · have hik : i = K := by have := HI.out; omega
      have R : Hid (Vg.nat32 zt = Vg.nat32 zs - x * Vg.nat32 ys) := hide (by
        have e := HE.out.1
        have hK1 : zt.length = K := HO.out.1.2.1
        have hn := HN.out
        rw [hik, List.take_of_length_le (by omega), List.take_of_length_le (by omega), List.take_of_length_le (by omega)] at e
        have l := Vg.nat32_lt zt HO.out.1.2.2.1
        rw [hK1] at l
        have := (Vg.sub_end e hn.2.2.2.1 l).2
        omega)
      clear HE HI hik
      go_wp2
      go_end0
      exact ⟨zt, rfl, HO.out.1, R.out, HO.out.2⟩

def TGu (R V : Nat) (w : World) (e : Ending) (w' : World) : Prop := ∃ x : Nat, e = .returned (.int .u64 x) ∧ (0 < x ∧ x < 4294967296 ∧ x * V ≤ R) ∧ Below w.heap.size w w'
set_option maxRecDepth 20000 in
set_option maxHeartbeats 4000000 in
theorem guess_any (a b : Value) (rs bs : List Nat) (n : Nat) (w : World) (ha : Rw w a rs) (hb : Rw w b bs) (lb : bs.length = n + 1) (lr : rs.length = n + 2) (hl : n ≤ 35184372088831) (h : Vg.nat32 bs ≤ Vg.nat32 rs) (hlt : Vg.nat32 rs < Vg.nat32 bs * 4294967296) :
    Calls Try.prog 141 #[a, b] w (TGu (Vg.nat32 rs) (Vg.nat32 bs) w) := by
  obtain ⟨g, o, hA, hcell⟩ := ha.at (i := n) (by omega)
  obtain ⟨g', o', hA', hcell'⟩ := ha.at (i := n + 1) (by omega)
  obtain ⟨g2, o2, hB, hcellb⟩ := hb.at (i := n) (by omega)
  have HF := hide (fun q hq => Vg.guess_ok (q := q) lb lr hb.1 h hlt hq)
  obtain ⟨A1, c1, rfl⟩ := ha.len
  obtain ⟨A2, c2, rfl⟩ := hb.len
  obtain rfl : A1 = some ⟨g, o, none⟩ := hA _ _ rfl
  obtain ⟨rfl, rfl⟩ : g' = g ∧ o' = o := by have e := hA' _ _ rfl; injection e with e; injection e with e1 e2; exact ⟨e1.symm, e2.symm⟩
  obtain rfl : A2 = some ⟨g2, o2, none⟩ := hB _ _ rfl
  have x1 := ha.1.at (i := n) (by omega)
  have x2 := ha.1.at (i := n + 1) (by omega)
  have x3 := hb.1.at (i := n) (by omega)
  obtain ⟨lo, hlo⟩ : ∃ v, rs[n] = v := ⟨_, rfl⟩
  obtain ⟨hi, hhi⟩ : ∃ v, rs[n + 1] = v := ⟨_, rfl⟩
  obtain ⟨tp, htp⟩ : ∃ v, bs[n] = v := ⟨_, rfl⟩
  rw [hlo, hhi, htp] at HF
  rw [hlo] at x1 hcell
  rw [hhi] at x2 hcell'
  rw [htp] at x3 hcellb
  obtain ⟨N1, hN1⟩ : ∃ N1, n + 1 = N1 := ⟨_, rfl⟩
  obtain ⟨N2, hN2⟩ : ∃ N2, n + 2 = N2 := ⟨_, rfl⟩
  rw [lb, lr, hN1, hN2]
  have ew : IntKind.i64.wrap ((N1 : Int) - 1) = (n : Int) := by rw [IntWalk.i64_in _ (by omega)]; omega
  have c1' : w.cell? ⟨g', o' + n, none⟩ = some (.int .u32 (lo : Nat)) := hcell.2
  have c2' : w.cell? ⟨g', o' + N1, none⟩ = some (.int .u32 (hi : Nat)) := by rw [← hN1]; exact hcell'.2
  have c3' : w.cell? ⟨g2, o2 + n, none⟩ = some (.int .u32 (tp : Nat)) := hcellb.2
  have k1 : (n : Int) < N2 := by omega
  have k2 : (N1 : Int) < N2 := by omega
  have k3 : (n : Int) < N1 := by omega
  have ulo : IntKind.u64.wrap (lo : Int) = (lo : Int) := by rw [IntKind.wrap_u64]; omega
  have uhi : IntKind.u64.wrap (hi : Int) = (hi : Int) := by rw [IntKind.wrap_u64]; omega
  have utp : IntKind.u64.wrap (tp : Int) = (tp : Int) := by rw [IntKind.wrap_u64]; omega
  obtain ⟨V2, hV2⟩ : ∃ V2, hi * 4294967296 = V2 := ⟨_, rfl⟩
  have ev : IntKind.u64.wrap ((hi : Int) * 4294967296) = (V2 : Int) := by rw [IntKind.wrap_u64]; omega
  have ev2 : (hi : Int) * 4294967296 % 18446744073709551616 = (V2 : Int) := by omega
  have eo := or_lowS lo hi x1 x2
  rw [hV2] at eo HF
  obtain ⟨T, hT⟩ : ∃ T, lo + V2 = T := ⟨_, rfl⟩
  rw [hT] at eo HF
  obtain ⟨D, hD⟩ : ∃ D, tp + 1 = D := ⟨_, rfl⟩
  rw [hD] at HF
  have ud : IntKind.u64.wrap ((tp : Int) + 1) = (D : Int) := by rw [IntKind.wrap_u64]; omega
  have d0 : ((D : Int) == 0) = false := by rw [beq_eq_false_iff_ne]; omega
  have d0' : (D == 0) = false := by rw [beq_eq_false_iff_ne]; omega
  obtain ⟨q, hq⟩ : ∃ q, T / D = q := ⟨_, rfl⟩
  have hqb : q ≤ T := by rw [← hq]; exact Nat.div_le_self _ _
  have e1 : (T : Int) / (D : Int) = (q : Int) := by rw [← hq]; norm_cast
  have e2 : (T : Int).tdiv (D : Int) = (q : Int) := by rw [Int.tdiv_eq_ediv_of_nonneg (by omega), e1]
  have uq : IntKind.u64.wrap (q : Int) = (q : Int) := by rw [IntKind.wrap_u64]; omega
  have R := HF.out q hq.symm
  have HR := hide R
  have hD0 : ¬ (D : Int) = 0 := by omega
  clear hN1 hN2 hcell hcell' hcellb hA hA' hB hlo hhi htp x1 x2 x3 hV2 hT hD hq hqb HF R ha hb lb lr hl h hlt
  go_enter Try.func141, Try.ntmps141
  go_wp2_with fail
  go_quiet (fail)
  by_cases c : q = 0
  · subst c
    go_wp2
    go_ret
    exact ⟨1, rfl, HR.out, below_drewN (Below.refl _ _) _⟩
  · have t0 : (q == 0) = false := beq_eq_false_iff_ne.2 c
    have t1 : ((q : Int) == 0) = false := by rw [beq_eq_false_iff_ne]; omega
    have R2 := HR.out
    rw [if_neg c] at R2
    have HR2 := hide R2
    clear R2 HR c
    go_wp2
    go_ret
    exact ⟨q, rfl, HR2.out, below_drewN (Below.refl _ _) _⟩
end Go.Proofs.Ytljnadoodbninaa
