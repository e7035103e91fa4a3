/- Contract of the reference's Left. -/
import Derived.Test.YtljnadoodbninaaWRight
import Derived.Deep.OwnRows
namespace Vg
theorem nat32_set : ∀ (zs : List Nat) (p : Nat) (h : p < zs.length) (v : Nat), nat32 (zs.set p v) + P32 p * zs[p] = nat32 zs + P32 p * v
  | [], p, h, _ => by simp at h
  | b :: t, 0, _, v => by simp [nat32, P32_zero]; omega
  | b :: t, p + 1, h, v => by
    have := nat32_set t p (by simpa using h) v
    rw [List.set_cons_succ, nat32, nat32, List.getElem_cons_succ, P32_succ, Nat.mul_assoc, Nat.mul_assoc]
    omega
theorem Wd.set {zs : List Nat} (h : Wd zs) (p : Nat) {v : Nat} (hv : v < 4294967296) : Wd (zs.set p v) := by
  intro b hb
  rcases List.mem_or_eq_of_mem_set hb with hb | rfl
  · exact h b hb
  · exact hv
theorem Wd.rep (n : Nat) : Wd (List.replicate n 0) := by
  intro b hb
  rw [List.eq_of_mem_replicate hb]; decide
theorem low_room {x s c : Nat} (hs : s < 32) (hc : c < 2 ^ s) : c + x * 2 ^ s % 4294967296 < 4294967296 ∧ ∃ t, x * 2 ^ s % 4294967296 = 2 ^ s * t := by
  obtain ⟨d, hd⟩ : ∃ d, 32 = s + d := ⟨32 - s, by omega⟩
  have e : (4294967296 : Nat) = 2 ^ s * 2 ^ d := by rw [← Nat.pow_add, ← hd]
  have h1 : x * 2 ^ s % 4294967296 = 2 ^ s * (x % 2 ^ d) := by rw [e, Nat.mul_comm x, Nat.mul_mod_mul_left]
  have h2 : x % 2 ^ d < 2 ^ d := Nat.mod_lt _ (Nat.two_pow_pos _)
  refine ⟨?_, _, h1⟩
  rw [h1, e]
  have := Nat.mul_le_mul_left (2 ^ s) (show x % 2 ^ d + 1 ≤ 2 ^ d by omega)
  rw [Nat.mul_add] at this
  omega
theorem left_step {zs : List Nat} {P c x s : Nat} (h : P + 1 < zs.length) (hc : zs[P] = c) (h0 : zs[P + 1] = 0) :
    nat32 ((zs.set P (c + x * 2 ^ s % 4294967296)).set (P + 1) (x * 2 ^ s / 4294967296)) = nat32 zs + P32 P * (x * 2 ^ s) := by
  have e1 := nat32_set zs P (by omega) (c + x * 2 ^ s % 4294967296)
  have e2 := nat32_set (zs.set P (c + x * 2 ^ s % 4294967296)) (P + 1) (by rw [List.length_set]; exact h) (x * 2 ^ s / 4294967296)
  rw [List.getElem_set_ne (by omega), h0, Nat.mul_zero, Nat.add_zero] at e2
  rw [hc, Nat.mul_add] at e1
  have dm := Nat.div_add_mod (x * 2 ^ s) 4294967296
  rw [P32_succ, Nat.mul_comm 4294967296, Nat.mul_assoc] at e2
  have e3 : P32 P * (x * 2 ^ s) = P32 P * (4294967296 * (x * 2 ^ s / 4294967296)) + P32 P * (x * 2 ^ s % 4294967296) := by rw [← Nat.mul_add, dm]
  omega
end Vg
namespace Go.Proofs.Ytljnadoodbninaa
open Go.RowKit
theorem or_room {c x s : Nat} (hs : s < 32) (hc : c < 2 ^ s) : bits .or .u32 (c : Int) ((x * 2 ^ s % 4294967296 : Nat) : Int) = ((c + x * 2 ^ s % 4294967296 : Nat) : Int) := by
  obtain ⟨h1, t, ht⟩ := Vg.low_room (x := x) hs hc
  have h := u32_or_nat c (x * 2 ^ s % 4294967296) (by omega) (by omega)
  rw [h]
  congr 1
  have e := Nat.shiftLeft_add_eq_or_of_lt hc t
  rw [Nat.shiftLeft_eq, Nat.mul_comm] at e
  rw [ht, Nat.or_comm, ← e, Nat.add_comm]
theorem made_own {w w1 : World} {K : Nat} (hB : w.heap.size ≤ w1.heap.size) (hK : K ≤ 35184372088831) :
    (w1.alloc (.cells (madeCells #[.int .u32 0] K) 78)).ownsRow w.heap.size 78 1 (.slice (some ⟨w1.heap.size, 0, none⟩) K K) K ((List.replicate K 0).map wv) := by
  have h := World.ownsRow_lit w1 (madeCells #[.int .u32 0] K) (base := w.heap.size) (e := 78) (size := 1) K hB (by unfold maxLen; omega) (by simp [size_madeCells])
  rw [toList_madeCells_one] at h
  simpa [wv] using h
/-- What is known of a list of words that is written in place. -/
def Ow (w wr : World) (G K : Nat) (zs : List Nat) : Prop :=
  wr.ownsRow w.heap.size 78 1 (.slice (some ⟨G, 0, none⟩) K K) K (zs.map wv) ∧ zs.length = K ∧ Vg.Wd zs ∧ w.heap.size ≤ G ∧ Below w.heap.size w wr
theorem Ow.cell {w wr : World} {G K : Nat} {zs : List Nat} (h : Ow w wr G K zs) {p x : Nat} (hp : p < zs.length) (hx : zs[p] = x) : wr.cell? ⟨G, p, none⟩ = some (.int .u32 x) := by
  rw [h.1.cellAt p (by rw [← h.2.1]; omega), List.getElem?_map, List.getElem?_eq_getElem hp, hx]; rfl
theorem Ow.free {w wr : World} {G K : Nat} {zs : List Nat} (h : Ow w wr G K zs) (p : Nat) : wr.frozen? ⟨G, p, none⟩ = false := h.1.frozenAt p
theorem Ow.set {w wr : World} {G K : Nat} {zs : List Nat} (h : Ow w wr G K zs) (p : Nat) {x : Nat} (hx : x < 4294967296) : Ow w (wr.setCell ⟨G, p, none⟩ (.int .u32 x)) G K (zs.set p x) := by
  refine ⟨?_, by rw [List.length_set]; exact h.2.1, h.2.2.1.set p hx, h.2.2.2.1, h.2.2.2.2.setCell h.2.2.2.1 _⟩
  have e := (h.1.stored p (wv x)).1
  rw [List.map_set]; exact e
theorem Ow.drewN {w wr : World} {G K : Nat} {zs : List Nat} (h : Ow w wr G K zs) (n : Nat) : Ow w (wr.drewN n) G K zs := ⟨h.1, h.2.1, h.2.2.1, h.2.2.2.1, below_drewN h.2.2.2.2 n⟩
theorem Ow.rw {w wr : World} {G K : Nat} {zs : List Nat} (h : Ow w wr G K zs) : Rw wr (.slice (some ⟨G, 0, none⟩) K K) zs := Rw.own h.2.2.1 (by rw [h.2.1]; exact h.1)
set_option maxRecDepth 20000 in
set_option maxHeartbeats 8000000 in
theorem left_any (a : Value) (xs : List Nat) (n : Nat) (w : World) (ha : Rw w a xs) (hl : n / 32 + xs.length + 1 ≤ 35184372088831) : Calls Try.prog 133 #[a, .int .i64 n] w (TNa (Vg.nat32 xs * 2 ^ n) (n / 32 + xs.length + 1) w) := by
  have HL := hide hl
  have HA := hide ha
  have hinfo := info32
  obtain ⟨i0, hi, hz0, hz1, hz2⟩ := info_parts info32
  have W1 := fun (w' : World) (h : Below w.heap.size w w') => words_any _ xs w' (ha.keep h) (by omega)
  obtain ⟨A1, c1, rfl⟩ := ha.len
  obtain ⟨N1, hN1⟩ : ∃ n, xs.length = n := ⟨_, rfl⟩
  obtain ⟨q, hq⟩ : ∃ j, n / 32 = j := ⟨_, rfl⟩
  obtain ⟨s, hs⟩ : ∃ j, n % 32 = j := ⟨_, rfl⟩
  rw [hN1] at W1 ⊢
  have HN := hide (show xs.length = N1 ∧ n / 32 + xs.length + 1 ≤ 35184372088831 from ⟨hN1, hl⟩)
  have HQ := hide (show n / 32 = q ∧ n % 32 = s ∧ n = 32 * q + s from ⟨hq, hs, by omega⟩)
  have q1 : (n : Int).tdiv 32 = (q : Int) := by rw [Int.tdiv_eq_ediv_of_nonneg (by omega)]; omega
  have q2 : (n : Int).tmod 32 = (s : Int) := by rw [Int.tmod_eq_emod_of_nonneg (by omega)]; omega
  have r1 : IntKind.i64.wrap (q : Int) = (q : Int) := IntWalk.i64_in _ (by omega)
  have r2 : IntKind.i64.wrap (s : Int) = (s : Int) := IntWalk.i64_in _ (by omega)
  have r3 : IntKind.u64.wrap (s : Int) = (s : Int) := by rw [IntKind.wrap_u64]; omega
  have hs32 : s < 32 := by omega
  have hq0 : q ≤ 35184372088831 := by omega
  clear hl ha hN1 hq hs
  go_enter Try.func133, Try.ntmps133
  go_wp2_with fail
  refine (W1 _ (Below.refl _ _)).mono ?_; rintro e w1 ⟨m, rfl, hm, hb1⟩
  have G1 := hide hb1
  have HX := hide hm
  clear hb1 hm W1
  have hmN : m ≤ N1 := by have := HX.out.1; have := HN.out; omega
  by_cases h0 : m = 0
  · subst h0
    go_wp2
    go_ret
    refine ⟨_, [], rfl, ⟨(by intro b hb; cases hb), .inl ⟨rfl, _, _, rfl⟩⟩, ?_, ⟨Nat.le_refl _, (by intro b hb; cases hb), fun h => absurd h (by simp)⟩, Nat.zero_le _, G1.out⟩
    rw [(HX.out.zero_iff HA.out.1).1 rfl, Nat.zero_mul]; rfl
  have t0 : ((m : Int) == 0) = false := by rw [beq_eq_false_iff_ne]; omega
  have t0' : (m == 0) = false := by rw [beq_eq_false_iff_ne]; omega
  have r5 : IntKind.i64.wrap ((q : Int) + m) = (q + m : Nat) := by rw [IntWalk.i64_in _ (by have := HN.out; omega)]; rfl
  obtain ⟨K0, hK0⟩ : ∃ K, q + m = K := ⟨_, rfl⟩
  rw [hK0] at r5
  obtain ⟨K, hK⟩ : ∃ K, K0 + 1 = K := ⟨_, rfl⟩
  have r6 : IntKind.i64.wrap ((K0 : Int) + 1) = (K : Nat) := by rw [IntWalk.i64_in _ (by have := HN.out; omega)]; omega
  have hKb : K ≤ 35184372088831 := by have := HN.out; have := HQ.out; omega
  have HK := hide (show q + m = K0 ∧ K0 + 1 = K ∧ K = q + m + 1 from ⟨hK0, hK, by omega⟩)
  have hmk := fun w => run_make_row' (P := Try.prog) 43 78 (.int .u32 0) 4 Try.underlying43 hinfo rfl .i64 .i64 K (by omega) (by omega) w
  have OW := hide (show Ow w (w1.alloc (.cells (madeCells #[.int .u32 0] K) 78)) w1.heap.size K (List.replicate K 0) from ⟨made_own G1.out.size hKb, List.length_replicate, Vg.Wd.rep _, G1.out.size, G1.out.alloc G1.out.size _⟩)
  have hwg : w1.heap.size = w1.heap.size := rfl
  clear h0 hinfo hK0 hK
  go_wp2_with fail
  obtain ⟨G, hG⟩ : ∃ G, w1.heap.size = G := ⟨_, rfl⟩
  rw [hG] at OW ⊢
  go_loopg [8, 9] m (fun k i v wr => ∃ (j : Nat) (zs : List Nat), i = .int .i64 j ∧ Hid (j + k = m) ∧ Hid (Ow w wr G K zs) ∧ Hid (Vg.nat32 zs = Vg.nat32 (xs.take j) * 2 ^ n ∧ (∀ h : q + j < zs.length, zs[q + j] < 2 ^ s) ∧ ∀ p (h : p < zs.length), q + j < p → zs[p] = 0))
  case atStart => exact ⟨0, _, rfl, hide (by omega), OW, hide ⟨by rw [Vg.nat32_zeros, List.take_zero]; simp [Vg.nat32], fun h => by rw [List.getElem_replicate]; exact Nat.two_pow_pos _, fun p h _ => List.getElem_replicate h⟩⟩
  case round =>
    clear OW hmk
    obtain ⟨j, zs, rfl, HJ, HO, HZ⟩ := hrel
    by_cases c : (j : Int) < m
    · have hj : j < xs.length := by have := HN.out; omega
      obtain ⟨g, o, hA, hcell⟩ := HA.out.at hj
      obtain ⟨x, hx⟩ : ∃ m : Nat, xs[j] = m := ⟨_, rfl⟩
      rw [hx] at hcell
      obtain rfl : A1 = some ⟨g, o, none⟩ := hA _ _ (by rw [HN.out.1])
      have hc : wr.cell? ⟨g, o + j, none⟩ = some (.int .u32 (x : Nat)) := keep_cell HO.out.2.2.2.2 hcell.1 hcell.2
      have ew : IntKind.i64.wrap ((j : Int) + 1) = (j + 1 : Nat) := by rw [IntWalk.i64_in _ (by have := HN.out; omega)]; rfl
      have hjN : (j : Int) < N1 := by omega
      have hxb : x < 4294967296 := by rw [← hx]; exact HA.out.1.at hj
      have ux : IntKind.u64.wrap (x : Int) = (x : Int) := by rw [IntKind.wrap_u64]; omega
      have hp1 : q + j + 1 < zs.length := by have := HO.out.2.1; have := HK.out; omega
      have hcb := HZ.out.2.1 (by omega)
      have hz0' := HZ.out.2.2 (q + j + 1) hp1 (by omega)
      obtain ⟨cc, hcc⟩ : ∃ c, zs[q + j] = c := ⟨_, rfl⟩
      rw [hcc] at hcb
      obtain ⟨P, hP⟩ : ∃ P, q + j = P := ⟨_, rfl⟩
      have hcP : zs[P] = cc := by simp only [← hP]; exact hcc
      have hz1' : zs[P + 1] = 0 := by simp only [← hP]; exact hz0'
      have r7 : IntKind.i64.wrap ((q : Int) + j) = (P : Nat) := by rw [IntWalk.i64_in _ (by have := HN.out; omega)]; omega
      have r8 : IntKind.i64.wrap ((P : Int) + 1) = (P + 1 : Nat) := by rw [IntWalk.i64_in _ (by have := HN.out; omega)]; rfl
      have hPK : (P : Int) < K := by have := HO.out.2.1; omega
      have hPK1 : ((P + 1 : Nat) : Int) < K := by have := HO.out.2.1; omega
      have z1 := HO.out.cell (p := P) (by omega) hcP
      have z2 := HO.out.cell (p := P + 1) (by omega) hz1'
      have f1 := HO.out.free P
      have f2 := HO.out.free (P + 1)
      have hroom := (Vg.low_room (x := x) hs32 hcb).1
      have hor := or_room (x := x) hs32 hcb
      obtain ⟨V, hV⟩ : ∃ V, x * 2 ^ s = V := ⟨_, rfl⟩
      have hVb : V < 18446744073709551616 := by
        rw [← hV]
        have h1 : 2 ^ s ≤ 2 ^ 31 := Nat.pow_le_pow_right (by decide) (by omega)
        have h2 := Nat.mul_le_mul (show x ≤ 4294967295 by omega) h1
        omega
      have hVs : V / 4294967296 < 2 ^ s := by
        rw [← hV, Nat.div_lt_iff_lt_mul (by decide), Nat.mul_comm]
        exact Nat.mul_lt_mul_of_pos_left hxb (Nat.two_pow_pos _)
      have ev : (x : Int) * 2 ^ s % 18446744073709551616 = (V : Int) := by
        have : (x : Int) * 2 ^ s = (V : Int) := by rw [← hV]; norm_cast
        omega
      have ev2 : IntKind.u64.wrap ((x : Int) * 2 ^ s) = (V : Int) := by
        have : (x : Int) * 2 ^ s = (V : Int) := by rw [← hV]; norm_cast
        rw [this, IntKind.wrap_u64]; omega
      rw [hV] at hroom hor
      have a1 := and_low V (by omega)
      obtain ⟨lo, hlo⟩ : ∃ z, V % 4294967296 = z := ⟨_, rfl⟩
      obtain ⟨hi2, hhi⟩ : ∃ z, V / 4294967296 = z := ⟨_, rfl⟩
      rw [hlo] at a1 hroom hor
      have u1 := wrap32_nat (x := lo) (by omega)
      have e3 : (V : Int) / 4294967296 = (hi2 : Int) := by omega
      have u2 := wrap32_nat (x := hi2) (by omega)
      obtain ⟨d, hd⟩ : ∃ d, cc + lo = d := ⟨_, rfl⟩
      rw [hd] at hor hroom
      have HS := hide (show Ow w ((wr.setCell ⟨G, P, none⟩ (.int .u32 d)).setCell ⟨G, P + 1, none⟩ (.int .u32 hi2)) G K ((zs.set P d).set (P + 1) hi2) from (HO.out.set P hroom).set (P + 1) (by omega))
      have HV := hide (show Vg.nat32 ((zs.set P d).set (P + 1) hi2) = Vg.nat32 (xs.take (j + 1)) * 2 ^ n from by
        have h := Vg.left_step (zs := zs) (P := P) (c := cc) (x := x) (s := s) (by omega) hcP hz1'
        rw [hV, hlo, hhi, hd] at h
        rw [h, HZ.out.1, Vg.nat32_snoc hj, hx, Nat.add_mul, ← hV, HQ.out.2.2, ← hP, Vg.P32_add]
        unfold Vg.P32
        rw [Nat.pow_add]
        simp only [Nat.mul_assoc, Nat.mul_comm, Nat.mul_left_comm])
      have HH := hide (show hi2 < 2 ^ s ∧ P + 1 < zs.length ∧ q + (j + 1) = P + 1 from ⟨by rw [← hhi]; exact hVs, by omega, by omega⟩)
      have HZ2 := hide HZ.out.2.2
      clear hcell hA hx HZ hcc hP hcP hz0' hz1' hcb hVs hlo hhi hd hV hVb HO hp1
      go_wp2
      go_roundg (m - (j + 1))
      case measure => have := HJ.out; omega
      case rel =>
        refine ⟨j + 1, (zs.set P d).set (P + 1) hi2, by simp, hide (by have := HJ.out; omega), HS, hide ⟨HV.out, fun h => ?_, fun p h1 h2 => ?_⟩⟩
        · have h3 := HH.out
          simp only [h3.2.2, List.getElem_set_self]; exact h3.1
        · have h3 := HH.out
          rw [h3.2.2] at h2
          rw [List.getElem_set_ne (by omega), List.getElem_set_ne (by omega)]
          exact HZ2.out p (by simpa using h1) (by omega)
    · have hjm : j = m := by have := HJ.out; omega
      subst hjm
      have NM := fun (w' : World) (h : Below w.heap.size w w') (a : Value) (hr : Rw w' a zs) => norm_any a _ w' hr (by rw [HO.out.2.1]; exact hKb)
      have HD : Hid (Vg.nat32 zs = Vg.nat32 xs * 2 ^ n) := hide (by rw [HZ.out.1, HX.out.nat])
      go_wp2_with fail
      refine (NM _ HO.out.2.2.2.2 _ HO.out.rw).mono ?_; rintro e w9 ⟨v9, ys, rfl, h1, h2, h3, h4, hb9⟩
      rw [HO.out.2.1] at h4
      have R9 := hide (show _ ∧ _ ∧ _ ∧ _ ∧ _ from ⟨h1, h2.trans HD.out, h3, h4, bch HO.out.2.2.2.2 hb9⟩)
      clear h1 h2 h3 h4 hb9 NM HO
      go_wp2
      go_ret
      exact ⟨_, ys, rfl, R9.out.1, R9.out.2.1, R9.out.2.2.1, by have := R9.out.2.2.2.1; have := HK.out; have := HQ.out; omega, R9.out.2.2.2.2⟩
end Go.Proofs.Ytljnadoodbninaa
