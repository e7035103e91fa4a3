/- Two answers of the same bytes, written over and grown, leave one another alone. The walk. -/
import Derived.Test.YtaecbapflpejmaaWPkBoxR
import Derived.Test.YtaecbapflpejmaaWPkSameBox
import Derived.Test.YtaecbapflpejmaaWPkAwake
namespace Go.Proofs.Ytaecbapflpejmaa.packParts
open Go.RowKit

def Far (v : Value) (g : Nat) : Prop := v.ownBlock = none ∨ v.ownBlock ≠ some g
theorem far_below {w : World} {b T k n g : Nat} {v : Value} {xs : List Value} (h : w.ownsRow b T k v n xs) (hg : w.heap.size ≤ g) : Far v g := by
  cases hv : v.ownBlock
  · exact .inl hv
  · refine .inr fun e => ?_
    have := (h.lt _ hv).2
    rw [hv] at e
    injection e with e
    omega
theorem far_above {w : World} {b T k n g : Nat} {v : Value} {xs : List Value} (h : w.ownsRow b T k v n xs) (hg : g < b) : Far v g := by
  cases hv : v.ownBlock
  · exact .inl hv
  · refine .inr fun e => ?_
    have := (h.lt _ hv).1
    rw [hv] at e
    injection e with e
    omega
/-- A row that one writes into, and two that stay. -/
structure Kr (w wr : World) (T k : Nat) (v : Value) (n : Nat) (zs : List Value) (a b : Value) (ps : List (Nat × Nat)) : Prop where
  own : wr.ownsRow w.heap.size T k v n zs
  oa : wr.ownsRow w.heap.size 30 2 a ps.length (fl encF ps)
  ob : wr.ownsRow w.heap.size 24 2 b ps.length (fl encU ps)
  below : Below w.heap.size w wr
  fa : ∀ g, v.ownBlock = some g → Far a g
  fb : ∀ g, v.ownBlock = some g → Far b g
theorem Kr.set {w wr : World} {T k g n cap : Nat} {zs : List Value} {a b : Value} {ps : List (Nat × Nat)} (h : Kr w wr T k (.slice (some ⟨g, 0, none⟩) n cap) n zs a b ps) (j : Nat) (u : Value) : Kr w (wr.setCell ⟨g, j, none⟩ u) T k (.slice (some ⟨g, 0, none⟩) n cap) n (zs.set j u) a b ps := by
  have hs := h.own.stored j u
  exact ⟨hs.1, h.oa.kept hs.2 (h.fa g rfl), h.ob.kept hs.2 (h.fb g rfl), h.below.setCell ((h.own.lt g rfl).1) _, h.fa, h.fb⟩
theorem Kr.at {w wr : World} {T k g n cap : Nat} {zs : List Value} {a b : Value} {ps : List (Nat × Nat)} (h : Kr w wr T k (.slice (some ⟨g, 0, none⟩) n cap) n zs a b ps) {j : Nat} (hj : j < n * k) : (∃ u, wr.cell? ⟨g, j, none⟩ = some u) ∧ wr.frozen? ⟨g, j, none⟩ = false := by
  have hl := h.own.1
  refine ⟨⟨zs[j]'(by omega), ?_⟩, h.own.frozenAt j⟩
  rw [h.own.cellAt j hj, List.getElem?_eq_getElem]
theorem Kr.keep {w w1 w2 : World} {T k : Nat} {v : Value} {n : Nat} {zs : List Value} {a b : Value} {ps : List (Nat × Nat)} (h : Kr w w1 T k v n zs a b ps) (hb : Below w1.heap.size w1 w2) : Kr w w2 T k v n zs a b ps :=
  ⟨own_keep h.own hb, own_keep h.oa hb, own_keep h.ob hb, bch h.below hb, h.fa, h.fb⟩
theorem Kr.form {w wr : World} {T k : Nat} {v : Value} {n : Nat} {zs : List Value} {a b : Value} {ps : List (Nat × Nat)} (h : Kr w wr T k v n zs a b ps) (hn : 0 < n) : ∃ g cap, v = .slice (some ⟨g, 0, none⟩) n cap := by
  obtain ⟨-, ⟨h1, h2⟩ | ⟨g, cap, cur, h1, -⟩⟩ := h.own
  · omega
  · exact ⟨g, cap, h1⟩
theorem Kr.more {w wr w' : World} {T k : Nat} {o : Obj} {v : Value} {n m g cap : Nat} {zs ys : List Value} {a b : Value} {ps : List (Nat × Nat)} (h : Kr w wr T k v n zs a b ps)
    (h1 : w'.ownsRow w.heap.size T k (.slice (some ⟨g, 0, none⟩) m cap) m ys) (h2 : (wr.alloc o).grownBy w' v.ownBlock) (h3 : v.ownBlock = some g ∨ g = (wr.alloc o).heap.size) : Kr w w' T k (.slice (some ⟨g, 0, none⟩) m cap) m ys a b ps := by
  have far : ∀ {c : Value} {Tc kc nc : Nat} {zc : List Value}, wr.ownsRow w.heap.size Tc kc c nc zc → (∀ g, v.ownBlock = some g → Far c g) → w'.ownsRow w.heap.size Tc kc c nc zc ∧ Far c g := by
    intro c Tc kc nc zc hc hf
    refine ⟨(hc.alloc o).kept h2 ?_, ?_⟩
    · cases hv : v.ownBlock with
      | none => cases hcv : c.ownBlock <;> simp
      | some g' => exact hf g' hv
    · rcases h3 with h3 | h3
      · exact hf g h3
      · exact far_below (hc.alloc o) (by omega)
  refine ⟨h1, (far h.oa h.fa).1, (far h.ob h.fb).1, (h.below.alloc h.below.size o).grown h2 (by have := h.below.size; simp; omega) (fun j hj => (h.own.lt j hj).1), ?_, ?_⟩
  · intro g' hg'
    obtain rfl : g = g' := by simpa [Value.ownBlock] using hg'
    exact (far h.oa h.fa).2
  · intro g' hg'
    obtain rfl : g = g' := by simpa [Value.ownBlock] using hg'
    exact (far h.ob h.fb).2
theorem take_set_snoc {ys : List Value} {t : Nat} (h : t < ys.length) (v : Value) : (ys.set t v).take (t + 1) = ys.take t ++ [v] := by
  rw [List.take_succ_eq_append_getElem (by simpa using h)]
  congr 1
  · rw [List.take_set, List.set_eq_of_length_le (by rw [List.length_take]; omega)]
  · simp
theorem Rb.at' {w : World} {A : Option Addr} {n c : Nat} {xs : List Nat} (h : Rb w (.slice A n c) xs) (hn : xs.length = n) {i : Nat} (hi : i < xs.length) : ∃ g o, A = some ⟨g, o, none⟩ ∧ g < w.heap.size ∧ w.cell? ⟨g, o + i, none⟩ = some (bv xs[i]) := by
  obtain ⟨g, o, h1, h2, h3⟩ := h.at hi
  exact ⟨g, o, h1 _ _ (by rw [hn]), h2, h3⟩
set_option maxRecDepth 20000 in
set_option maxHeartbeats 16000000 in
theorem walk (v0 : Value) (xs : List Nat) (w : World) (R0 : Rb w v0 xs) (b0 : ∀ b ∈ xs, b < 256) (l0 : xs.length ≤ 140737488351232) :
    Calls Try.prog 6 #[v0] w fun e w' => e = .returned (.bool true) ∧ Below w.heap.size w w' := by
  have hst := sto
  have HR := hide R0
  have HL := hide l0
  have C1 := fun w' (h : Rb w' v0 xs) => rgetBox_any v0 xs w' h b0 (by omega)
  have C2 := fun w' (h : Rb w' v0 xs) => copied_any v0 xs w' h l0
  have C3 := fun v w' (h : Rb w' v xs) => getBox_any v xs w' h b0 (by omega)
  have C4 := fun v1 v2 w' (h1 : RP encF w' v1 (bRd xs)) (h2 : RP encU w' v2 (bRd xs)) => sameBox_any v1 v2 (bRd xs) w' h1 h2 (by have := bRd_le xs; omega)
  obtain ⟨k, hk⟩ : ∃ k : Int, (if bOk xs then (0 : Int) else 130) = k := ⟨_, rfl⟩
  obtain ⟨ps, hps⟩ : ∃ ps, bRd xs = ps := ⟨_, rfl⟩
  have HP := hide (show ps.length ≤ 32 by rw [← hps]; exact bRd_le xs)
  unfold TBox at C1 C3
  rw [hk, hps] at C1 C3
  rw [hps] at C4
  obtain ⟨A0, c0, rfl⟩ := R0.len
  obtain ⟨N, hN⟩ : ∃ n, xs.length = n := ⟨_, rfl⟩
  have HN := hide hN
  rw [hN] at HR C1 C2 ⊢
  have n1 : (N : Int) ≤ 140737488351232 := by omega
  clear R0 b0 l0 hk hps hN
  go_enter Try.func6, Try.ntmps6
  go_wp2_with fail
  refine (awake_any _).mono ?_; rintro e wa ⟨rfl, ga⟩
  go_wp2_with fail
  refine (C1 _ (HR.out.keep ga)).mono ?_; rintro e w1 ⟨v1, rfl, ho1, hb1⟩
  have O1 := hide (World.ownsRow.mono ho1 ga.size)
  have g := bch ga hb1
  clear ho1 hb1 C1 ga
  go_wp2_with fail
  refine (C2 _ (HR.out.keep g)).mono ?_; rintro e w2 ⟨v5, rfl, ho5, hb2⟩
  have F51 := hide (show ∀ gg, v5.ownBlock = some gg → Far v1 gg ∧ gg < w2.heap.size from fun gg h => ⟨far_below O1.out (ho5.lt gg h).1, (ho5.lt gg h).2⟩)
  have O1 := hide (own_keep O1.out hb2)
  have O5 := hide (World.ownsRow.mono ho5 g.size)
  have g := bch g hb2
  clear ho5 hb2 C2
  go_wp2_with fail
  refine (C3 _ _ (Rb.own O5.out)).mono ?_; rintro e w3 ⟨v6, rfl, ho6, hb3⟩
  have F61 := hide (show ∀ gg, v6.ownBlock = some gg → Far v1 gg from fun gg h => far_below O1.out (ho6.lt gg h).1)
  have K : Hid (Kr w w3 5 1 v5 N (xs.map bv) v6 v1 ps) := hide (by
    rw [← HN.out]
    exact ⟨own_keep O5.out hb3, World.ownsRow.mono ho6 g.size, own_keep O1.out hb3, bch g hb3, fun gg h => far_above ho6 (F51.out gg h).2, fun gg h => (F51.out gg h).1⟩)
  clear ho6 hb3 O1 O5 F51 g
  go_wp2_with fail
  refine (C4 _ _ _ (RP.own K.out.oa) (RP.own K.out.ob)).mono ?_; rintro e w4 ⟨rfl, hb4⟩
  have K : Hid (∃ ys, Kr w w4 5 1 v5 N ys v6 v1 ps) := hide ⟨_, K.out.keep hb4⟩
  clear hb4
  obtain ⟨A5, c5, hv5⟩ : ∃ A c, v5 = .slice A N c := by
    obtain ⟨ys, h⟩ := K.out
    obtain ⟨-, ⟨h1, h2⟩ | ⟨g, cap, cur, h1, -⟩⟩ := h.own
    · exact ⟨_, _, by rw [h1, h2]⟩
    · exact ⟨_, _, h1⟩
  subst hv5
  go_wp2_with fail
  go_loopg [8] N (fun k i wr => ∃ j : Nat, i = .int .i64 j ∧ Hid (j + k = N) ∧ Hid (∃ ys, Kr w wr 5 1 (.slice A5 N c5) N ys v6 v1 ps))
  case atStart => exact ⟨0, rfl, hide (by omega), K⟩
  case round =>
    clear K
    obtain ⟨j, rfl, HJ, K⟩ := hrel
    by_cases c : (j : Int) < N
    · obtain ⟨ys, hk⟩ := K.out
      obtain ⟨gg, cc, hv⟩ := hk.form (by omega)
      injection hv with hA hn hc
      subst hA hc
      obtain ⟨⟨u, hu⟩, hf⟩ := hk.at (j := j) (by omega)
      have K2 := hide (hk.set j (.int .u8 90))
      have ew : IntKind.i64.wrap ((j : Int) + 1) = (j + 1 : Nat) := by rw [IntWalk.i64_in _ (by omega)]; rfl
      clear K hk hn
      go_wp2
      go_roundg (N - (j + 1))
      case measure => have := HJ.out; omega
      case rel => exact ⟨j + 1, by simp, hide (by have := HJ.out; omega), hide ⟨_, K2.out⟩⟩
    · have hj : j = N := by have := HJ.out; omega
      subst hj
      clear c
      go_wp2_with fail
      refine (C4 _ _ _ (RP.own K.out.choose_spec.oa) (RP.own K.out.choose_spec.ob)).mono ?_; rintro e w5 ⟨rfl, hb5⟩
      have K : Hid (∃ ys, Kr w w5 5 1 (.slice A5 j c5) j ys v6 v1 ps ∧ ys.take 0 = (xs.take 0).map bv) := hide ⟨_, K.out.choose_spec.keep hb5, rfl⟩
      clear hb5
      go_wp2_with fail
      go_loopg [9] j (fun k i wr => ∃ t : Nat, i = .int .i64 t ∧ Hid (t + k = j) ∧ Hid (∃ ys, Kr w wr 5 1 (.slice A5 j c5) j ys v6 v1 ps ∧ ys.take t = (xs.take t).map bv))
      case atStart => exact ⟨0, rfl, hide (by omega), K⟩
      case round =>
        clear K
        obtain ⟨t, rfl, HT, K⟩ := hrel
        by_cases c : (t : Int) < j
        · obtain ⟨ys, hk, hy⟩ := K.out
          obtain ⟨gg, cc, hv⟩ := hk.form (by omega)
          injection hv with hA hn hc
          subst hA hc
          have ht : t < xs.length := by have := HN.out; omega
          obtain ⟨g0, o0, hA0, hcell⟩ := Rb.at' HR.out HN.out ht
          obtain ⟨m, hm⟩ : ∃ m : Nat, xs[t] = m := ⟨_, rfl⟩
          rw [hm] at hcell
          obtain rfl : A0 = some ⟨g0, o0, none⟩ := hA0
          have hb : wr.cell? ⟨g0, o0 + t, none⟩ = some (.int .u8 (m : Nat)) := keep_cell hk.below hcell.1 hcell.2
          obtain ⟨⟨u, hu⟩, hf⟩ := hk.at (j := t) (by omega)
          have hyl : t < ys.length := by have := hk.own.1; omega
          have K2 : Hid (∃ ys, Kr w (wr.setCell ⟨gg, t, none⟩ (.int .u8 (m : Nat))) 5 1 (.slice (some ⟨gg, 0, none⟩) j c5) j ys v6 v1 ps ∧ ys.take (t + 1) = (xs.take (t + 1)).map bv) := hide ⟨_, hk.set t (.int .u8 (m : Nat)), by
            rw [take_set_snoc hyl, List.take_succ_eq_append_getElem ht, List.map_append, ← hy, hm]; rfl⟩
          have ew : IntKind.i64.wrap ((t : Int) + 1) = (t + 1 : Nat) := by rw [IntWalk.i64_in _ (by omega)]; rfl
          clear K hk hn hy hyl hcell hm
          go_wp2
          go_roundg (j - (t + 1))
          case measure => have := HT.out; omega
          case rel => exact ⟨t + 1, by simp, hide (by have := HT.out; omega), K2⟩
        · have hj : t = j := by have := HT.out; omega
          subst hj
          have K : Hid (Kr w wr 5 1 (.slice A5 t c5) t (xs.map bv) v6 v1 ps) := hide (by
            obtain ⟨ys, hk, hy⟩ := K.out
            have hl := hk.own.1
            rw [List.take_of_length_le (by omega), List.take_of_length_le (by have := HN.out; omega)] at hy
            rw [← hy]; exact hk)
          have R5 : Hid (Rb wr (.slice A5 t c5) xs) := hide (Rb.own (by have := K.out.own; rw [← HN.out] at this ⊢; exact this))
          clear c
          go_wp2_with fail
          refine (C3 _ _ R5.out).mono ?_; rintro e w6 ⟨v10, rfl, ho10, hb6⟩
          have K2 : Hid (∃ zs, Kr w w6 30 2 v6 ps.length zs v10 v1 ps) := hide ⟨_, own_keep K.out.oa hb6, World.ownsRow.mono ho10 K.out.below.size, own_keep K.out.ob hb6, bch K.out.below hb6, fun gg h => far_above ho10 (K.out.oa.lt gg h).2, F61.out⟩
          clear ho10 hb6 K R5
          go_wp2_with fail
          refine (C4 _ _ _ (RP.own K2.out.choose_spec.oa) (RP.own K2.out.choose_spec.ob)).mono ?_; rintro e w7 ⟨rfl, hb7⟩
          obtain ⟨N6, hN6⟩ : ∃ n, ps.length = n := ⟨_, rfl⟩
          have HN6 := hide hN6
          have n6 : (N6 : Int) ≤ 32 := by have := HP.out; omega
          have K : Hid (∃ zs, Kr w w7 30 2 v6 N6 zs v10 v1 ps) := hide (by obtain ⟨zs, h⟩ := K2.out; rw [hN6] at h; exact ⟨zs, h.keep hb7⟩)
          clear hb7 K2 hN6
          obtain ⟨A6, c6, hv6⟩ : ∃ A c, v6 = .slice A N6 c := by
            obtain ⟨ys, h⟩ := K.out
            obtain ⟨-, ⟨h1, h2⟩ | ⟨g, cap, cur, h1, -⟩⟩ := h.own
            · exact ⟨_, _, by rw [h1, h2]⟩
            · exact ⟨_, _, h1⟩
          subst hv6
          go_wp2_with fail
          go_loopg [11] N6 (fun k i wr => ∃ s : Nat, i = .int .i64 s ∧ Hid (s + k = N6) ∧ Hid (∃ ys, Kr w wr 30 2 (.slice A6 N6 c6) N6 ys v10 v1 ps))
          case atStart => exact ⟨0, rfl, hide (by omega), K⟩
          case round =>
            clear K
            obtain ⟨s, rfl, HS, K⟩ := hrel
            by_cases c : (s : Int) < N6
            · obtain ⟨ys, hk⟩ := K.out
              obtain ⟨gg, cc, hv⟩ := hk.form (by omega)
              injection hv with hA hn hc
              subst hA hc
              obtain ⟨⟨u0, hu0⟩, hf0⟩ := hk.at (j := s * 2) (by omega)
              obtain ⟨⟨u1, hu1⟩, hf1⟩ := hk.at (j := s * 2 + 1) (by omega)
              have K2 := hide ((hk.set (s * 2) (.float .f64 4619567317775286272)).set (s * 2 + 1) (.float .f64 4620693217682128896))
              have ew : IntKind.i64.wrap ((s : Int) + 1) = (s + 1 : Nat) := by rw [IntWalk.i64_in _ (by omega)]; rfl
              clear K hk hn
              go_wp2
              go_roundg (N6 - (s + 1))
              case measure => have := HS.out; omega
              case rel => exact ⟨s + 1, by simp, hide (by have := HS.out; omega), hide ⟨_, K2.out⟩⟩
            · have hs : s = N6 := by have := HS.out; omega
              subst hs
              clear c
              go_wp2_with fail
              refine (C4 _ _ _ (RP.own K.out.choose_spec.oa) (RP.own K.out.choose_spec.ob)).mono ?_; rintro e w8 ⟨rfl, hb8⟩
              have K : Hid (∃ ys, Kr w w8 30 2 (.slice A6 s c6) (s + 0) ys v10 v1 ps) := hide ⟨_, K.out.choose_spec.keep hb8⟩
              obtain ⟨i0, hi, hz0, hz1, hz2⟩ := info_parts infoI
              have HI := hide (show _ ∧ _ ∧ _ ∧ _ from ⟨hi, hz0, hz1, hz2⟩)
              clear hb8 hi hz0 hz1 hz2
              go_wp2_with fail
              go_loopg [12, 13] 40 (fun k v i wr => ∃ t : Nat, i = .int .i64 t ∧ Hid (t + k = 40 ∧ ∃ A cc, v = .slice A (s + t) cc) ∧ Hid (∃ ys, Kr w wr 30 2 v (s + t) ys v10 v1 ps))
              case atStart => exact ⟨0, rfl, hide ⟨rfl, _, _, rfl⟩, K⟩
              case round =>
                clear K
                obtain ⟨t, rfl, HT, K⟩ := hrel
                by_cases c : (t : Int) < 40
                · obtain ⟨ys, hk⟩ := K.out
                  have HK := hide hk
                  have ew : IntKind.i64.wrap ((t : Int) + 1) = (t + 1 : Nat) := by rw [IntWalk.i64_in _ (by omega)]; rfl
                  have HC := hide c
                  clear hk K
                  go_wp2_with (at_builtin; refine wpList_append_lies _ rfl _ _ 37 rfl w.heap.size 30 i0 _ 2 16 Try.underlying37 HI.out.1 HI.out.2.1 HI.out.2.2.1 HI.out.2.2.2 rfl (by decide) _ (s + t) ys rfl (HK.out.own.alloc _) ⟨wr.heap.size, 0, none⟩ 1 1 [.float .f64 4619567317775286272, .float .f64 4620693217682128896] rfl rfl (by intro j u hj; rcases j with _ | _ | j <;> simp at hj <;> subst hj <;> simp [Addr.add, go_sem]) (by intro u hu; simp at hu; rcases hu with rfl | rfl <;> rfl) (by decide) (by unfold maxLen; have := HC.out; omega) (by have := HC.out; omega) (by have := HK.out.below.size; simp; omega) _ rfl ?_; intro g9 cap9 w9 hown' hgrow hat hlt)
                  have R := hide (HK.out.more hown' hgrow hat)
                  clear hown' hgrow hat hlt HK
                  go_wp2
                  go_roundg (40 - (t + 1))
                  case measure => have := HT.out.1; omega
                  case rel => exact ⟨t + 1, by simp, hide ⟨by have := HT.out.1; omega, _, _, by rw [Nat.add_assoc]⟩, hide ⟨_, by rw [← Nat.add_assoc]; exact R.out⟩⟩
                · have ht : t = 40 := by have := HT.out.1; omega
                  subst ht
                  obtain ⟨-, A9, c9, hv9⟩ := HT.out
                  subst hv9
                  have e1 : ((s + 40 : Nat) : Int) = (s : Int) + 40 := by omega
                  have e2 : (((s + 40 : Nat) : Int) == (s : Int) + 40) = true := by rw [beq_iff_eq]; omega
                  have e3 : IntKind.i64.wrap ((s : Int) + 40) = (s : Int) + 40 := IntWalk.i64_in _ (by omega)
                  clear c
                  go_wp2_with fail
                  refine (C4 _ _ _ (RP.own K.out.choose_spec.oa) (RP.own K.out.choose_spec.ob)).mono ?_; rintro e w10 ⟨rfl, hb10⟩
                  have g := bch K.out.choose_spec.below hb10
                  clear hb10 K
                  go_wp2
                  go_ret
                  exact ⟨rfl, g⟩

end Go.Proofs.Ytaecbapflpejmaa.packParts
