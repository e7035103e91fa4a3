/- PutBox: the reference's and the program's. -/
import Derived.Test.YtaecbapflpejmaaWPkBoxIn
import Derived.Test.YtaecbapflpejmaaWPkForm
import Derived.Deep.RegionLaw
namespace Go.Proofs.Ytaecbapflpejmaa
open Go.RowKit
/-- What is read of a pair of patterns. -/
def rdq (p : Nat × Nat) : Int × Int := if Vg.snd p.1 p.2 then (Vg.pl true p.1, Vg.pl true p.2) else (Vg.PI, -Vg.PI)
theorem rdq_of (p : Nat × Nat) (h1 : p.1 ≤ 18446744073709551615) (h2 : p.2 ≤ 18446744073709551615) : Vg.Rd p.1 p.2 (rdq p).1 (rdq p).2 := by
  unfold rdq
  cases hs : Vg.snd p.1 p.2
  · exact ⟨h1, h2, .inr ⟨hs, rfl, rfl⟩⟩
  · obtain ⟨a, b, c, d, e⟩ := (Vg.snd_iff _ _).1 hs
    exact ⟨h1, h2, .inl ⟨a, b, rfl, rfl, c, d, e⟩⟩
/-- The bytes of an interval of two patterns; of a row of them; of a box. -/
def pby (p : Nat × Nat) : List Nat := nby 8 (Vg.atn true (rdq p).1) ++ nby 8 (Vg.atn true (rdq p).2)
def pbs (ps : List (Nat × Nat)) : List Nat := ps.flatMap pby
def pbx (ps : List (Nat × Nat)) : List Nat := if 32 < ps.length then [] else ps.length :: pbs ps
theorem pby_len (p : Nat × Nat) : (pby p).length = 16 := by simp [pby, nby_len]
theorem pbs_len : ∀ ps, (pbs ps).length = 16 * ps.length
  | [] => rfl
  | p :: t => by
    have := pbs_len t
    unfold pbs at this ⊢
    rw [List.flatMap_cons, List.length_append, pby_len, this, List.length_cons]; omega
theorem pbs_snoc (ps : List (Nat × Nat)) (p : Nat × Nat) : pbs (ps ++ [p]) = pbs ps ++ pby p := by simp [pbs]
theorem pbx_le (ps : List (Nat × Nat)) : (pbx ps).length ≤ 513 := by
  unfold pbx
  by_cases h : 32 < ps.length
  · rw [if_pos h]; simp
  · rw [if_neg h, List.length_cons, pbs_len]; omega
def TPB (ps : List (Nat × Nat)) (w : World) (e : Ending) (w' : World) : Prop :=
  ∃ v, e = .returned (.tuple #[v, .int .i64 (if 32 < ps.length then 2 else 0)]) ∧ w'.ownsRow w.heap.size 5 1 v (pbx ps).length ((pbx ps).map bv) ∧ Below w.heap.size w w'
theorem TPB.long {ps : List (Nat × Nat)} {w w' : World} (h : 32 < ps.length) (hb : Below w.heap.size w w') : TPB ps w (.returned (.tuple #[.slice none 0 0, .int .i64 2])) w' :=
  ⟨_, by rw [if_pos h], by unfold pbx; rw [if_pos h]; exact World.ownsRow_nil _ _ _ _, hb⟩
theorem TPB.mk {ps : List (Nat × Nat)} {w w' : World} {v : Value} (h : ¬ 32 < ps.length) (ho : w'.ownsRow w.heap.size 5 1 v (ps.length :: pbs ps).length ((ps.length :: pbs ps).map bv)) (hb : Below w.heap.size w w') : TPB ps w (.returned (.tuple #[v, .int .i64 0])) w' :=
  ⟨_, by rw [if_neg h], by unfold pbx; rw [if_neg h]; exact ho, hb⟩
set_option maxRecDepth 20000 in
set_option maxHeartbeats 8000000 in
theorem rputBox_any (v : Value) (ps : List (Nat × Nat)) (w : World) (hR : RP encU w v ps) (hw : ∀ p ∈ ps, p.1 ≤ 18446744073709551615 ∧ p.2 ≤ 18446744073709551615) (hl : ps.length ≤ 281474976710656) : Calls Try.prog 12 #[v] w (TPB ps w) := by
  have HA := hide hR
  have HW := hide hw
  obtain ⟨A1, c1, rfl⟩ := hR.len
  obtain ⟨N1, hN1⟩ : ∃ n, ps.length = n := ⟨_, rfl⟩
  rw [hN1] at hl ⊢
  have HN := hide hN1
  have n1 : (N1 : Int) ≤ 281474976710656 := by omega
  clear hR hN1 hw hl
  by_cases h32 : 32 < N1
  · have t1 : decide ((32 : Int) < (N1 : Int)) = true := decide_eq_true (by omega)
    have t2 : decide (32 < N1) = true := decide_eq_true h32
    have H32 := hide (show 32 < ps.length by rw [HN.out]; exact h32)
    clear h32
    go_enter Try.func12, Try.ntmps12
    go_wp2_with fail
    go_ret2
    exact TPB.long H32.out (Below.refl _ _)
  · have t1 : decide ((32 : Int) < (N1 : Int)) = false := decide_eq_false (by omega)
    have t2 : decide (32 < N1) = false := decide_eq_false h32
    have m1 : (N1 : Int) ≤ 32 := by omega
    have ec : IntKind.u8.wrap (N1 : Int) = (N1 : Int) := by rw [IntKind.wrap_u8]; omega
    have H32 := hide (show ¬ 32 < ps.length by rw [HN.out]; exact h32)
    clear h32
    have O0 : Hid ((w.alloc (.cells #[.int .u8 (N1 : Int)] 5)).ownsRow w.heap.size 5 1 (.slice (some ⟨w.heap.size, 0, none⟩) 1 1) (N1 :: pbs (ps.take 0)).length ((N1 :: pbs (ps.take 0)).map bv) ∧ Below w.heap.size w (w.alloc (.cells #[.int .u8 (N1 : Int)] 5))) :=
      hide ⟨World.ownsRow_lit w #[.int .u8 (N1 : Int)] 1 (Nat.le_refl _) (by decide) rfl, b_one⟩
    go_enter Try.func12, Try.ntmps12
    go_wp2_with fail
    go_loopg [4, 5] N1 (fun k l i wr => ∃ j : Nat, i = .int .i64 j ∧ Hid (j + k = N1) ∧ Hid (wr.ownsRow w.heap.size 5 1 l (N1 :: pbs (ps.take j)).length ((N1 :: pbs (ps.take j)).map bv) ∧ Below w.heap.size w wr))
    case atStart => exact ⟨0, rfl, hide (by omega), O0⟩
    case round =>
      obtain ⟨j, rfl, HJ, HO⟩ := hrel
      by_cases c : (j : Int) < N1
      · have hj : j < ps.length := by have := HN.out; omega
        obtain ⟨g, o, hA, hz, k0, k1⟩ := HA.out.at hj
        have hwj := HW.out ps[j] (List.getElem_mem hj)
        have C := fun w => rput_any ps[j].1 ps[j].2 _ _ (rdq_of ps[j] hwj.1 hwj.2) w
        obtain ⟨a, ha⟩ : ∃ m : Nat, ps[j].1 = m := ⟨_, rfl⟩
        obtain ⟨b, hb⟩ : ∃ m : Nat, ps[j].2 = m := ⟨_, rfl⟩
        obtain ⟨ys, hys⟩ : ∃ ys, pby ps[j] = ys := ⟨_, rfl⟩
        change ∀ w, Calls _ _ _ w (TBy (pby ps[j]) w) at C
        rw [ha, hb, hys] at C
        rw [ha] at k0
        rw [hb] at k1
        have HY := hide hys
        obtain rfl : A1 = some ⟨g, o, none⟩ := hA _ _ (by rw [HN.out])
        have gW := HO.out.2
        have k0 : wr.cell? ⟨g, o + j * 2, none⟩ = some (.int .u64 a) := keep_cell gW hz k0
        have k1 : wr.cell? ⟨g, o + j * 2 + 1, none⟩ = some (.int .u64 b) := keep_cell gW hz k1
        have ew : IntKind.i64.wrap ((j : Int) + 1) = (j + 1 : Nat) := by rw [IntWalk.i64_in _ (by omega)]; rfl
        have hlen : (N1 :: pbs (ps.take j)).length + ys.length ≤ 4096 := by
          rw [← hys, pby_len, List.length_cons, pbs_len, List.length_take]; omega
        have HLN := hide hlen
        clear hA ha hb hz hys hwj hlen
        go_wp2_with fail
        refine (C _).mono ?_; rintro e w2 ⟨v2, rfl, ho2, hb2⟩
        have RA := hide ((Rb.own HO.out.1).keep hb2)
        have RB := hide (Rb.own ho2)
        have gb := bch gW hb2
        clear hb2 gW k0 k1 C ho2
        go_wp2_with fail
        refine (joined_any _ _ _ _ _ RA.out RB.out HLN.out).mono ?_; rintro e w3 ⟨v3, rfl, ho3, hb3⟩
        have R : Hid (w3.ownsRow w.heap.size 5 1 v3 ((N1 :: pbs (ps.take j)) ++ ys).length (((N1 :: pbs (ps.take j)) ++ ys).map bv) ∧ Below w.heap.size w w3) := hide ⟨own_base ho3 gb.size, bch gb hb3⟩
        clear ho3 hb3 gb HO
        go_wp2
        go_roundg (N1 - (j + 1))
        case measure => have := HJ.out; omega
        case rel =>
          refine ⟨j + 1, by simp, hide (by have := HJ.out; omega), hide ?_⟩
          have := R.out
          rw [List.take_succ_eq_append_getElem hj, pbs_snoc, HY.out]
          exact this
      · have hj : j = N1 := by have := HJ.out; omega
        subst hj
        have HO' : Hid (wr.ownsRow w.heap.size 5 1 u4 (ps.length :: pbs ps).length ((ps.length :: pbs ps).map bv) ∧ Below w.heap.size w wr) := hide (by have h := HO.out; rw [List.take_of_length_le (by have := HN.out; omega)] at h; rw [HN.out]; exact h)
        clear HO c
        go_wp2_with fail
        go_ret2
        exact TPB.mk H32.out HO'.out.1 HO'.out.2
end Go.Proofs.Ytaecbapflpejmaa
