/- Contract of the reference's cuts. -/
import Derived.Test.YtljnadoodbninaaWRefEach
import Derived.Test.YtljnadoodbninaaMCuts
import Derived.Test.YtljnadoodbninaaWMeet
import Derived.BigQuiet
import Derived.Deep.QuietTactic
namespace Go.Proofs.Ytljnadoodbninaa
open Go.RowKit

theorem infoU : (Try.prog.info? 22).map (fun i => (i.zero, i.size, i.bytes)) = some (some (.int .u64 0), 1, 8) := by kernel_rfl
def pv (x : Int) : Value := .int .u64 (Vg.atn true x : Nat)
def TCuts (p q r s : Int) (w : World) (e : Ending) (w' : World) : Prop :=
  ∃ L v, e = .returned v ∧ w'.ownsRow (w.heap.size + 3) 22 1 v L.length (L.map pv) ∧ L.length ≤ 4 ∧ Vg.Full p q r s L ∧ Below w.heap.size w w'
/-- What a walk needs of the slice that grows. -/
theorem own_last {w : World} {base : Nat} {v : Value} {L : List Int} {m : Int} (h : w.ownsRow base 22 1 v (L ++ [m]).length ((L ++ [m]).map pv)) :
    ∃ g c, v = .slice (some ⟨g, 0, none⟩) (L.length + 1) c ∧ base ≤ g ∧ g < w.heap.size ∧ w.cell? ⟨g, L.length, none⟩ = some (pv m) := by
  have hc := fun g hg => h.cells (g := g) hg L.length (pv m) (by simp)
  have hl := h.lt
  obtain ⟨-, ⟨-, h2⟩ | ⟨g, c, cur, rfl, hb, -⟩⟩ := h
  · simp at h2
  · refine ⟨g, c, by simp, hb, (hl g rfl).2, ?_⟩
    have := hc g rfl
    rw [← this]
    unfold Addr.add
    split <;> simp_all
theorem own_at {w : World} {base g n c : Nat} {L : List Int} {m : Int} (h : w.ownsRow base 22 1 (.slice (some ⟨g, 0, none⟩) n c) (L ++ [m]).length ((L ++ [m]).map pv)) : w.cell? ⟨g, L.length, none⟩ = some (pv m) := by
  obtain ⟨g', c', h1, -, -, h2⟩ := own_last h
  injection h1 with h1
  injection h1 with h1
  injection h1 with h1
  subst h1
  exact h2
theorem own_nil {w : World} {base : Nat} {v : Value} (h : w.ownsRow base 22 1 v ([] : List Int).length (([] : List Int).map pv)) : ∃ A c, v = .slice A 0 c := by
  obtain ⟨-, ⟨h1, -⟩ | ⟨g, c, cur, rfl, hb, -⟩⟩ := h
  · exact ⟨_, _, h1⟩
  · exact ⟨_, _, rfl⟩
/-- What stands in the world in cuts's loops. -/
structure CW (XF : Nat → Nat) (w : World) (L : List Int) (v : Value) (wr : World) : Prop where
  own : wr.ownsRow (w.heap.size + 3) 22 1 v L.length (L.map pv)
  all : ∀ k, k < 4 → wr.cell? ⟨w.heap.size + 1 + 1, k, none⟩ = some (.int .u64 (XF k : Nat))
  size : w.heap.size + 2 < wr.heap.size
  below : Below w.heap.size w wr
theorem CW.drewN {XF : Nat → Nat} {w wr : World} {L : List Int} {v : Value} (h : CW XF w L v wr) (n : Nat) : CW XF w L v (wr.drewN n) := ⟨h.own, h.all, h.size, ⟨h.below.os, h.below.tape, h.below.output, h.below.size, h.below.block⟩⟩
theorem CW.more {XF : Nat → Nat} {w wr w1 : World} {L : List Int} {v v' : Value} {m : Int} {o : Obj} (h : CW XF w L v wr) (ho : w1.ownsRow (w.heap.size + 3) 22 1 v' (L.length + 1) (L.map pv ++ [pv m])) (hg : (wr.alloc o).grownBy w1 v.ownBlock) : CW XF w (L ++ [m]) v' w1 := by
  have hne : some (w.heap.size + 1 + 1) ≠ v.ownBlock := fun e => by have := h.own.lt _ e.symm; omega
  refine ⟨by simpa using ho, fun k hk => hg.cell ((World.cell?_alloc_past _ _ _ (by have := h.size; first | omega | (dsimp only; omega))).trans (h.all k hk)) hne, Nat.lt_of_lt_of_le (by have := h.size; simp; omega) hg.size, ?_⟩
  exact (h.below.alloc h.below.size o).grown hg (by have := h.size; simp; omega) (fun j hj => by have := (h.own.lt j hj).1; omega)
theorem abv_atn {x y : Int} (hx : Vg.Pl x) (hy : Vg.Pl y) : abv (Vg.atn true x) (Vg.atn true y) = decide (y < x) := by
  unfold abv
  rw [Vg.nn_atn hx, Vg.nn_atn hy, Vg.pl_atn hx, Vg.pl_atn hy]
  simp
theorem cand_last {p q r s m : Int} {L : List Int} {k : Nat} (h : (L ++ [m]).Pairwise (· < ·)) : Vg.cand p q r s (L ++ [m]) k ↔ (Vg.pk p q r s k ≠ Vg.PI ∧ Vg.pk p q r s k ≠ -Vg.PI) ∧ m < Vg.pk p q r s k := by
  unfold Vg.cand
  refine and_congr_right fun _ => ⟨fun h => h m (by simp), fun hm x hx => ?_⟩
  rw [List.pairwise_append] at h
  rw [List.mem_append, List.mem_singleton] at hx
  rcases hx with hx | rfl
  · have := h.2.2 x hx m (by simp); omega
  · exact hm
theorem quiet_eq {f : FuncId} {args : Array Value} {v : Value} (h : ∀ w, Calls Try.prog f args w fun e w' => e = .returned v ∧ w = w') (w : World) (n : Nat) : Calls Try.prog f args (w.drewN n) fun e w'' => e = .returned v ∧ ∃ m, w'' = w.drewN m :=
  (h _).mono fun _ _ ⟨h1, h2⟩ => ⟨h1, n, h2.symm⟩

set_option maxRecDepth 20000 in
set_option maxHeartbeats 8000000 in
theorem cuts_any (p q r s : Int) (hP : Vg.Pl p ∧ Vg.Pl q ∧ Vg.Pl r ∧ Vg.Pl s) (w : World) :
    Calls Try.prog 105 #[.agg #[.int .u64 (Vg.atn true p : Nat), .int .u64 (Vg.atn true q : Nat)], .agg #[.int .u64 (Vg.atn true r : Nat), .int .u64 (Vg.atn true s : Nat)]] w (TCuts p q r s w) := by
  have HP := hide hP
  clear hP
  obtain ⟨i0, hi, hz0, hz1, hz2⟩ := info_parts infoU
  obtain ⟨X0, e0⟩ : ∃ n, Vg.atn true p = n := ⟨_, rfl⟩
  obtain ⟨X1, e1⟩ : ∃ n, Vg.atn true q = n := ⟨_, rfl⟩
  obtain ⟨X2, e2⟩ : ∃ n, Vg.atn true r = n := ⟨_, rfl⟩
  obtain ⟨X3, e3⟩ : ∃ n, Vg.atn true s = n := ⟨_, rfl⟩
  have HE := hide (show _ ∧ _ ∧ _ ∧ _ from ⟨e0, e1, e2, e3⟩)
  rw [e0, e1, e2, e3]
  clear e0 e1 e2 e3
  go_enter Try.func105, Try.ntmps105
  obtain ⟨XF, hXF⟩ : ∃ XF : Nat → Nat, ∀ k, XF k = Vg.atn true (Vg.pk p q r s k) := ⟨_, fun _ => rfl⟩
  have HX := hide hXF
  have x0 : XF 0 = X0 := (hXF 0).trans HE.out.1
  have x1 : XF 1 = X1 := (hXF 1).trans HE.out.2.1
  have x2 : XF 2 = X2 := (hXF 2).trans HE.out.2.2.1
  have x3 : XF 3 = X3 := (hXF 3).trans HE.out.2.2.2
  have HF := hide (show _ ∧ _ ∧ _ ∧ _ from ⟨x0, x1, x2, x3⟩)
  clear hXF x0 x1 x2 x3
  go_wp2_with fail
  go_loopg [6] 4 (fun k v wr => ∃ L : List Int, Hid (L.length + k = 4 ∧ Vg.Cut p q r s L) ∧ CW XF w L v wr)
  case atStart =>
    refine ⟨[], hide ⟨rfl, Vg.Cut.nil _ _ _ _⟩, World.ownsRow_nil _ _ _ _, fun k hk => ?_, by simp, b_three⟩
    obtain ⟨x0, x1, x2, x3⟩ := HF.out
    obtain rfl | rfl | rfl | rfl : k = 0 ∨ k = 1 ∨ k = 2 ∨ k = 3 := by omega
    · rw [x0]; simp [go_sem]
    · rw [x1]; simp [go_sem]
    · rw [x2]; simp [go_sem]
    · rw [x3]; simp [go_sem]
  case round =>
    obtain ⟨L, HL, hw⟩ := hrel
    obtain ⟨G0, rfl⟩ : ∃ G0, G0 = gk := ⟨_, rfl⟩
    rcases L.eq_nil_or_concat with rfl | ⟨L, m, rfl⟩
    · obtain ⟨A, c, rfl⟩ := own_nil hw.own
      have HW := hide hw
      clear hw
      go_wp2_with fail
      go_loopg [7, 8, 9] 4 (fun k b f i wr' => ∃ (bn n : Nat) (fb : Bool), b = .int .i64 bn ∧ f = .bool fb ∧ i = .int .i64 n ∧ Hid (n + k = 4 ∧ bn < 4 ∧ Vg.Sel p q r s ([]) fb bn n) ∧ Hid (CW XF w ([]) (.slice A 0 c) wr'))
      case atStart => exact ⟨0, 0, false, rfl, rfl, rfl, hide ⟨rfl, by decide, Vg.Sel.zero _ _ _ _ _ _⟩, HW⟩
      case round =>
        clear HW
        obtain ⟨bn, n, fb, rfl, rfl, rfl, HS, HW⟩ := hrel
        have hb4 : (bn : Int) < 4 := by have := HS.out; omega
        have hcb := HW.out.all bn HS.out.2.1
        by_cases h4 : (n : Int) < 4
        · have h4' : n < 4 := by omega
          have hcn := HW.out.all n h4'
          have ew : IntKind.i64.wrap ((n : Int) + 1) = (n + 1 : Nat) := by rw [IntWalk.i64_in _ (by omega)]; rfl
          obtain ⟨i1, hi1⟩ : ∃ i1 : Bool, decide (Vg.pk p q r s n = Vg.PI ∨ Vg.pk p q r s n = -Vg.PI) = i1 := ⟨_, rfl⟩
          obtain ⟨a2, ha2⟩ : ∃ a2 : Bool, decide (Vg.pk p q r s n < Vg.pk p q r s bn) = a2 := ⟨_, rfl⟩
          have Q1 := quiet_eq fun w => rinf_any (XF n) (by rw [HX.out]; exact Vg.atn_le (Vg.pk_pl HP.out n)) i1 (by rw [HX.out, Vg.infb_atn (Vg.pk_pl HP.out n)]; exact hi1) w
          have Q2 := quiet_eq fun w => (rabove_any (XF bn) (XF n) (by rw [HX.out]; exact Vg.atn_le (Vg.pk_pl HP.out bn)) (by rw [HX.out]; exact Vg.atn_le (Vg.pk_pl HP.out n)) w).mono fun e w' h => (show e = .returned (.bool a2) ∧ w = w' from ⟨by rw [h.1, HX.out, HX.out, abv_atn (Vg.pk_pl HP.out bn) (Vg.pk_pl HP.out n), ha2], h.2⟩)
          have Z : Hid (Vg.cand p q r s ([]) n ↔ i1 = false) := hide (by rw [← hi1, decide_eq_false_iff_not, not_or]; unfold Vg.cand; simp)
          have Y : Hid (a2 = decide (Vg.pk p q r s n < Vg.pk p q r s bn)) := hide ha2.symm
          clear hi1 ha2
          cases i1
          · have hz := hide (Z.out.2 rfl)
            clear Z
            cases fb
            · clear Y
              go_wp2_with fail
              go_quiet (first | (go_at_call 30; exact Q1 _ _))
              go_wp2_with fail
              obtain ⟨wx, hx⟩ : ∃ wx, wr.drewN nq = wx := ⟨_, rfl⟩
              have HW' := hide (hx ▸ HW.out.drewN nq)
              have hcb := HW'.out.all bn HS.out.2.1
              have hcn := HW'.out.all n h4'
              rw [hx]
              clear hx HW
              have HW := HW'
              clear HW'
              go_quiet ((go_at_call 64; exact Q2 _ _))
              go_wp2
              go_roundg (3 - n)
              case measure => have := HS.out; omega
              case rel => exact ⟨n, n + 1, true, rfl, rfl, by simp, hide ⟨by have := HS.out; omega, h4', HS.out.2.2.take hz.out (.inl rfl)⟩, hide (HW.out.drewN _)⟩
            · cases a2
              · have y := hide (of_decide_eq_false Y.out.symm)
                clear Y
                go_wp2_with fail
                go_quiet (first | (go_at_call 30; exact Q1 _ _))
                go_wp2_with fail
                obtain ⟨wx, hx⟩ : ∃ wx, wr.drewN nq = wx := ⟨_, rfl⟩
                have HW' := hide (hx ▸ HW.out.drewN nq)
                have hcb := HW'.out.all bn HS.out.2.1
                have hcn := HW'.out.all n h4'
                rw [hx]
                clear hx HW
                have HW := HW'
                clear HW'
                go_quiet ((go_at_call 64; exact Q2 _ _))
                go_wp2
                go_roundg (3 - n)
                case measure => have := HS.out; omega
                case rel => exact ⟨bn, n + 1, true, rfl, rfl, by simp, hide ⟨by have := HS.out; omega, HS.out.2.1, HS.out.2.2.keep (by have := y.out; omega)⟩, hide (HW.out.drewN _)⟩
              · have y := hide (of_decide_eq_true Y.out.symm)
                clear Y
                go_wp2_with fail
                go_quiet (first | (go_at_call 30; exact Q1 _ _))
                go_wp2_with fail
                obtain ⟨wx, hx⟩ : ∃ wx, wr.drewN nq = wx := ⟨_, rfl⟩
                have HW' := hide (hx ▸ HW.out.drewN nq)
                have hcb := HW'.out.all bn HS.out.2.1
                have hcn := HW'.out.all n h4'
                rw [hx]
                clear hx HW
                have HW := HW'
                clear HW'
                go_quiet ((go_at_call 64; exact Q2 _ _))
                go_wp2
                go_roundg (3 - n)
                case measure => have := HS.out; omega
                case rel => exact ⟨n, n + 1, true, rfl, rfl, by simp, hide ⟨by have := HS.out; omega, h4', HS.out.2.2.take hz.out (.inr y.out)⟩, hide (HW.out.drewN _)⟩
          · have nc := hide (show ¬ Vg.cand p q r s ([]) n by rw [Z.out]; simp)
            clear Z Y
            go_wp2_with fail
            go_quiet (first | (go_at_call 30; exact Q1 _ _))
            go_wp2
            go_roundg (3 - n)
            case measure => have := HS.out; omega
            case rel => exact ⟨bn, n + 1, fb, rfl, rfl, by simp, hide ⟨by have := HS.out; omega, HS.out.2.1, HS.out.2.2.skip nc.out⟩, hide (HW.out.drewN _)⟩
        · have hn : n = 4 := by have := HS.out; omega
          subst hn
          cases fb
          · have F := hide (HL.out.2.done HP.out HS.out.2.2)
            go_wp2
            go_ret
            exact ⟨_, _, rfl, HW.out.own, (by have := (by decide : ([] : List Int).length < 4); simp at this ⊢; try omega), F.out, HW.out.below⟩
          · go_wp2_with (at_builtin; refine wpList_append_own _ rfl _ _ 106 rfl (w.heap.size + 3) 22 i0 (.int .u64 0) 1 8 Try.underlying106 hi hz0 hz1 hz2 rfl (by decide) _ ([]).length (([]).map pv) rfl (HW.out.own.alloc _) ⟨wr.heap.size, 0, none⟩ 1 1 [.int .u64 (XF bn : Nat)] rfl rfl (by intro j u hj; rcases j with _ | j <;> simp at hj; subst hj; simp [Addr.add]) (by intro u hu; simp at hu; subst hu; rfl) (by have := (by decide : ([] : List Int).length < 4); unfold maxLen; omega) (by have := (by decide : ([] : List Int).length < 4); omega) (by have := HW.out.size; simp; omega) ?_; intro v' w1 hown' hgrow _)
            have R := hide (show CW XF w (([]) ++ [Vg.pk p q r s bn]) v' w1 from HW.out.more (by rw [HX.out] at hown'; exact hown') hgrow)
            have T := hide (HL.out.2.more HS.out.2.2)
            have U := hide (show (([]) ++ [Vg.pk p q r s bn]).length + (G0 - 1) = 4 by have := HL.out.1; have := (by decide : ([] : List Int).length < 4); simp at *; omega)
            have M := hide (show G0 - 1 < G0 by have := HL.out.1; have := (by decide : ([] : List Int).length < 4); simp at *; omega)
            clear hown' hgrow HW
            go_wp2
            go_roundg (G0 - 1)
            case measure => exact M.out
            case rel => exact ⟨_, hide ⟨U.out, T.out⟩, R.out⟩
    · rw [List.concat_eq_append] at HL hw
      obtain ⟨g, c, rfl, hg1, hg2, -⟩ := own_last hw.own
      obtain ⟨N, hN⟩ : ∃ N, L.length = N := ⟨_, rfl⟩
      obtain ⟨XM, hXM⟩ : ∃ n, Vg.atn true m = n := ⟨_, rfl⟩
      have HM : Hid (Vg.Pl m ∧ ∀ wx : World, wx.ownsRow (w.heap.size + 3) 22 1 (.slice (some ⟨g, 0, none⟩) (N + 1) c) (L ++ [m]).length ((L ++ [m]).map pv) → wx.cell? ⟨g, N, none⟩ = some (.int .u64 XM)) := hide ⟨by
        have := HL.out.2.bd HP.out m (by simp)
        unfold Vg.Pl; omega, fun wx h => by rw [← hN, ← hXM]; rw [← hN] at h; exact own_at h⟩
      rw [hN] at hw ⊢
      have HW := hide hw
      clear hw hg1 hg2
      by_cases h3 : (N : Int) + 1 < 4
      · have HN := hide (show (L ++ [m]).length < 4 ∧ Vg.atn true m = XM ∧ L.length = N from ⟨by simp; omega, hXM, hN⟩)
        clear hN hXM
        go_wp2_with fail
        go_loopg [7, 8, 9] 4 (fun k b f i wr' => ∃ (bn n : Nat) (fb : Bool), b = .int .i64 bn ∧ f = .bool fb ∧ i = .int .i64 n ∧ Hid (n + k = 4 ∧ bn < 4 ∧ Vg.Sel p q r s (L ++ [m]) fb bn n) ∧ Hid (CW XF w (L ++ [m]) (.slice (some ⟨g, 0, none⟩) (N + 1) c) wr'))
        case atStart => exact ⟨0, 0, false, rfl, rfl, rfl, hide ⟨rfl, by decide, Vg.Sel.zero _ _ _ _ _ _⟩, HW⟩
        case round =>
          clear HW
          obtain ⟨bn, n, fb, rfl, rfl, rfl, HS, HW⟩ := hrel
          have hb4 : (bn : Int) < 4 := by have := HS.out; omega
          have hcb := HW.out.all bn HS.out.2.1
          by_cases h4 : (n : Int) < 4
          · have h4' : n < 4 := by omega
            have hcn := HW.out.all n h4'
            have hlast := HM.out.2 _ HW.out.own
            have ew : IntKind.i64.wrap ((n : Int) + 1) = (n + 1 : Nat) := by rw [IntWalk.i64_in _ (by omega)]; rfl
            obtain ⟨i1, hi1⟩ : ∃ i1 : Bool, decide (Vg.pk p q r s n = Vg.PI ∨ Vg.pk p q r s n = -Vg.PI) = i1 := ⟨_, rfl⟩
            obtain ⟨a2, ha2⟩ : ∃ a2 : Bool, decide (Vg.pk p q r s n < Vg.pk p q r s bn) = a2 := ⟨_, rfl⟩
            have Q1 := quiet_eq fun w => rinf_any (XF n) (by rw [HX.out]; exact Vg.atn_le (Vg.pk_pl HP.out n)) i1 (by rw [HX.out, Vg.infb_atn (Vg.pk_pl HP.out n)]; exact hi1) w
            have Q2 := quiet_eq fun w => (rabove_any (XF bn) (XF n) (by rw [HX.out]; exact Vg.atn_le (Vg.pk_pl HP.out bn)) (by rw [HX.out]; exact Vg.atn_le (Vg.pk_pl HP.out n)) w).mono fun e w' h => (show e = .returned (.bool a2) ∧ w = w' from ⟨by rw [h.1, HX.out, HX.out, abv_atn (Vg.pk_pl HP.out bn) (Vg.pk_pl HP.out n), ha2], h.2⟩)
            obtain ⟨a1, ha1⟩ : ∃ a1 : Bool, decide (m < Vg.pk p q r s n) = a1 := ⟨_, rfl⟩
            have Q3 := quiet_eq fun w => (rabove_any (XF n) XM (by rw [HX.out]; exact Vg.atn_le (Vg.pk_pl HP.out n)) (by rw [← HN.out.2.1]; exact Vg.atn_le HM.out.1) w).mono fun e w' h => (show e = .returned (.bool a1) ∧ w = w' from ⟨by rw [h.1, HX.out, ← HN.out.2.1, abv_atn (Vg.pk_pl HP.out n) HM.out.1, ha1], h.2⟩)
            have Z : Hid (Vg.cand p q r s (L ++ [m]) n ↔ i1 = false ∧ a1 = true) := hide (by rw [cand_last HL.out.2.inc, ← hi1, ← ha1, decide_eq_false_iff_not, decide_eq_true_iff, not_or])
            have Y : Hid (a2 = decide (Vg.pk p q r s n < Vg.pk p q r s bn)) := hide ha2.symm
            clear hi1 ha2 ha1
            cases i1
            · cases a1
              · have nc := hide (show ¬ Vg.cand p q r s (L ++ [m]) n by rw [Z.out]; simp)
                clear Z Y
                go_wp2_with fail
                go_quiet (first | (go_at_call 30; exact Q1 _ _) | (go_at_call 64; exact Q3 _ _))
                go_wp2
                go_roundg (3 - n)
                case measure => have := HS.out; omega
                case rel => exact ⟨bn, n + 1, fb, rfl, rfl, by simp, hide ⟨by have := HS.out; omega, HS.out.2.1, HS.out.2.2.skip nc.out⟩, hide (HW.out.drewN _)⟩
              · have hz := hide (Z.out.2 ⟨rfl, rfl⟩)
                clear Z
                cases fb
                · clear Y
                  go_wp2_with fail
                  go_quiet (first | (go_at_call 30; exact Q1 _ _) | (go_at_call 64; exact Q3 _ _))
                  go_wp2_with fail
                  obtain ⟨wx, hx⟩ : ∃ wx, wr.drewN nq = wx := ⟨_, rfl⟩
                  have HW' := hide (hx ▸ HW.out.drewN nq)
                  have hcb := HW'.out.all bn HS.out.2.1
                  have hcn := HW'.out.all n h4'
                  rw [hx]
                  clear hx HW
                  have HW := HW'
                  clear HW'
                  go_quiet ((go_at_call 64; exact Q2 _ _))
                  go_wp2
                  go_roundg (3 - n)
                  case measure => have := HS.out; omega
                  case rel => exact ⟨n, n + 1, true, rfl, rfl, by simp, hide ⟨by have := HS.out; omega, h4', HS.out.2.2.take hz.out (.inl rfl)⟩, hide (HW.out.drewN _)⟩
                · cases a2
                  · have y := hide (of_decide_eq_false Y.out.symm)
                    clear Y
                    go_wp2_with fail
                    go_quiet (first | (go_at_call 30; exact Q1 _ _) | (go_at_call 64; exact Q3 _ _))
                    go_wp2_with fail
                    obtain ⟨wx, hx⟩ : ∃ wx, wr.drewN nq = wx := ⟨_, rfl⟩
                    have HW' := hide (hx ▸ HW.out.drewN nq)
                    have hcb := HW'.out.all bn HS.out.2.1
                    have hcn := HW'.out.all n h4'
                    rw [hx]
                    clear hx HW
                    have HW := HW'
                    clear HW'
                    go_quiet ((go_at_call 64; exact Q2 _ _))
                    go_wp2
                    go_roundg (3 - n)
                    case measure => have := HS.out; omega
                    case rel => exact ⟨bn, n + 1, true, rfl, rfl, by simp, hide ⟨by have := HS.out; omega, HS.out.2.1, HS.out.2.2.keep (by have := y.out; omega)⟩, hide (HW.out.drewN _)⟩
                  · have y := hide (of_decide_eq_true Y.out.symm)
                    clear Y
                    go_wp2_with fail
                    go_quiet (first | (go_at_call 30; exact Q1 _ _) | (go_at_call 64; exact Q3 _ _))
                    go_wp2_with fail
                    obtain ⟨wx, hx⟩ : ∃ wx, wr.drewN nq = wx := ⟨_, rfl⟩
                    have HW' := hide (hx ▸ HW.out.drewN nq)
                    have hcb := HW'.out.all bn HS.out.2.1
                    have hcn := HW'.out.all n h4'
                    rw [hx]
                    clear hx HW
                    have HW := HW'
                    clear HW'
                    go_quiet ((go_at_call 64; exact Q2 _ _))
                    go_wp2
                    go_roundg (3 - n)
                    case measure => have := HS.out; omega
                    case rel => exact ⟨n, n + 1, true, rfl, rfl, by simp, hide ⟨by have := HS.out; omega, h4', HS.out.2.2.take hz.out (.inr y.out)⟩, hide (HW.out.drewN _)⟩
            · have nc := hide (show ¬ Vg.cand p q r s (L ++ [m]) n by rw [Z.out]; simp)
              clear Z Y
              go_wp2_with fail
              go_quiet (first | (go_at_call 30; exact Q1 _ _) | (go_at_call 64; exact Q3 _ _))
              go_wp2
              go_roundg (3 - n)
              case measure => have := HS.out; omega
              case rel => exact ⟨bn, n + 1, fb, rfl, rfl, by simp, hide ⟨by have := HS.out; omega, HS.out.2.1, HS.out.2.2.skip nc.out⟩, hide (HW.out.drewN _)⟩
          · have hn : n = 4 := by have := HS.out; omega
            subst hn
            cases fb
            · have F := hide (HL.out.2.done HP.out HS.out.2.2)
              go_wp2
              go_ret
              exact ⟨_, _, rfl, HW.out.own, (by have := HN.out.1; simp at this ⊢; try omega), F.out, HW.out.below⟩
            · go_wp2_with (at_builtin; refine wpList_append_own _ rfl _ _ 106 rfl (w.heap.size + 3) 22 i0 (.int .u64 0) 1 8 Try.underlying106 hi hz0 hz1 hz2 rfl (by decide) _ (L ++ [m]).length ((L ++ [m]).map pv) rfl (HW.out.own.alloc _) ⟨wr.heap.size, 0, none⟩ 1 1 [.int .u64 (XF bn : Nat)] rfl rfl (by intro j u hj; rcases j with _ | j <;> simp at hj; subst hj; simp [Addr.add]) (by intro u hu; simp at hu; subst hu; rfl) (by have := HN.out.1; unfold maxLen; omega) (by have := HN.out.1; omega) (by have := HW.out.size; simp; omega) ?_; intro v' w1 hown' hgrow _)
              have R := hide (show CW XF w ((L ++ [m]) ++ [Vg.pk p q r s bn]) v' w1 from HW.out.more (by rw [HX.out] at hown'; exact hown') hgrow)
              have T := hide (HL.out.2.more HS.out.2.2)
              have U := hide (show ((L ++ [m]) ++ [Vg.pk p q r s bn]).length + (G0 - 1) = 4 by have := HL.out.1; have := HN.out.1; simp at *; omega)
              have M := hide (show G0 - 1 < G0 by have := HL.out.1; have := HN.out.1; simp at *; omega)
              clear hown' hgrow HW
              go_wp2
              go_roundg (G0 - 1)
              case measure => exact M.out
              case rel => exact ⟨_, hide ⟨U.out, T.out⟩, R.out⟩
      · have F := hide (HL.out.2.four HP.out (by simp; omega))
        have E := hide (show (L ++ [m]).length ≤ 4 by have := HL.out.1; omega)
        go_wp2
        go_ret
        exact ⟨_, _, rfl, HW.out.own, E.out, F.out, HW.out.below⟩
end Go.Proofs.Ytljnadoodbninaa
