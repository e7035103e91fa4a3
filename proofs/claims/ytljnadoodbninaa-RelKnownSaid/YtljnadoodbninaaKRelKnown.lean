/- Chapter 9's examples: a closed sentence. The walk. -/
import Derived.Test.YtljnadoodbninaaWBis
import Derived.Test.YtljnadoodbninaaWAwake
import Derived.Test.YtljnadoodbninaaWAcross
import Derived.Test.YtljnadoodbninaaWMember
import Derived.Test.YtljnadoodbninaaWTold
import Derived.Test.YtljnadoodbninaaWRelB
import Derived.Test.YtljnadoodbninaaWOverlap
namespace Go.Proofs.Ytljnadoodbninaa.relKnown
open Go.RowKit
theorem rd_v : Vg.Rd 9218868437227405312 18442240474082181120 (9218868437227405312) (-9218868437227405312) := ⟨by decide, by decide, .inr ⟨by decide +kernel, rfl, rfl⟩⟩
theorem rd_a : Vg.Rd 18442240474082181120 9218868437227405312 (-9218868437227405312) (9218868437227405312) := ⟨by decide, by decide, .inl ⟨by decide, by decide, by decide, by decide, by decide, by decide, by decide⟩⟩
theorem rd_11 : Vg.Rd 4607182418800017408 4607182418800017408 (4607182418800017408) (4607182418800017408) := ⟨by decide, by decide, .inl ⟨by decide, by decide, by decide, by decide, by decide, by decide, by decide⟩⟩
theorem rd_12 : Vg.Rd 4607182418800017408 4611686018427387904 (4607182418800017408) (4611686018427387904) := ⟨by decide, by decide, .inl ⟨by decide, by decide, by decide, by decide, by decide, by decide, by decide⟩⟩
theorem rd_13 : Vg.Rd 4607182418800017408 4613937818241073152 (4607182418800017408) (4613937818241073152) := ⟨by decide, by decide, .inl ⟨by decide, by decide, by decide, by decide, by decide, by decide, by decide⟩⟩
theorem rd_14 : Vg.Rd 4607182418800017408 4616189618054758400 (4607182418800017408) (4616189618054758400) := ⟨by decide, by decide, .inl ⟨by decide, by decide, by decide, by decide, by decide, by decide, by decide⟩⟩
theorem rd_22 : Vg.Rd 4611686018427387904 4611686018427387904 (4611686018427387904) (4611686018427387904) := ⟨by decide, by decide, .inl ⟨by decide, by decide, by decide, by decide, by decide, by decide, by decide⟩⟩
theorem rd_23 : Vg.Rd 4611686018427387904 4613937818241073152 (4611686018427387904) (4613937818241073152) := ⟨by decide, by decide, .inl ⟨by decide, by decide, by decide, by decide, by decide, by decide, by decide⟩⟩
theorem rd_24 : Vg.Rd 4611686018427387904 4616189618054758400 (4611686018427387904) (4616189618054758400) := ⟨by decide, by decide, .inl ⟨by decide, by decide, by decide, by decide, by decide, by decide, by decide⟩⟩
theorem rd_34 : Vg.Rd 4613937818241073152 4616189618054758400 (4613937818241073152) (4616189618054758400) := ⟨by decide, by decide, .inl ⟨by decide, by decide, by decide, by decide, by decide, by decide, by decide⟩⟩
theorem rd_56 : Vg.Rd 4617315517961601024 4618441417868443648 (4617315517961601024) (4618441417868443648) := ⟨by decide, by decide, .inl ⟨by decide, by decide, by decide, by decide, by decide, by decide, by decide⟩⟩
theorem rd_16 : Vg.Rd 4607182418800017408 4618441417868443648 (4607182418800017408) (4618441417868443648) := ⟨by decide, by decide, .inl ⟨by decide, by decide, by decide, by decide, by decide, by decide, by decide⟩⟩
theorem rd_21 : Vg.Rd 4611686018427387904 4607182418800017408 (9218868437227405312) (-9218868437227405312) := ⟨by decide, by decide, .inr ⟨by decide +kernel, rfl, rfl⟩⟩
theorem rd_03 : Vg.Rd 0 4613937818241073152 (0) (4613937818241073152) := ⟨by decide, by decide, .inl ⟨by decide, by decide, by decide, by decide, by decide, by decide, by decide⟩⟩
theorem rd_1i : Vg.Rd 4607182418800017408 9218868437227405312 (4607182418800017408) (9218868437227405312) := ⟨by decide, by decide, .inl ⟨by decide, by decide, by decide, by decide, by decide, by decide, by decide⟩⟩
theorem rd_0i : Vg.Rd 0 9218868437227405312 (0) (9218868437227405312) := ⟨by decide, by decide, .inl ⟨by decide, by decide, by decide, by decide, by decide, by decide, by decide⟩⟩
theorem rd_2i : Vg.Rd 4611686018427387904 9218868437227405312 (4611686018427387904) (9218868437227405312) := ⟨by decide, by decide, .inl ⟨by decide, by decide, by decide, by decide, by decide, by decide, by decide⟩⟩
theorem rd_m3 : Vg.Rd 18442240474082181120 4613937818241073152 (-9218868437227405312) (4613937818241073152) := ⟨by decide, by decide, .inl ⟨by decide, by decide, by decide, by decide, by decide, by decide, by decide⟩⟩
theorem rd_m4 : Vg.Rd 18442240474082181120 4616189618054758400 (-9218868437227405312) (4616189618054758400) := ⟨by decide, by decide, .inl ⟨by decide, by decide, by decide, by decide, by decide, by decide, by decide⟩⟩
theorem rd_Mi : Vg.Rd 9218868437227405311 9218868437227405312 (9218868437227405311) (9218868437227405312) := ⟨by decide, by decide, .inl ⟨by decide, by decide, by decide, by decide, by decide, by decide, by decide⟩⟩
theorem bl_yes {u v : Int} (h : u < v) : bl u v := .inl h
theorem bl_pi : bl 9218868437227405312 9218868437227405312 := .inr ⟨rfl, .inl rfl⟩
theorem bl_npi : bl (-9218868437227405312) (-9218868437227405312) := .inr ⟨rfl, .inr rfl⟩
theorem bl_no {u v : Int} (h : ¬ u < v) (h2 : ¬ (u = v ∧ (u = 9218868437227405312 ∨ u = -9218868437227405312))) : ¬ bl u v := fun k => k.elim h h2
theorem kk0 (w : World) : Calls Try.prog 23 #[.agg #[.float .f64 4607182418800017408, .float .f64 4611686018427387904], .agg #[.float .f64 4613937818241073152, .float .f64 4616189618054758400]] w fun e w' => e = .returned (.agg #[.float .f64 9218868437227405312, .float .f64 18442240474082181120]) ∧ Below w.heap.size w w' := by
  refine (meet_any _ _ _ _ _ _ _ _ rd_12 rd_34 w).mono ?_; rintro e w' ⟨x, y, rfl, h, hb⟩
  have h2 : x = 9218868437227405312 ∧ y = -9218868437227405312 := by unfold Meet at h; rw [Vg.PI_eq] at h; omega
  rw [h2.1, h2.2]
  exact ⟨rfl, hb⟩
theorem kk1 (w : World) : Calls Try.prog 23 #[.agg #[.float .f64 4607182418800017408, .float .f64 4611686018427387904], .agg #[.float .f64 4611686018427387904, .float .f64 4613937818241073152]] w fun e w' => e = .returned (.agg #[.float .f64 4611686018427387904, .float .f64 4611686018427387904]) ∧ Below w.heap.size w w' := by
  refine (meet_any _ _ _ _ _ _ _ _ rd_12 rd_23 w).mono ?_; rintro e w' ⟨x, y, rfl, h, hb⟩
  have h2 : x = 4611686018427387904 ∧ y = 4611686018427387904 := by unfold Meet at h; rw [Vg.PI_eq] at h; omega
  rw [h2.1, h2.2]
  exact ⟨rfl, hb⟩
theorem kk2 (w : World) : Calls Try.prog 20 #[.agg #[.float .f64 4607182418800017408, .float .f64 4611686018427387904], .agg #[.float .f64 4617315517961601024, .float .f64 4618441417868443648]] w fun e w' => e = .returned (.agg #[.float .f64 4607182418800017408, .float .f64 4618441417868443648]) ∧ Below w.heap.size w w' := by
  refine (hull_any _ _ _ _ _ _ _ _ rd_12 rd_56 w).mono ?_; rintro e w' ⟨x, y, rfl, h, hb⟩
  have h2 : x = 4607182418800017408 ∧ y = 4618441417868443648 := by unfold Join at h; omega
  rw [h2.1, h2.2]
  exact ⟨rfl, hb⟩
theorem kk3 (w : World) : Calls Try.prog 20 #[.agg #[.float .f64 9218868437227405312, .float .f64 18442240474082181120], .agg #[.float .f64 4607182418800017408, .float .f64 4611686018427387904]] w fun e w' => e = .returned (.agg #[.float .f64 4607182418800017408, .float .f64 4611686018427387904]) ∧ Below w.heap.size w w' := by
  refine (hull_any _ _ _ _ _ _ _ _ rd_v rd_12 w).mono ?_; rintro e w' ⟨x, y, rfl, h, hb⟩
  have h2 : x = 4607182418800017408 ∧ y = 4611686018427387904 := by unfold Join at h; omega
  rw [h2.1, h2.2]
  exact ⟨rfl, hb⟩
theorem kk4 (w : World) : Calls Try.prog 53 #[.agg #[.float .f64 9218868437227405312, .float .f64 18442240474082181120], .agg #[.float .f64 9218868437227405312, .float .f64 18442240474082181120]] w fun e w' => e = .returned (.bool true) ∧ Below w.heap.size w w' := (interior_any _ _ _ _ _ _ _ _ rd_v rd_v w).mono (fun _ _ h => TB.yes h (.inl (by decide)))
theorem kk5 (w : World) : Calls Try.prog 53 #[.agg #[.float .f64 4607182418800017408, .float .f64 4611686018427387904], .agg #[.float .f64 4607182418800017408, .float .f64 4613937818241073152]] w fun e w' => e = .returned (.bool false) ∧ Below w.heap.size w w' := (interior_any _ _ _ _ _ _ _ _ rd_12 rd_13 w).mono (fun _ _ h => TB.no h (fun h => h.elim (by decide) (fun h => bl_no (by decide) (by decide) h.2.1)))
theorem kk6 (w : World) : Calls Try.prog 53 #[.agg #[.float .f64 4607182418800017408, .float .f64 4611686018427387904], .agg #[.float .f64 0, .float .f64 4613937818241073152]] w fun e w' => e = .returned (.bool true) ∧ Below w.heap.size w w' := (interior_any _ _ _ _ _ _ _ _ rd_12 rd_03 w).mono (fun _ _ h => TB.yes h (.inr ⟨by decide, bl_yes (by decide), bl_yes (by decide)⟩))
theorem kk7 (w : World) : Calls Try.prog 53 #[.agg #[.float .f64 4607182418800017408, .float .f64 9218868437227405312], .agg #[.float .f64 0, .float .f64 9218868437227405312]] w fun e w' => e = .returned (.bool true) ∧ Below w.heap.size w w' := (interior_any _ _ _ _ _ _ _ _ rd_1i rd_0i w).mono (fun _ _ h => TB.yes h (.inr ⟨by decide, bl_yes (by decide), bl_pi⟩))
theorem kk8 (w : World) : Calls Try.prog 53 #[.agg #[.float .f64 18442240474082181120, .float .f64 9218868437227405312], .agg #[.float .f64 18442240474082181120, .float .f64 9218868437227405312]] w fun e w' => e = .returned (.bool true) ∧ Below w.heap.size w w' := (interior_any _ _ _ _ _ _ _ _ rd_a rd_a w).mono (fun _ _ h => TB.yes h (.inr ⟨by decide, bl_npi, bl_pi⟩))
theorem kk9 (w : World) : Calls Try.prog 43 #[.agg #[.float .f64 9218868437227405312, .float .f64 18442240474082181120], .agg #[.float .f64 9218868437227405312, .float .f64 18442240474082181120]] w fun e w' => e = .returned (.bool true) ∧ Below w.heap.size w w' := (less_any _ _ _ _ _ _ _ _ rd_v rd_v w).mono (fun _ _ h => TB.yes h (by decide))
theorem kk10 (w : World) : Calls Try.prog 43 #[.agg #[.float .f64 9218868437227405312, .float .f64 18442240474082181120], .agg #[.float .f64 4607182418800017408, .float .f64 4611686018427387904]] w fun e w' => e = .returned (.bool false) ∧ Below w.heap.size w w' := (less_any _ _ _ _ _ _ _ _ rd_v rd_12 w).mono (fun _ _ h => TB.no h (by decide))
theorem kk11 (w : World) : Calls Try.prog 43 #[.agg #[.float .f64 4607182418800017408, .float .f64 4611686018427387904], .agg #[.float .f64 9218868437227405312, .float .f64 18442240474082181120]] w fun e w' => e = .returned (.bool false) ∧ Below w.heap.size w w' := (less_any _ _ _ _ _ _ _ _ rd_12 rd_v w).mono (fun _ _ h => TB.no h (by decide))
theorem kk12 (w : World) : Calls Try.prog 43 #[.agg #[.float .f64 4607182418800017408, .float .f64 4613937818241073152], .agg #[.float .f64 4611686018427387904, .float .f64 4616189618054758400]] w fun e w' => e = .returned (.bool true) ∧ Below w.heap.size w w' := (less_any _ _ _ _ _ _ _ _ rd_13 rd_24 w).mono (fun _ _ h => TB.yes h (by decide))
theorem kk13 (w : World) : Calls Try.prog 43 #[.agg #[.float .f64 4607182418800017408, .float .f64 4616189618054758400], .agg #[.float .f64 4611686018427387904, .float .f64 4613937818241073152]] w fun e w' => e = .returned (.bool false) ∧ Below w.heap.size w w' := (less_any _ _ _ _ _ _ _ _ rd_14 rd_23 w).mono (fun _ _ h => TB.no h (by decide))
theorem kk14 (w : World) : Calls Try.prog 45 #[.agg #[.float .f64 4607182418800017408, .float .f64 4613937818241073152], .agg #[.float .f64 4611686018427387904, .float .f64 4616189618054758400]] w fun e w' => e = .returned (.bool true) ∧ Below w.heap.size w w' := (sless_any _ _ _ _ _ _ _ _ rd_13 rd_24 w).mono (fun _ _ h => TB.yes h (.inr ⟨by decide, bl_yes (by decide), bl_yes (by decide)⟩))
theorem kk15 (w : World) : Calls Try.prog 45 #[.agg #[.float .f64 4607182418800017408, .float .f64 4613937818241073152], .agg #[.float .f64 4607182418800017408, .float .f64 4616189618054758400]] w fun e w' => e = .returned (.bool false) ∧ Below w.heap.size w w' := (sless_any _ _ _ _ _ _ _ _ rd_13 rd_14 w).mono (fun _ _ h => TB.no h (fun h => h.elim (by decide) (fun h => bl_no (by decide) (by decide) h.2.1)))
theorem kk16 (w : World) : Calls Try.prog 45 #[.agg #[.float .f64 18442240474082181120, .float .f64 4613937818241073152], .agg #[.float .f64 18442240474082181120, .float .f64 4616189618054758400]] w fun e w' => e = .returned (.bool true) ∧ Below w.heap.size w w' := (sless_any _ _ _ _ _ _ _ _ rd_m3 rd_m4 w).mono (fun _ _ h => TB.yes h (.inr ⟨by decide, bl_npi, bl_yes (by decide)⟩))
theorem kk17 (w : World) : Calls Try.prog 45 #[.agg #[.float .f64 4607182418800017408, .float .f64 9218868437227405312], .agg #[.float .f64 4611686018427387904, .float .f64 9218868437227405312]] w fun e w' => e = .returned (.bool true) ∧ Below w.heap.size w w' := (sless_any _ _ _ _ _ _ _ _ rd_1i rd_2i w).mono (fun _ _ h => TB.yes h (.inr ⟨by decide, bl_yes (by decide), bl_pi⟩))
theorem kk18 (w : World) : Calls Try.prog 47 #[.agg #[.float .f64 4607182418800017408, .float .f64 4611686018427387904], .agg #[.float .f64 4611686018427387904, .float .f64 4613937818241073152]] w fun e w' => e = .returned (.bool true) ∧ Below w.heap.size w w' := (prec_any _ _ _ _ _ _ _ _ rd_12 rd_23 w).mono (fun _ _ h => TB.yes h (by decide))
theorem kk19 (w : World) : Calls Try.prog 49 #[.agg #[.float .f64 4607182418800017408, .float .f64 4611686018427387904], .agg #[.float .f64 4611686018427387904, .float .f64 4613937818241073152]] w fun e w' => e = .returned (.bool false) ∧ Below w.heap.size w w' := (sprec_any _ _ _ _ _ _ _ _ rd_12 rd_23 w).mono (fun _ _ h => TB.no h (by decide))
theorem kk20 (w : World) : Calls Try.prog 47 #[.agg #[.float .f64 9218868437227405312, .float .f64 18442240474082181120], .agg #[.float .f64 4607182418800017408, .float .f64 4611686018427387904]] w fun e w' => e = .returned (.bool true) ∧ Below w.heap.size w w' := (prec_any _ _ _ _ _ _ _ _ rd_v rd_12 w).mono (fun _ _ h => TB.yes h (by decide))
theorem kk21 (w : World) : Calls Try.prog 49 #[.agg #[.float .f64 4607182418800017408, .float .f64 4611686018427387904], .agg #[.float .f64 9218868437227405312, .float .f64 18442240474082181120]] w fun e w' => e = .returned (.bool true) ∧ Below w.heap.size w w' := (sprec_any _ _ _ _ _ _ _ _ rd_12 rd_v w).mono (fun _ _ h => TB.yes h (by decide))
theorem kk22 (w : World) : Calls Try.prog 42 #[.agg #[.float .f64 9218868437227405312, .float .f64 18442240474082181120], .agg #[.float .f64 18442240474082181120, .float .f64 9218868437227405312]] w fun e w' => e = .returned (.bool true) ∧ Below w.heap.size w w' := (disjoint_any _ _ _ _ _ _ _ _ rd_v rd_a w).mono (fun _ _ h => TB.yes h (by decide))
theorem kk23 (w : World) : Calls Try.prog 25 #[.float .f64 4607182418800017408, .agg #[.float .f64 4607182418800017408, .float .f64 4611686018427387904]] w fun e w' => e = .returned (.bool true) ∧ Below w.heap.size w w' := (member_any _ _ _ _ _ (by decide) rd_12 w).mono (fun _ _ h => TB.yes h (by unfold mem; decide))
theorem kk24 (w : World) : Calls Try.prog 25 #[.float .f64 9218868437227405312, .agg #[.float .f64 18442240474082181120, .float .f64 9218868437227405312]] w fun e w' => e = .returned (.bool false) ∧ Below w.heap.size w w' := (member_any _ _ _ _ _ (by decide) rd_a w).mono (fun _ _ h => TB.no h (by unfold mem; decide))
theorem kk25 (w : World) : Calls Try.prog 25 #[.float .f64 9221120237041090561, .agg #[.float .f64 18442240474082181120, .float .f64 9218868437227405312]] w fun e w' => e = .returned (.bool false) ∧ Below w.heap.size w w' := (member_any _ _ _ _ _ (by decide) rd_a w).mono (fun _ _ h => TB.no h (by unfold mem; decide))
theorem kk26 (w : World) : Calls Try.prog 31 #[.agg #[.float .f64 4611686018427387904, .float .f64 4607182418800017408]] w fun e w' => e = .returned (.bool true) ∧ Below w.heap.size w w' := (isempty_any _ _ _ _ rd_21 w).mono (fun _ _ h => TB.yes h (by decide))
theorem kk27 (w : World) : Calls Try.prog 33 #[.agg #[.float .f64 18442240474082181120, .float .f64 9218868437227405312]] w fun e w' => e = .returned (.bool true) ∧ Below w.heap.size w w' := (isentire_any _ _ _ _ rd_a w).mono (fun _ _ h => TB.yes h (by decide))
theorem kk28 (w : World) : Calls Try.prog 36 #[.agg #[.float .f64 4607182418800017408, .float .f64 9218868437227405312]] w fun e w' => e = .returned (.bool false) ∧ Below w.heap.size w w' := (iscommon_any _ _ _ _ rd_1i w).mono (fun _ _ h => TB.no h (by decide))
theorem kk29 (w : World) : Calls Try.prog 56 #[.agg #[.float .f64 4607182418800017408, .float .f64 4607182418800017408], .agg #[.float .f64 4607182418800017408, .float .f64 4611686018427387904]] w fun e w' => e = .returned (.int .i64 6) ∧ Below w.heap.size w w' := by
  refine (overlap_any _ _ _ _ _ _ _ _ rd_11 rd_12 w).mono ?_; rintro e w' ⟨k, rfl, h, hb⟩
  have h : k = ov _ _ _ _ := h
  rw [h]
  exact ⟨by rw [show ov (4607182418800017408) (4607182418800017408) (4607182418800017408) (4611686018427387904) = 6 by decide], hb⟩
theorem kk30 (w : World) : Calls Try.prog 56 #[.agg #[.float .f64 4611686018427387904, .float .f64 4611686018427387904], .agg #[.float .f64 4607182418800017408, .float .f64 4611686018427387904]] w fun e w' => e = .returned (.int .i64 8) ∧ Below w.heap.size w w' := by
  refine (overlap_any _ _ _ _ _ _ _ _ rd_22 rd_12 w).mono ?_; rintro e w' ⟨k, rfl, h, hb⟩
  have h : k = ov _ _ _ _ := h
  rw [h]
  exact ⟨by rw [show ov (4611686018427387904) (4611686018427387904) (4607182418800017408) (4611686018427387904) = 8 by decide], hb⟩
theorem kk31 (w : World) : Calls Try.prog 56 #[.agg #[.float .f64 4607182418800017408, .float .f64 4611686018427387904], .agg #[.float .f64 4611686018427387904, .float .f64 4613937818241073152]] w fun e w' => e = .returned (.int .i64 4) ∧ Below w.heap.size w w' := by
  refine (overlap_any _ _ _ _ _ _ _ _ rd_12 rd_23 w).mono ?_; rintro e w' ⟨k, rfl, h, hb⟩
  have h : k = ov _ _ _ _ := h
  rw [h]
  exact ⟨by rw [show ov (4607182418800017408) (4611686018427387904) (4611686018427387904) (4613937818241073152) = 4 by decide], hb⟩
theorem kk32 (w : World) : Calls Try.prog 56 #[.agg #[.float .f64 4607182418800017408, .float .f64 4611686018427387904], .agg #[.float .f64 4611686018427387904, .float .f64 4611686018427387904]] w fun e w' => e = .returned (.int .i64 10) ∧ Below w.heap.size w w' := by
  refine (overlap_any _ _ _ _ _ _ _ _ rd_12 rd_22 w).mono ?_; rintro e w' ⟨k, rfl, h, hb⟩
  have h : k = ov _ _ _ _ := h
  rw [h]
  exact ⟨by rw [show ov (4607182418800017408) (4611686018427387904) (4611686018427387904) (4611686018427387904) = 10 by decide], hb⟩
theorem kk33 (w : World) : Calls Try.prog 56 #[.agg #[.float .f64 9218868437227405312, .float .f64 18442240474082181120], .agg #[.float .f64 4607182418800017408, .float .f64 4611686018427387904]] w fun e w' => e = .returned (.int .i64 1) ∧ Below w.heap.size w w' := by
  refine (overlap_any _ _ _ _ _ _ _ _ rd_v rd_12 w).mono ?_; rintro e w' ⟨k, rfl, h, hb⟩
  have h : k = ov _ _ _ _ := h
  rw [h]
  exact ⟨by rw [show ov (9218868437227405312) (-9218868437227405312) (4607182418800017408) (4611686018427387904) = 1 by decide], hb⟩

theorem kinf (w : World) : Calls Try.prog 65 #[.int .i64 1] w fun e w' => e = .returned (.float .f64 9218868437227405312) ∧ w = w' := by have h := inf_top w; rwa [Vg.atn_top] at h
theorem knan (w : World) : Calls Try.prog 66 #[] w fun e w' => e = .returned (.float .f64 9221120237041090561) ∧ w = w' := by
  have hx := frombits64 9221120237041090561
  go_enter Try.func66, Try.ntmps66
  go_wp2
  go_ret
  exact ⟨rfl, rfl⟩
theorem sums13 : Sums 4607182418800017408 4613937818241073152 := ⟨4616189618054758400, by decide, by decide +kernel, .inl ⟨by decide, 4611686018427387904, by decide, by decide +kernel⟩⟩
theorem b13 (w : World) : Calls Try.prog 60 #[.agg #[.float .f64 4607182418800017408, .float .f64 4613937818241073152]] w fun e w' => e = .returned (.tuple #[.agg #[.float .f64 4607182418800017408, .float .f64 4611686018427387904], .agg #[.float .f64 4611686018427387904, .float .f64 4613937818241073152], .bool true]) ∧ Below w.heap.size w w' := by
  refine (bis_yes _ _ (4607182418800017408) (4613937818241073152) rd_13 (by decide) (fun _ _ => sums13) w).mono ?_; rintro e w' ⟨a, b, c, d, ok, rfl, h, hb⟩
  rcases h with ⟨h, -⟩ | ⟨-, rfl, rfl, rfl, h5, rfl⟩
  · exact absurd h (by decide)
  have hc0 := h5
  clear hc0
  have hc : b = 4611686018427387904 := by
    rcases h5 with ⟨-, hm⟩ | ⟨hm, -⟩
    · rcases hm with ⟨hm, -, -⟩ | ⟨hm, -, -⟩ | ⟨-, hm, -⟩ | ⟨-, s, hs, hm⟩
      · exact absurd hm (by decide)
      · exact absurd hm (by decide)
      · exact absurd hm (by decide)
      · have e1 : floatBits .add .f64 (Vg.atn true 4607182418800017408) (Vg.atn true 4613937818241073152) = some 4616189618054758400 := by decide +kernel
        obtain rfl := Option.some.inj (e1.symm.trans hs)
        rcases hm with ⟨-, d, hd, hm⟩ | ⟨hm, -⟩
        · have e2 : floatBits .quo .f64 4616189618054758400 4611686018427387904 = some 4611686018427387904 := by decide +kernel
          obtain rfl := Option.some.inj (e2.symm.trans hd)
          rw [hm]; decide
        · exact absurd hm (by decide)
    · exact absurd hm (by decide)
  subst hc
  exact ⟨rfl, hb⟩
theorem ball (w : World) : Calls Try.prog 60 #[.agg #[.float .f64 18442240474082181120, .float .f64 9218868437227405312]] w fun e w' => e = .returned (.tuple #[.agg #[.float .f64 18442240474082181120, .float .f64 0], .agg #[.float .f64 0, .float .f64 9218868437227405312], .bool true]) ∧ Below w.heap.size w w' := by
  refine (bis_yes _ _ (-9218868437227405312) (9218868437227405312) rd_a (by decide) (fun h _ => absurd h (by decide)) w).mono ?_; rintro e w' ⟨a, b, c, d, ok, rfl, h, hb⟩
  rcases h with ⟨h, -⟩ | ⟨-, rfl, rfl, rfl, h5, rfl⟩
  · exact absurd h (by decide)
  have hc0 := h5
  clear hc0
  have hc : b = 0 := by
    rcases h5 with ⟨hm, -⟩ | ⟨-, hm⟩
    · exact absurd hm (by decide)
    · rw [hm]; decide
  subst hc
  exact ⟨rfl, hb⟩
theorem b1i (w : World) : Calls Try.prog 60 #[.agg #[.float .f64 4607182418800017408, .float .f64 9218868437227405312]] w fun e w' => e = .returned (.tuple #[.agg #[.float .f64 4607182418800017408, .float .f64 6913025428013711360], .agg #[.float .f64 6913025428013711360, .float .f64 9218868437227405312], .bool true]) ∧ Below w.heap.size w w' := by
  refine (bis_yes _ _ (4607182418800017408) (9218868437227405312) rd_1i (by decide) (fun _ h => absurd h (by decide)) w).mono ?_; rintro e w' ⟨a, b, c, d, ok, rfl, h, hb⟩
  rcases h with ⟨h, -⟩ | ⟨-, rfl, rfl, rfl, h5, rfl⟩
  · exact absurd h (by decide)
  have hc0 := h5
  clear hc0
  have hc : b = 6913025428013711360 := by
    rcases h5 with ⟨hm, -⟩ | ⟨-, hm⟩
    · exact absurd hm (by decide)
    · rw [hm]; decide
  subst hc
  exact ⟨rfl, hb⟩
theorem bM (w : World) : Calls Try.prog 60 #[.agg #[.float .f64 9218868437227405311, .float .f64 9218868437227405312]] w fun e w' => e = .returned (.tuple #[.agg #[.float .f64 0, .float .f64 0], .agg #[.float .f64 0, .float .f64 0], .bool false]) ∧ Below w.heap.size w w' := by
  refine (bis_no _ _ (9218868437227405311) (9218868437227405312) rd_Mi (by decide) w).mono ?_; rintro e w' ⟨a, b, c, d, ok, rfl, h, hb⟩
  rcases h with ⟨-, rfl, rfl, rfl, rfl, rfl⟩ | ⟨h, -⟩
  · exact ⟨rfl, hb⟩
  · exact absurd h (by decide)

set_option maxRecDepth 40000 in
set_option maxHeartbeats 16000000 in
theorem walk (w : World) : Calls Try.prog 18 #[] w fun e w' => e = .returned (.bool true) ∧ Below w.heap.size w w' := by
  have hst := sto
  have hm : Try.prog.eqGuardType Try.prog.depth 28 = false := by kernel_rfl
  have ng := Fb.run_neg_float .f64 9218868437227405312 18442240474082181120 (by decide +kernel)
  have e0 := eqI (a := 9218868437227405312) (b := 18442240474082181120) (c := 9218868437227405312) (d := 18442240474082181120) (x := true) (y := true) (by decide +kernel) (by decide +kernel)
  have e1 := eqI (a := 4611686018427387904) (b := 4611686018427387904) (c := 4611686018427387904) (d := 4611686018427387904) (x := true) (y := true) (by decide +kernel) (by decide +kernel)
  have e2 := eqI (a := 4607182418800017408) (b := 4618441417868443648) (c := 4607182418800017408) (d := 4618441417868443648) (x := true) (y := true) (by decide +kernel) (by decide +kernel)
  have e3 := eqI (a := 4607182418800017408) (b := 4611686018427387904) (c := 4607182418800017408) (d := 4611686018427387904) (x := true) (y := true) (by decide +kernel) (by decide +kernel)
  have e4 := eqI (a := 4611686018427387904) (b := 4613937818241073152) (c := 4611686018427387904) (d := 4613937818241073152) (x := true) (y := true) (by decide +kernel) (by decide +kernel)
  have e5 := eqI (a := 18442240474082181120) (b := 0) (c := 18442240474082181120) (d := 0) (x := true) (y := true) (by decide +kernel) (by decide +kernel)
  have e6 := eqI (a := 0) (b := 9218868437227405312) (c := 0) (d := 9218868437227405312) (x := true) (y := true) (by decide +kernel) (by decide +kernel)
  have e7 := eqI (a := 4607182418800017408) (b := 6913025428013711360) (c := 4607182418800017408) (d := 6913025428013711360) (x := true) (y := true) (by decide +kernel) (by decide +kernel)
  have e8 := eqI (a := 6913025428013711360) (b := 9218868437227405312) (c := 6913025428013711360) (d := 9218868437227405312) (x := true) (y := true) (by decide +kernel) (by decide +kernel)
  have e9 := eqI (a := 0) (b := 0) (c := 0) (d := 0) (x := true) (y := true) (by decide +kernel) (by decide +kernel)
  have B13 := b13
  have BALL := ball
  have B1I := b1i
  have BM := bM
  have g := Below.refl w.heap.size w
  go_enter Try.func18, Try.ntmps18
  go_upto_region 2 with (first | (go_at_call 65; refine (kinf _).mono ?_; rintro e w' ⟨rfl, rfl⟩))
  go_cut [2] from 9999 (fun v wx => Below w.heap.size w wx ∧ ∃ B0 : Nat, v = .pointer (some ⟨B0, 0, none⟩) ∧ wx.cell? ⟨B0, 0, none⟩ = some (.float .f64 9218868437227405312) ∧ wx.cell? ⟨B0, 1, none⟩ = some (.float .f64 18442240474082181120) ∧ B0 < wx.heap.size)
  case first =>
    go_wp2_with (go_at_call 62; refine (of_any _ _ _).mono ?_; rintro e w' ⟨rfl, hb1⟩; have g := bch g hb1; clear hb1)
    go_meet
    exact ⟨g.alloc g.size _, _, rfl, by simp [go_sem], by simp [go_sem], by simp⟩
  case rest =>
  clear g
  obtain ⟨g, B0, rfl, k00, k01, z0⟩ := hcut
  go_upto_region 3 with fail
  go_cut [3] from 9999 (fun v wx => ∃ B1 : Nat, v = .pointer (some ⟨B1, 0, none⟩) ∧ wx.cell? ⟨B0, 0, none⟩ = some (.float .f64 9218868437227405312) ∧ wx.cell? ⟨B0, 1, none⟩ = some (.float .f64 18442240474082181120) ∧ B0 < wx.heap.size ∧ wx.cell? ⟨B1, 0, none⟩ = some (.float .f64 18442240474082181120) ∧ wx.cell? ⟨B1, 1, none⟩ = some (.float .f64 9218868437227405312) ∧ B1 < wx.heap.size ∧ Below w.heap.size w wx)
  case first =>
    go_wp2_with (go_at_call 62; refine (of_any _ _ _).mono ?_; rintro e w' ⟨rfl, hb1⟩; have k00 := keep_cell hb1 z0 k00; have k01 := keep_cell hb1 z0 k01; have z0 := Nat.lt_of_lt_of_le z0 hb1.size; have g := (by first | exact bch g hb1 | exact bch g.drew hb1); clear hb1)
    go_meet
    exact ⟨_, rfl, keep_cell b_one (by dsimp only <;> omega) k00, keep_cell b_one (by dsimp only <;> omega) k01, by simp; omega, by simp [go_sem], by simp [go_sem], by simp, g.alloc g.size _⟩
  case rest =>
  clear k00 k01 z0 g
  obtain ⟨B1, rfl, k00, k01, z0, k10, k11, z1, g⟩ := hcut
  go_upto_region 4 with fail
  go_cut [45] from 9999 (fun v wx => v = .bool false ∧ wx.cell? ⟨B0, 0, none⟩ = some (.float .f64 9218868437227405312) ∧ wx.cell? ⟨B0, 1, none⟩ = some (.float .f64 18442240474082181120) ∧ B0 < wx.heap.size ∧ wx.cell? ⟨B1, 0, none⟩ = some (.float .f64 18442240474082181120) ∧ wx.cell? ⟨B1, 1, none⟩ = some (.float .f64 9218868437227405312) ∧ B1 < wx.heap.size ∧ Below w.heap.size w wx)
  case first =>
    as_aux_lemma =>
    go_wp2_with fail
    go_region_held3 (fun wx => wx.cell? ⟨B0, 0, none⟩ = some (.float .f64 9218868437227405312) ∧ wx.cell? ⟨B0, 1, none⟩ = some (.float .f64 18442240474082181120) ∧ B0 < wx.heap.size ∧ wx.cell? ⟨B1, 0, none⟩ = some (.float .f64 18442240474082181120) ∧ wx.cell? ⟨B1, 1, none⟩ = some (.float .f64 9218868437227405312) ∧ B1 < wx.heap.size ∧ Below w.heap.size w wx)
      (((try dsimp only); (repeat' apply And.intro) <;> first | assumption | (simp [*]; done) | exact Below.drew (by assumption) | exact keep_cell hb1 (by first | (dsimp only; omega) | (simp; omega)) (by simp [*]) | (have := hb1.size; omega) | (have := hb1.size; simp at this; omega) | exact bch (by simp [*]) hb1 | exact bch (Below.drew (by simp [*])) hb1))
      (first | (go_at_call 65; refine (kinf _).mono ?_; rintro e w' ⟨rfl, rfl⟩) | (go_at_call 66; refine (knan _).mono ?_; rintro e w' ⟨rfl, rfl⟩) | (go_at_call 62; refine (of_any _ _ _).mono ?_; rintro e w' ⟨rfl, hb1⟩) | (go_at_call 28; refine (awake_any _).mono ?_; rintro e w' ⟨rfl, hb1⟩) | (go_at_call 23; first | ((with_reducible refine (kk0 _).mono ?_); rintro e w' ⟨rfl, hb1⟩) | ((with_reducible refine (kk1 _).mono ?_); rintro e w' ⟨rfl, hb1⟩)) | (go_at_call 20; first | ((with_reducible refine (kk2 _).mono ?_); rintro e w' ⟨rfl, hb1⟩) | ((with_reducible refine (kk3 _).mono ?_); rintro e w' ⟨rfl, hb1⟩)))
    all_goals
      go_wp2_with fail
      go_meet
      exact ⟨rfl, by simp [*]⟩
  case rest =>
  as_aux_lemma =>
  clear k00 k01 z0 k10 k11 z1 g
  obtain ⟨rfl, k00, k01, z0, k10, k11, z1, g⟩ := hcut
  go_upto_region 6 with fail
  go_cut [74] from 9999 (fun v wx => v = .bool false ∧ wx.cell? ⟨B0, 0, none⟩ = some (.float .f64 9218868437227405312) ∧ wx.cell? ⟨B0, 1, none⟩ = some (.float .f64 18442240474082181120) ∧ B0 < wx.heap.size ∧ wx.cell? ⟨B1, 0, none⟩ = some (.float .f64 18442240474082181120) ∧ wx.cell? ⟨B1, 1, none⟩ = some (.float .f64 9218868437227405312) ∧ B1 < wx.heap.size ∧ Below w.heap.size w wx)
  case first =>
    as_aux_lemma =>
    go_wp2_with (first | (go_at_call 65; refine (kinf _).mono ?_; rintro e w' ⟨rfl, rfl⟩) | (go_at_call 66; refine (knan _).mono ?_; rintro e w' ⟨rfl, rfl⟩) | (go_at_call 62; refine (of_any _ _ _).mono ?_; rintro e w' ⟨rfl, hb1⟩; have k00 := keep_cell hb1 z0 k00; have k01 := keep_cell hb1 z0 k01; have k10 := keep_cell hb1 z1 k10; have k11 := keep_cell hb1 z1 k11; have z0 := Nat.lt_of_lt_of_le z0 hb1.size; have z1 := Nat.lt_of_lt_of_le z1 hb1.size; have g := (by first | exact bch g hb1 | exact bch g.drew hb1); clear hb1) | (go_at_call 28; refine (awake_any _).mono ?_; rintro e w' ⟨rfl, hb1⟩; have k00 := keep_cell hb1 z0 k00; have k01 := keep_cell hb1 z0 k01; have k10 := keep_cell hb1 z1 k10; have k11 := keep_cell hb1 z1 k11; have z0 := Nat.lt_of_lt_of_le z0 hb1.size; have z1 := Nat.lt_of_lt_of_le z1 hb1.size; have g := (by first | exact bch g hb1 | exact bch g.drew hb1); clear hb1) | (go_at_call 53; first | ((with_reducible refine (kk4 _).mono ?_); rintro e w' ⟨rfl, hb1⟩; have k00 := keep_cell hb1 z0 k00; have k01 := keep_cell hb1 z0 k01; have k10 := keep_cell hb1 z1 k10; have k11 := keep_cell hb1 z1 k11; have z0 := Nat.lt_of_lt_of_le z0 hb1.size; have z1 := Nat.lt_of_lt_of_le z1 hb1.size; have g := (by first | exact bch g hb1 | exact bch g.drew hb1); clear hb1) | ((with_reducible refine (kk5 _).mono ?_); rintro e w' ⟨rfl, hb1⟩; have k00 := keep_cell hb1 z0 k00; have k01 := keep_cell hb1 z0 k01; have k10 := keep_cell hb1 z1 k10; have k11 := keep_cell hb1 z1 k11; have z0 := Nat.lt_of_lt_of_le z0 hb1.size; have z1 := Nat.lt_of_lt_of_le z1 hb1.size; have g := (by first | exact bch g hb1 | exact bch g.drew hb1); clear hb1) | ((with_reducible refine (kk6 _).mono ?_); rintro e w' ⟨rfl, hb1⟩; have k00 := keep_cell hb1 z0 k00; have k01 := keep_cell hb1 z0 k01; have k10 := keep_cell hb1 z1 k10; have k11 := keep_cell hb1 z1 k11; have z0 := Nat.lt_of_lt_of_le z0 hb1.size; have z1 := Nat.lt_of_lt_of_le z1 hb1.size; have g := (by first | exact bch g hb1 | exact bch g.drew hb1); clear hb1) | ((with_reducible refine (kk7 _).mono ?_); rintro e w' ⟨rfl, hb1⟩; have k00 := keep_cell hb1 z0 k00; have k01 := keep_cell hb1 z0 k01; have k10 := keep_cell hb1 z1 k10; have k11 := keep_cell hb1 z1 k11; have z0 := Nat.lt_of_lt_of_le z0 hb1.size; have z1 := Nat.lt_of_lt_of_le z1 hb1.size; have g := (by first | exact bch g hb1 | exact bch g.drew hb1); clear hb1) | ((with_reducible refine (kk8 _).mono ?_); rintro e w' ⟨rfl, hb1⟩; have k00 := keep_cell hb1 z0 k00; have k01 := keep_cell hb1 z0 k01; have k10 := keep_cell hb1 z1 k10; have k11 := keep_cell hb1 z1 k11; have z0 := Nat.lt_of_lt_of_le z0 hb1.size; have z1 := Nat.lt_of_lt_of_le z1 hb1.size; have g := (by first | exact bch g hb1 | exact bch g.drew hb1); clear hb1)))
    go_meet
    exact ⟨rfl, k00, k01, z0, k10, k11, z1, g⟩
  case rest =>
  as_aux_lemma =>
  clear k00 k01 z0 k10 k11 z1 g
  obtain ⟨rfl, k00, k01, z0, k10, k11, z1, g⟩ := hcut
  go_upto_region 8 with fail
  go_cut [99] from 9999 (fun v wx => v = .bool false ∧ wx.cell? ⟨B0, 0, none⟩ = some (.float .f64 9218868437227405312) ∧ wx.cell? ⟨B0, 1, none⟩ = some (.float .f64 18442240474082181120) ∧ B0 < wx.heap.size ∧ wx.cell? ⟨B1, 0, none⟩ = some (.float .f64 18442240474082181120) ∧ wx.cell? ⟨B1, 1, none⟩ = some (.float .f64 9218868437227405312) ∧ B1 < wx.heap.size ∧ Below w.heap.size w wx)
  case first =>
    as_aux_lemma =>
    go_wp2_with fail
    go_region_held3 (fun wx => wx.cell? ⟨B0, 0, none⟩ = some (.float .f64 9218868437227405312) ∧ wx.cell? ⟨B0, 1, none⟩ = some (.float .f64 18442240474082181120) ∧ B0 < wx.heap.size ∧ wx.cell? ⟨B1, 0, none⟩ = some (.float .f64 18442240474082181120) ∧ wx.cell? ⟨B1, 1, none⟩ = some (.float .f64 9218868437227405312) ∧ B1 < wx.heap.size ∧ Below w.heap.size w wx)
      (((try dsimp only); (repeat' apply And.intro) <;> first | assumption | (simp [*]; done) | exact Below.drew (by assumption) | exact keep_cell hb1 (by first | (dsimp only; omega) | (simp; omega)) (by simp [*]) | (have := hb1.size; omega) | (have := hb1.size; simp at this; omega) | exact bch (by simp [*]) hb1 | exact bch (Below.drew (by simp [*])) hb1))
      (first | (go_at_call 65; refine (kinf _).mono ?_; rintro e w' ⟨rfl, rfl⟩) | (go_at_call 66; refine (knan _).mono ?_; rintro e w' ⟨rfl, rfl⟩) | (go_at_call 62; refine (of_any _ _ _).mono ?_; rintro e w' ⟨rfl, hb1⟩) | (go_at_call 28; refine (awake_any _).mono ?_; rintro e w' ⟨rfl, hb1⟩) | (go_at_call 43; first | ((with_reducible refine (kk9 _).mono ?_); rintro e w' ⟨rfl, hb1⟩) | ((with_reducible refine (kk10 _).mono ?_); rintro e w' ⟨rfl, hb1⟩) | ((with_reducible refine (kk11 _).mono ?_); rintro e w' ⟨rfl, hb1⟩) | ((with_reducible refine (kk12 _).mono ?_); rintro e w' ⟨rfl, hb1⟩) | ((with_reducible refine (kk13 _).mono ?_); rintro e w' ⟨rfl, hb1⟩)))
    all_goals
      go_wp2_with fail
      go_meet
      exact ⟨rfl, by simp [*]⟩
  case rest =>
  as_aux_lemma =>
  clear k00 k01 z0 k10 k11 z1 g
  obtain ⟨rfl, k00, k01, z0, k10, k11, z1, g⟩ := hcut
  go_upto_region 10 with fail
  go_cut [126] from 9999 (fun v wx => v = .bool false ∧ wx.cell? ⟨B0, 0, none⟩ = some (.float .f64 9218868437227405312) ∧ wx.cell? ⟨B0, 1, none⟩ = some (.float .f64 18442240474082181120) ∧ B0 < wx.heap.size ∧ wx.cell? ⟨B1, 0, none⟩ = some (.float .f64 18442240474082181120) ∧ wx.cell? ⟨B1, 1, none⟩ = some (.float .f64 9218868437227405312) ∧ B1 < wx.heap.size ∧ Below w.heap.size w wx)
  case first =>
    as_aux_lemma =>
    go_wp2_with (first | (go_at_call 65; refine (kinf _).mono ?_; rintro e w' ⟨rfl, rfl⟩) | (go_at_call 66; refine (knan _).mono ?_; rintro e w' ⟨rfl, rfl⟩) | (go_at_call 62; refine (of_any _ _ _).mono ?_; rintro e w' ⟨rfl, hb1⟩; have k00 := keep_cell hb1 z0 k00; have k01 := keep_cell hb1 z0 k01; have k10 := keep_cell hb1 z1 k10; have k11 := keep_cell hb1 z1 k11; have z0 := Nat.lt_of_lt_of_le z0 hb1.size; have z1 := Nat.lt_of_lt_of_le z1 hb1.size; have g := (by first | exact bch g hb1 | exact bch g.drew hb1); clear hb1) | (go_at_call 28; refine (awake_any _).mono ?_; rintro e w' ⟨rfl, hb1⟩; have k00 := keep_cell hb1 z0 k00; have k01 := keep_cell hb1 z0 k01; have k10 := keep_cell hb1 z1 k10; have k11 := keep_cell hb1 z1 k11; have z0 := Nat.lt_of_lt_of_le z0 hb1.size; have z1 := Nat.lt_of_lt_of_le z1 hb1.size; have g := (by first | exact bch g hb1 | exact bch g.drew hb1); clear hb1) | (go_at_call 45; first | ((with_reducible refine (kk14 _).mono ?_); rintro e w' ⟨rfl, hb1⟩; have k00 := keep_cell hb1 z0 k00; have k01 := keep_cell hb1 z0 k01; have k10 := keep_cell hb1 z1 k10; have k11 := keep_cell hb1 z1 k11; have z0 := Nat.lt_of_lt_of_le z0 hb1.size; have z1 := Nat.lt_of_lt_of_le z1 hb1.size; have g := (by first | exact bch g hb1 | exact bch g.drew hb1); clear hb1) | ((with_reducible refine (kk15 _).mono ?_); rintro e w' ⟨rfl, hb1⟩; have k00 := keep_cell hb1 z0 k00; have k01 := keep_cell hb1 z0 k01; have k10 := keep_cell hb1 z1 k10; have k11 := keep_cell hb1 z1 k11; have z0 := Nat.lt_of_lt_of_le z0 hb1.size; have z1 := Nat.lt_of_lt_of_le z1 hb1.size; have g := (by first | exact bch g hb1 | exact bch g.drew hb1); clear hb1) | ((with_reducible refine (kk16 _).mono ?_); rintro e w' ⟨rfl, hb1⟩; have k00 := keep_cell hb1 z0 k00; have k01 := keep_cell hb1 z0 k01; have k10 := keep_cell hb1 z1 k10; have k11 := keep_cell hb1 z1 k11; have z0 := Nat.lt_of_lt_of_le z0 hb1.size; have z1 := Nat.lt_of_lt_of_le z1 hb1.size; have g := (by first | exact bch g hb1 | exact bch g.drew hb1); clear hb1) | ((with_reducible refine (kk17 _).mono ?_); rintro e w' ⟨rfl, hb1⟩; have k00 := keep_cell hb1 z0 k00; have k01 := keep_cell hb1 z0 k01; have k10 := keep_cell hb1 z1 k10; have k11 := keep_cell hb1 z1 k11; have z0 := Nat.lt_of_lt_of_le z0 hb1.size; have z1 := Nat.lt_of_lt_of_le z1 hb1.size; have g := (by first | exact bch g hb1 | exact bch g.drew hb1); clear hb1)))
    go_meet
    exact ⟨rfl, k00, k01, z0, k10, k11, z1, g⟩
  case rest =>
  as_aux_lemma =>
  clear k00 k01 z0 k10 k11 z1 g
  obtain ⟨rfl, k00, k01, z0, k10, k11, z1, g⟩ := hcut
  go_upto_region 12 with fail
  go_cut [153] from 9999 (fun v wx => v = .bool false ∧ wx.cell? ⟨B0, 0, none⟩ = some (.float .f64 9218868437227405312) ∧ wx.cell? ⟨B0, 1, none⟩ = some (.float .f64 18442240474082181120) ∧ B0 < wx.heap.size ∧ wx.cell? ⟨B1, 0, none⟩ = some (.float .f64 18442240474082181120) ∧ wx.cell? ⟨B1, 1, none⟩ = some (.float .f64 9218868437227405312) ∧ B1 < wx.heap.size ∧ Below w.heap.size w wx)
  case first =>
    as_aux_lemma =>
    go_wp2_with fail
    go_region_held3 (fun wx => wx.cell? ⟨B0, 0, none⟩ = some (.float .f64 9218868437227405312) ∧ wx.cell? ⟨B0, 1, none⟩ = some (.float .f64 18442240474082181120) ∧ B0 < wx.heap.size ∧ wx.cell? ⟨B1, 0, none⟩ = some (.float .f64 18442240474082181120) ∧ wx.cell? ⟨B1, 1, none⟩ = some (.float .f64 9218868437227405312) ∧ B1 < wx.heap.size ∧ Below w.heap.size w wx)
      (((try dsimp only); (repeat' apply And.intro) <;> first | assumption | (simp [*]; done) | exact Below.drew (by assumption) | exact keep_cell hb1 (by first | (dsimp only; omega) | (simp; omega)) (by simp [*]) | (have := hb1.size; omega) | (have := hb1.size; simp at this; omega) | exact bch (by simp [*]) hb1 | exact bch (Below.drew (by simp [*])) hb1))
      (first | (go_at_call 65; refine (kinf _).mono ?_; rintro e w' ⟨rfl, rfl⟩) | (go_at_call 66; refine (knan _).mono ?_; rintro e w' ⟨rfl, rfl⟩) | (go_at_call 62; refine (of_any _ _ _).mono ?_; rintro e w' ⟨rfl, hb1⟩) | (go_at_call 28; refine (awake_any _).mono ?_; rintro e w' ⟨rfl, hb1⟩) | (go_at_call 47; first | ((with_reducible refine (kk18 _).mono ?_); rintro e w' ⟨rfl, hb1⟩) | ((with_reducible refine (kk20 _).mono ?_); rintro e w' ⟨rfl, hb1⟩)) | (go_at_call 49; first | ((with_reducible refine (kk19 _).mono ?_); rintro e w' ⟨rfl, hb1⟩) | ((with_reducible refine (kk21 _).mono ?_); rintro e w' ⟨rfl, hb1⟩)) | (go_at_call 42; first | ((with_reducible refine (kk22 _).mono ?_); rintro e w' ⟨rfl, hb1⟩)))
    all_goals
      go_wp2_with fail
      go_meet
      exact ⟨rfl, by simp [*]⟩
  case rest =>
  as_aux_lemma =>
  clear k00 k01 z0 k10 k11 z1 g
  obtain ⟨rfl, k00, k01, z0, k10, k11, z1, g⟩ := hcut
  go_upto_region 14 with fail
  go_cut [181] from 9999 (fun v wx => v = .bool false ∧ wx.cell? ⟨B0, 0, none⟩ = some (.float .f64 9218868437227405312) ∧ wx.cell? ⟨B0, 1, none⟩ = some (.float .f64 18442240474082181120) ∧ B0 < wx.heap.size ∧ wx.cell? ⟨B1, 0, none⟩ = some (.float .f64 18442240474082181120) ∧ wx.cell? ⟨B1, 1, none⟩ = some (.float .f64 9218868437227405312) ∧ B1 < wx.heap.size ∧ Below w.heap.size w wx)
  case first =>
    as_aux_lemma =>
    go_wp2_with fail
    go_region_held3 (fun wx => wx.cell? ⟨B0, 0, none⟩ = some (.float .f64 9218868437227405312) ∧ wx.cell? ⟨B0, 1, none⟩ = some (.float .f64 18442240474082181120) ∧ B0 < wx.heap.size ∧ wx.cell? ⟨B1, 0, none⟩ = some (.float .f64 18442240474082181120) ∧ wx.cell? ⟨B1, 1, none⟩ = some (.float .f64 9218868437227405312) ∧ B1 < wx.heap.size ∧ Below w.heap.size w wx)
      (((try dsimp only); (repeat' apply And.intro) <;> first | assumption | (simp [*]; done) | exact Below.drew (by assumption) | exact keep_cell hb1 (by first | (dsimp only; omega) | (simp; omega)) (by simp [*]) | (have := hb1.size; omega) | (have := hb1.size; simp at this; omega) | exact bch (by simp [*]) hb1 | exact bch (Below.drew (by simp [*])) hb1))
      (first | (go_at_call 65; refine (kinf _).mono ?_; rintro e w' ⟨rfl, rfl⟩) | (go_at_call 66; refine (knan _).mono ?_; rintro e w' ⟨rfl, rfl⟩) | (go_at_call 62; refine (of_any _ _ _).mono ?_; rintro e w' ⟨rfl, hb1⟩) | (go_at_call 28; refine (awake_any _).mono ?_; rintro e w' ⟨rfl, hb1⟩) | (go_at_call 25; first | ((with_reducible refine (kk23 _).mono ?_); rintro e w' ⟨rfl, hb1⟩) | ((with_reducible refine (kk24 _).mono ?_); rintro e w' ⟨rfl, hb1⟩) | ((with_reducible refine (kk25 _).mono ?_); rintro e w' ⟨rfl, hb1⟩)) | (go_at_call 31; first | ((with_reducible refine (kk26 _).mono ?_); rintro e w' ⟨rfl, hb1⟩)) | (go_at_call 33; first | ((with_reducible refine (kk27 _).mono ?_); rintro e w' ⟨rfl, hb1⟩)) | (go_at_call 36; first | ((with_reducible refine (kk28 _).mono ?_); rintro e w' ⟨rfl, hb1⟩)))
    all_goals
      go_wp2_with fail
      go_meet
      exact ⟨rfl, by simp [*]⟩
  case rest =>
  as_aux_lemma =>
  clear k00 k01 z0 k10 k11 z1 g
  obtain ⟨rfl, k00, k01, z0, k10, k11, z1, g⟩ := hcut
  go_upto_region 16 with fail
  go_cut [209] from 9999 (fun v wx => v = .bool false ∧ wx.cell? ⟨B0, 0, none⟩ = some (.float .f64 9218868437227405312) ∧ wx.cell? ⟨B0, 1, none⟩ = some (.float .f64 18442240474082181120) ∧ B0 < wx.heap.size ∧ wx.cell? ⟨B1, 0, none⟩ = some (.float .f64 18442240474082181120) ∧ wx.cell? ⟨B1, 1, none⟩ = some (.float .f64 9218868437227405312) ∧ B1 < wx.heap.size ∧ Below w.heap.size w wx)
  case first =>
    as_aux_lemma =>
    go_wp2_with fail
    go_region_held3 (fun wx => wx.cell? ⟨B0, 0, none⟩ = some (.float .f64 9218868437227405312) ∧ wx.cell? ⟨B0, 1, none⟩ = some (.float .f64 18442240474082181120) ∧ B0 < wx.heap.size ∧ wx.cell? ⟨B1, 0, none⟩ = some (.float .f64 18442240474082181120) ∧ wx.cell? ⟨B1, 1, none⟩ = some (.float .f64 9218868437227405312) ∧ B1 < wx.heap.size ∧ Below w.heap.size w wx)
      (((try dsimp only); (repeat' apply And.intro) <;> first | assumption | (simp [*]; done) | exact Below.drew (by assumption) | exact keep_cell hb1 (by first | (dsimp only; omega) | (simp; omega)) (by simp [*]) | (have := hb1.size; omega) | (have := hb1.size; simp at this; omega) | exact bch (by simp [*]) hb1 | exact bch (Below.drew (by simp [*])) hb1))
      (first | (go_at_call 65; refine (kinf _).mono ?_; rintro e w' ⟨rfl, rfl⟩) | (go_at_call 66; refine (knan _).mono ?_; rintro e w' ⟨rfl, rfl⟩) | (go_at_call 62; refine (of_any _ _ _).mono ?_; rintro e w' ⟨rfl, hb1⟩) | (go_at_call 28; refine (awake_any _).mono ?_; rintro e w' ⟨rfl, hb1⟩) | (go_at_call 56; first | ((with_reducible refine (kk29 _).mono ?_); rintro e w' ⟨rfl, hb1⟩) | ((with_reducible refine (kk30 _).mono ?_); rintro e w' ⟨rfl, hb1⟩) | ((with_reducible refine (kk31 _).mono ?_); rintro e w' ⟨rfl, hb1⟩) | ((with_reducible refine (kk32 _).mono ?_); rintro e w' ⟨rfl, hb1⟩) | ((with_reducible refine (kk33 _).mono ?_); rintro e w' ⟨rfl, hb1⟩)))
    all_goals
      go_wp2_with fail
      go_meet
      exact ⟨rfl, by simp [*]⟩
  case rest =>
  as_aux_lemma =>
  clear k00 k01 z0 k10 k11 z1 g
  obtain ⟨rfl, k00, k01, z0, k10, k11, z1, g⟩ := hcut
  go_upto_region 18 with fail
  go_cut [4, 5, 6] from 9999 (fun v4 v5 v6 wx => ∃ B2 B3 : Nat, v4 = .pointer (some ⟨B2, 0, none⟩) ∧ v5 = .pointer (some ⟨B3, 0, none⟩) ∧ v6 = .bool true ∧ wx.cell? ⟨B0, 0, none⟩ = some (.float .f64 9218868437227405312) ∧ wx.cell? ⟨B0, 1, none⟩ = some (.float .f64 18442240474082181120) ∧ B0 < wx.heap.size ∧ wx.cell? ⟨B1, 0, none⟩ = some (.float .f64 18442240474082181120) ∧ wx.cell? ⟨B1, 1, none⟩ = some (.float .f64 9218868437227405312) ∧ B1 < wx.heap.size ∧ Below w.heap.size w wx ∧ wx.cell? ⟨B2, 0, none⟩ = some (.float .f64 4607182418800017408) ∧ wx.cell? ⟨B2, 1, none⟩ = some (.float .f64 4611686018427387904) ∧ B2 < wx.heap.size ∧ wx.cell? ⟨B3, 0, none⟩ = some (.float .f64 4611686018427387904) ∧ wx.cell? ⟨B3, 1, none⟩ = some (.float .f64 4613937818241073152) ∧ B3 < wx.heap.size ∧ wx.frozen? ⟨B2, 0, none⟩ = false ∧ wx.frozen? ⟨B2, 1, none⟩ = false ∧ wx.frozen? ⟨B3, 0, none⟩ = false ∧ wx.frozen? ⟨B3, 1, none⟩ = false ∧ B0 < B2 ∧ B1 < B2 ∧ B2 < B3 ∧ w.heap.size ≤ B2)
  case first =>
    as_aux_lemma =>
    go_wp2_with (first | (go_at_call 62; refine (of_any _ _ _).mono ?_; rintro e w' ⟨rfl, hb1⟩; have k00 := keep_cell hb1 z0 k00; have k01 := keep_cell hb1 z0 k01; have k10 := keep_cell hb1 z1 k10; have k11 := keep_cell hb1 z1 k11; have z0 := Nat.lt_of_lt_of_le z0 hb1.size; have z1 := Nat.lt_of_lt_of_le z1 hb1.size; have g := (by first | exact bch g hb1 | exact bch g.drew hb1); clear hb1) | (go_at_call 60; refine (B13 _).mono ?_; rintro e w' ⟨rfl, hb1⟩; have k00 := keep_cell hb1 z0 k00; have k01 := keep_cell hb1 z0 k01; have k10 := keep_cell hb1 z1 k10; have k11 := keep_cell hb1 z1 k11; have z0 := Nat.lt_of_lt_of_le z0 hb1.size; have z1 := Nat.lt_of_lt_of_le z1 hb1.size; have g := (by first | exact bch g hb1 | exact bch g.drew hb1); clear hb1))
    go_meet
    refine ⟨_, _, rfl, rfl, rfl, ?_⟩
    (repeat' apply And.intro) <;> first | exact keep_cell (b_one.alloc (by simp) _) (by dsimp only <;> omega) (by assumption) | (simp [go_sem]; done) | (simp; omega) | exact (g.alloc g.size _).alloc (by have := g.size; simp; omega) _ | exact g.size | assumption
  case rest =>
  as_aux_lemma =>
  clear k00 k01 z0 k10 k11 z1 g
  obtain ⟨B2, B3, rfl, rfl, rfl, k00, k01, z0, k10, k11, z1, g, k20, k21, z2, k30, k31, z3, f20, f21, f30, f31, l0, l1, l2, l3⟩ := hcut
  go_upto_region 19 with fail
  go_cut [227] from 9999 (fun v wx => v = .bool false ∧ wx.cell? ⟨B0, 0, none⟩ = some (.float .f64 9218868437227405312) ∧ wx.cell? ⟨B0, 1, none⟩ = some (.float .f64 18442240474082181120) ∧ B0 < wx.heap.size ∧ wx.cell? ⟨B1, 0, none⟩ = some (.float .f64 18442240474082181120) ∧ wx.cell? ⟨B1, 1, none⟩ = some (.float .f64 9218868437227405312) ∧ B1 < wx.heap.size ∧ Below w.heap.size w wx ∧ wx.cell? ⟨B2, 0, none⟩ = some (.float .f64 4607182418800017408) ∧ wx.cell? ⟨B2, 1, none⟩ = some (.float .f64 4611686018427387904) ∧ B2 < wx.heap.size ∧ wx.cell? ⟨B3, 0, none⟩ = some (.float .f64 4611686018427387904) ∧ wx.cell? ⟨B3, 1, none⟩ = some (.float .f64 4613937818241073152) ∧ B3 < wx.heap.size ∧ wx.frozen? ⟨B2, 0, none⟩ = false ∧ wx.frozen? ⟨B2, 1, none⟩ = false ∧ wx.frozen? ⟨B3, 0, none⟩ = false ∧ wx.frozen? ⟨B3, 1, none⟩ = false ∧ B0 < B2 ∧ B1 < B2 ∧ B2 < B3 ∧ w.heap.size ≤ B2)
  case first =>
    as_aux_lemma =>
    go_wp2_with fail
    go_region_held3 (fun wx => wx.cell? ⟨B0, 0, none⟩ = some (.float .f64 9218868437227405312) ∧ wx.cell? ⟨B0, 1, none⟩ = some (.float .f64 18442240474082181120) ∧ B0 < wx.heap.size ∧ wx.cell? ⟨B1, 0, none⟩ = some (.float .f64 18442240474082181120) ∧ wx.cell? ⟨B1, 1, none⟩ = some (.float .f64 9218868437227405312) ∧ B1 < wx.heap.size ∧ Below w.heap.size w wx ∧ wx.cell? ⟨B2, 0, none⟩ = some (.float .f64 4607182418800017408) ∧ wx.cell? ⟨B2, 1, none⟩ = some (.float .f64 4611686018427387904) ∧ B2 < wx.heap.size ∧ wx.cell? ⟨B3, 0, none⟩ = some (.float .f64 4611686018427387904) ∧ wx.cell? ⟨B3, 1, none⟩ = some (.float .f64 4613937818241073152) ∧ B3 < wx.heap.size ∧ wx.frozen? ⟨B2, 0, none⟩ = false ∧ wx.frozen? ⟨B2, 1, none⟩ = false ∧ wx.frozen? ⟨B3, 0, none⟩ = false ∧ wx.frozen? ⟨B3, 1, none⟩ = false ∧ B0 < B2 ∧ B1 < B2 ∧ B2 < B3 ∧ w.heap.size ≤ B2)
      (((try dsimp only); (repeat' apply And.intro) <;> first | assumption | (simp [*]; done) | exact Below.drew (by assumption) | exact keep_cell hb1 (by first | (dsimp only; omega) | (simp; omega)) (by simp [*]) | exact keep_free hb1 (by first | (dsimp only; omega) | (simp; omega)) (by simp [*]) | (have := hb1.size; omega) | (have := hb1.size; simp at this; omega) | exact bch (by simp [*]) hb1 | exact bch (Below.drew (by simp [*])) hb1))
      (first | (go_at_call 65; refine (kinf _).mono ?_; rintro e w' ⟨rfl, rfl⟩) | (go_at_call 66; refine (knan _).mono ?_; rintro e w' ⟨rfl, rfl⟩) | (go_at_call 62; refine (of_any _ _ _).mono ?_; rintro e w' ⟨rfl, hb1⟩) | (go_at_call 28; refine (awake_any _).mono ?_; rintro e w' ⟨rfl, hb1⟩))
    all_goals
      go_wp2_with fail
      go_meet
      exact ⟨rfl, by simp [*]⟩
  case rest =>
  as_aux_lemma =>
  clear k00 k01 z0 k10 k11 z1 g k20 k21 z2 k30 k31 z3 f20 f21 f30 f31 l0 l1 l2 l3
  obtain ⟨rfl, k00, k01, z0, k10, k11, z1, g, k20, k21, z2, k30, k31, z3, f20, f21, f30, f31, l0, l1, l2, l3⟩ := hcut
  go_upto_region 21 with fail
  go_cut [6] (fun v wx => v = .bool true ∧ wx.cell? ⟨B0, 0, none⟩ = some (.float .f64 9218868437227405312) ∧ wx.cell? ⟨B0, 1, none⟩ = some (.float .f64 18442240474082181120) ∧ B0 < wx.heap.size ∧ wx.cell? ⟨B1, 0, none⟩ = some (.float .f64 18442240474082181120) ∧ wx.cell? ⟨B1, 1, none⟩ = some (.float .f64 9218868437227405312) ∧ B1 < wx.heap.size ∧ Below w.heap.size w wx ∧ wx.cell? ⟨B2, 0, none⟩ = some (.float .f64 18442240474082181120) ∧ wx.cell? ⟨B2, 1, none⟩ = some (.float .f64 0) ∧ B2 < wx.heap.size ∧ wx.cell? ⟨B3, 0, none⟩ = some (.float .f64 0) ∧ wx.cell? ⟨B3, 1, none⟩ = some (.float .f64 9218868437227405312) ∧ B3 < wx.heap.size ∧ wx.frozen? ⟨B2, 0, none⟩ = false ∧ wx.frozen? ⟨B2, 1, none⟩ = false ∧ wx.frozen? ⟨B3, 0, none⟩ = false ∧ wx.frozen? ⟨B3, 1, none⟩ = false ∧ B0 < B2 ∧ B1 < B2 ∧ B2 < B3 ∧ w.heap.size ≤ B2)
  case first =>
    as_aux_lemma =>
    go_wp2_with (first | (go_at_call 62; refine (of_any _ _ _).mono ?_; rintro e w' ⟨rfl, hb1⟩; have k00 := keep_cell hb1 z0 k00; have k01 := keep_cell hb1 z0 k01; have k10 := keep_cell hb1 z1 k10; have k11 := keep_cell hb1 z1 k11; have k20 := keep_cell hb1 z2 k20; have k21 := keep_cell hb1 z2 k21; have k30 := keep_cell hb1 z3 k30; have k31 := keep_cell hb1 z3 k31; have f20 := keep_free hb1 z2 f20; have f21 := keep_free hb1 z2 f21; have f30 := keep_free hb1 z3 f30; have f31 := keep_free hb1 z3 f31; have z0 := Nat.lt_of_lt_of_le z0 hb1.size; have z1 := Nat.lt_of_lt_of_le z1 hb1.size; have z2 := Nat.lt_of_lt_of_le z2 hb1.size; have z3 := Nat.lt_of_lt_of_le z3 hb1.size; have g := (by first | exact bch g hb1 | exact bch g.drew hb1); clear hb1) | (go_at_call 60; refine (BALL _).mono ?_; rintro e w' ⟨rfl, hb1⟩; have k00 := keep_cell hb1 z0 k00; have k01 := keep_cell hb1 z0 k01; have k10 := keep_cell hb1 z1 k10; have k11 := keep_cell hb1 z1 k11; have k20 := keep_cell hb1 z2 k20; have k21 := keep_cell hb1 z2 k21; have k30 := keep_cell hb1 z3 k30; have k31 := keep_cell hb1 z3 k31; have f20 := keep_free hb1 z2 f20; have f21 := keep_free hb1 z2 f21; have f30 := keep_free hb1 z3 f30; have f31 := keep_free hb1 z3 f31; have z0 := Nat.lt_of_lt_of_le z0 hb1.size; have z1 := Nat.lt_of_lt_of_le z1 hb1.size; have z2 := Nat.lt_of_lt_of_le z2 hb1.size; have z3 := Nat.lt_of_lt_of_le z3 hb1.size; have g := (by first | exact bch g hb1 | exact bch g.drew hb1); clear hb1))
    go_meet
    have n0 : B0 ≠ B2 := by omega
    have n1 : B0 ≠ B3 := by omega
    have n2 : B1 ≠ B2 := by omega
    have n3 : B1 ≠ B3 := by omega
    have n4 : B2 ≠ B3 := by omega
    have n5 : B3 ≠ B2 := by omega
    refine ⟨rfl, ?_⟩
    (repeat' apply And.intro) <;> first | with_reducible assumption | (simp only [go_sem, k00, k01, k10, k11, k20, k21, k30, k31, z0, z1, z2, z3, f20, f21, f30, f31, n0, n1, n2, n3, n4, n5, n0.symm, n1.symm, n2.symm, n3.symm]; done) | exact (((g.setCell (by dsimp only <;> omega) _).setCell (by dsimp only <;> omega) _).setCell (by dsimp only <;> omega) _).setCell (by dsimp only <;> omega) _ | (simp [go_sem, k00, k01, k10, k11, k20, k21, k30, k31, z0, z1, z2, z3, f20, f21, f30, f31]; done)
  case rest =>
  as_aux_lemma =>
  clear k00 k01 z0 k10 k11 z1 g k20 k21 z2 k30 k31 z3 f20 f21 f30 f31 l0 l1 l2 l3
  obtain ⟨rfl, k00, k01, z0, k10, k11, z1, g, k20, k21, z2, k30, k31, z3, f20, f21, f30, f31, l0, l1, l2, l3⟩ := hcut
  go_upto_region 22 with fail
  go_cut [248] from 9999 (fun v wx => v = .bool false ∧ wx.cell? ⟨B0, 0, none⟩ = some (.float .f64 9218868437227405312) ∧ wx.cell? ⟨B0, 1, none⟩ = some (.float .f64 18442240474082181120) ∧ B0 < wx.heap.size ∧ wx.cell? ⟨B1, 0, none⟩ = some (.float .f64 18442240474082181120) ∧ wx.cell? ⟨B1, 1, none⟩ = some (.float .f64 9218868437227405312) ∧ B1 < wx.heap.size ∧ Below w.heap.size w wx ∧ wx.cell? ⟨B2, 0, none⟩ = some (.float .f64 18442240474082181120) ∧ wx.cell? ⟨B2, 1, none⟩ = some (.float .f64 0) ∧ B2 < wx.heap.size ∧ wx.cell? ⟨B3, 0, none⟩ = some (.float .f64 0) ∧ wx.cell? ⟨B3, 1, none⟩ = some (.float .f64 9218868437227405312) ∧ B3 < wx.heap.size ∧ wx.frozen? ⟨B2, 0, none⟩ = false ∧ wx.frozen? ⟨B2, 1, none⟩ = false ∧ wx.frozen? ⟨B3, 0, none⟩ = false ∧ wx.frozen? ⟨B3, 1, none⟩ = false ∧ B0 < B2 ∧ B1 < B2 ∧ B2 < B3 ∧ w.heap.size ≤ B2)
  case first =>
    as_aux_lemma =>
    go_wp2_with fail
    go_region_held3 (fun wx => wx.cell? ⟨B0, 0, none⟩ = some (.float .f64 9218868437227405312) ∧ wx.cell? ⟨B0, 1, none⟩ = some (.float .f64 18442240474082181120) ∧ B0 < wx.heap.size ∧ wx.cell? ⟨B1, 0, none⟩ = some (.float .f64 18442240474082181120) ∧ wx.cell? ⟨B1, 1, none⟩ = some (.float .f64 9218868437227405312) ∧ B1 < wx.heap.size ∧ Below w.heap.size w wx ∧ wx.cell? ⟨B2, 0, none⟩ = some (.float .f64 18442240474082181120) ∧ wx.cell? ⟨B2, 1, none⟩ = some (.float .f64 0) ∧ B2 < wx.heap.size ∧ wx.cell? ⟨B3, 0, none⟩ = some (.float .f64 0) ∧ wx.cell? ⟨B3, 1, none⟩ = some (.float .f64 9218868437227405312) ∧ B3 < wx.heap.size ∧ wx.frozen? ⟨B2, 0, none⟩ = false ∧ wx.frozen? ⟨B2, 1, none⟩ = false ∧ wx.frozen? ⟨B3, 0, none⟩ = false ∧ wx.frozen? ⟨B3, 1, none⟩ = false ∧ B0 < B2 ∧ B1 < B2 ∧ B2 < B3 ∧ w.heap.size ≤ B2)
      (((try dsimp only); (repeat' apply And.intro) <;> first | assumption | (simp [*]; done) | exact Below.drew (by assumption) | exact keep_cell hb1 (by first | (dsimp only; omega) | (simp; omega)) (by simp [*]) | exact keep_free hb1 (by first | (dsimp only; omega) | (simp; omega)) (by simp [*]) | (have := hb1.size; omega) | (have := hb1.size; simp at this; omega) | exact bch (by simp [*]) hb1 | exact bch (Below.drew (by simp [*])) hb1))
      (first | (go_at_call 65; refine (kinf _).mono ?_; rintro e w' ⟨rfl, rfl⟩) | (go_at_call 66; refine (knan _).mono ?_; rintro e w' ⟨rfl, rfl⟩) | (go_at_call 62; refine (of_any _ _ _).mono ?_; rintro e w' ⟨rfl, hb1⟩) | (go_at_call 28; refine (awake_any _).mono ?_; rintro e w' ⟨rfl, hb1⟩))
    all_goals
      go_wp2_with fail
      go_meet
      exact ⟨rfl, by simp [*]⟩
  case rest =>
  as_aux_lemma =>
  clear k00 k01 z0 k10 k11 z1 g k20 k21 z2 k30 k31 z3 f20 f21 f30 f31 l0 l1 l2 l3
  obtain ⟨rfl, k00, k01, z0, k10, k11, z1, g, k20, k21, z2, k30, k31, z3, f20, f21, f30, f31, l0, l1, l2, l3⟩ := hcut
  go_upto_region 24 with fail
  go_cut [6] (fun v wx => v = .bool true ∧ wx.cell? ⟨B0, 0, none⟩ = some (.float .f64 9218868437227405312) ∧ wx.cell? ⟨B0, 1, none⟩ = some (.float .f64 18442240474082181120) ∧ B0 < wx.heap.size ∧ wx.cell? ⟨B1, 0, none⟩ = some (.float .f64 18442240474082181120) ∧ wx.cell? ⟨B1, 1, none⟩ = some (.float .f64 9218868437227405312) ∧ B1 < wx.heap.size ∧ Below w.heap.size w wx ∧ wx.cell? ⟨B2, 0, none⟩ = some (.float .f64 4607182418800017408) ∧ wx.cell? ⟨B2, 1, none⟩ = some (.float .f64 6913025428013711360) ∧ B2 < wx.heap.size ∧ wx.cell? ⟨B3, 0, none⟩ = some (.float .f64 6913025428013711360) ∧ wx.cell? ⟨B3, 1, none⟩ = some (.float .f64 9218868437227405312) ∧ B3 < wx.heap.size ∧ wx.frozen? ⟨B2, 0, none⟩ = false ∧ wx.frozen? ⟨B2, 1, none⟩ = false ∧ wx.frozen? ⟨B3, 0, none⟩ = false ∧ wx.frozen? ⟨B3, 1, none⟩ = false ∧ B0 < B2 ∧ B1 < B2 ∧ B2 < B3 ∧ w.heap.size ≤ B2)
  case first =>
    as_aux_lemma =>
    go_wp2_with (first | (go_at_call 62; refine (of_any _ _ _).mono ?_; rintro e w' ⟨rfl, hb1⟩; have k00 := keep_cell hb1 z0 k00; have k01 := keep_cell hb1 z0 k01; have k10 := keep_cell hb1 z1 k10; have k11 := keep_cell hb1 z1 k11; have k20 := keep_cell hb1 z2 k20; have k21 := keep_cell hb1 z2 k21; have k30 := keep_cell hb1 z3 k30; have k31 := keep_cell hb1 z3 k31; have f20 := keep_free hb1 z2 f20; have f21 := keep_free hb1 z2 f21; have f30 := keep_free hb1 z3 f30; have f31 := keep_free hb1 z3 f31; have z0 := Nat.lt_of_lt_of_le z0 hb1.size; have z1 := Nat.lt_of_lt_of_le z1 hb1.size; have z2 := Nat.lt_of_lt_of_le z2 hb1.size; have z3 := Nat.lt_of_lt_of_le z3 hb1.size; have g := (by first | exact bch g hb1 | exact bch g.drew hb1); clear hb1) | (go_at_call 60; refine (B1I _).mono ?_; rintro e w' ⟨rfl, hb1⟩; have k00 := keep_cell hb1 z0 k00; have k01 := keep_cell hb1 z0 k01; have k10 := keep_cell hb1 z1 k10; have k11 := keep_cell hb1 z1 k11; have k20 := keep_cell hb1 z2 k20; have k21 := keep_cell hb1 z2 k21; have k30 := keep_cell hb1 z3 k30; have k31 := keep_cell hb1 z3 k31; have f20 := keep_free hb1 z2 f20; have f21 := keep_free hb1 z2 f21; have f30 := keep_free hb1 z3 f30; have f31 := keep_free hb1 z3 f31; have z0 := Nat.lt_of_lt_of_le z0 hb1.size; have z1 := Nat.lt_of_lt_of_le z1 hb1.size; have z2 := Nat.lt_of_lt_of_le z2 hb1.size; have z3 := Nat.lt_of_lt_of_le z3 hb1.size; have g := (by first | exact bch g hb1 | exact bch g.drew hb1); clear hb1))
    go_meet
    have n0 : B0 ≠ B2 := by omega
    have n1 : B0 ≠ B3 := by omega
    have n2 : B1 ≠ B2 := by omega
    have n3 : B1 ≠ B3 := by omega
    have n4 : B2 ≠ B3 := by omega
    have n5 : B3 ≠ B2 := by omega
    refine ⟨rfl, ?_⟩
    (repeat' apply And.intro) <;> first | with_reducible assumption | (simp only [go_sem, k00, k01, k10, k11, k20, k21, k30, k31, z0, z1, z2, z3, f20, f21, f30, f31, n0, n1, n2, n3, n4, n5, n0.symm, n1.symm, n2.symm, n3.symm]; done) | exact (((g.setCell (by dsimp only <;> omega) _).setCell (by dsimp only <;> omega) _).setCell (by dsimp only <;> omega) _).setCell (by dsimp only <;> omega) _ | (simp [go_sem, k00, k01, k10, k11, k20, k21, k30, k31, z0, z1, z2, z3, f20, f21, f30, f31]; done)
  case rest =>
  as_aux_lemma =>
  clear k00 k01 z0 k10 k11 z1 g k20 k21 z2 k30 k31 z3 f20 f21 f30 f31 l0 l1 l2 l3
  obtain ⟨rfl, k00, k01, z0, k10, k11, z1, g, k20, k21, z2, k30, k31, z3, f20, f21, f30, f31, l0, l1, l2, l3⟩ := hcut
  go_upto_region 25 with fail
  go_cut [268] from 9999 (fun v wx => v = .bool false ∧ wx.cell? ⟨B0, 0, none⟩ = some (.float .f64 9218868437227405312) ∧ wx.cell? ⟨B0, 1, none⟩ = some (.float .f64 18442240474082181120) ∧ B0 < wx.heap.size ∧ wx.cell? ⟨B1, 0, none⟩ = some (.float .f64 18442240474082181120) ∧ wx.cell? ⟨B1, 1, none⟩ = some (.float .f64 9218868437227405312) ∧ B1 < wx.heap.size ∧ Below w.heap.size w wx ∧ wx.cell? ⟨B2, 0, none⟩ = some (.float .f64 4607182418800017408) ∧ wx.cell? ⟨B2, 1, none⟩ = some (.float .f64 6913025428013711360) ∧ B2 < wx.heap.size ∧ wx.cell? ⟨B3, 0, none⟩ = some (.float .f64 6913025428013711360) ∧ wx.cell? ⟨B3, 1, none⟩ = some (.float .f64 9218868437227405312) ∧ B3 < wx.heap.size ∧ wx.frozen? ⟨B2, 0, none⟩ = false ∧ wx.frozen? ⟨B2, 1, none⟩ = false ∧ wx.frozen? ⟨B3, 0, none⟩ = false ∧ wx.frozen? ⟨B3, 1, none⟩ = false ∧ B0 < B2 ∧ B1 < B2 ∧ B2 < B3 ∧ w.heap.size ≤ B2)
  case first =>
    as_aux_lemma =>
    go_wp2_with fail
    go_region_held3 (fun wx => wx.cell? ⟨B0, 0, none⟩ = some (.float .f64 9218868437227405312) ∧ wx.cell? ⟨B0, 1, none⟩ = some (.float .f64 18442240474082181120) ∧ B0 < wx.heap.size ∧ wx.cell? ⟨B1, 0, none⟩ = some (.float .f64 18442240474082181120) ∧ wx.cell? ⟨B1, 1, none⟩ = some (.float .f64 9218868437227405312) ∧ B1 < wx.heap.size ∧ Below w.heap.size w wx ∧ wx.cell? ⟨B2, 0, none⟩ = some (.float .f64 4607182418800017408) ∧ wx.cell? ⟨B2, 1, none⟩ = some (.float .f64 6913025428013711360) ∧ B2 < wx.heap.size ∧ wx.cell? ⟨B3, 0, none⟩ = some (.float .f64 6913025428013711360) ∧ wx.cell? ⟨B3, 1, none⟩ = some (.float .f64 9218868437227405312) ∧ B3 < wx.heap.size ∧ wx.frozen? ⟨B2, 0, none⟩ = false ∧ wx.frozen? ⟨B2, 1, none⟩ = false ∧ wx.frozen? ⟨B3, 0, none⟩ = false ∧ wx.frozen? ⟨B3, 1, none⟩ = false ∧ B0 < B2 ∧ B1 < B2 ∧ B2 < B3 ∧ w.heap.size ≤ B2)
      (((try dsimp only); (repeat' apply And.intro) <;> first | assumption | (simp [*]; done) | exact Below.drew (by assumption) | exact keep_cell hb1 (by first | (dsimp only; omega) | (simp; omega)) (by simp [*]) | exact keep_free hb1 (by first | (dsimp only; omega) | (simp; omega)) (by simp [*]) | (have := hb1.size; omega) | (have := hb1.size; simp at this; omega) | exact bch (by simp [*]) hb1 | exact bch (Below.drew (by simp [*])) hb1))
      (first | (go_at_call 65; refine (kinf _).mono ?_; rintro e w' ⟨rfl, rfl⟩) | (go_at_call 66; refine (knan _).mono ?_; rintro e w' ⟨rfl, rfl⟩) | (go_at_call 62; refine (of_any _ _ _).mono ?_; rintro e w' ⟨rfl, hb1⟩) | (go_at_call 28; refine (awake_any _).mono ?_; rintro e w' ⟨rfl, hb1⟩))
    all_goals
      go_wp2_with fail
      go_meet
      exact ⟨rfl, by simp [*]⟩
  case rest =>
  as_aux_lemma =>
  clear k00 k01 z0 k10 k11 z1 g k20 k21 z2 k30 k31 z3 f20 f21 f30 f31 l0 l1 l2 l3
  obtain ⟨rfl, k00, k01, z0, k10, k11, z1, g, k20, k21, z2, k30, k31, z3, f20, f21, f30, f31, l0, l1, l2, l3⟩ := hcut
  go_upto_region 27 with fail
  go_cut [6] (fun v wx => v = .bool false ∧ wx.cell? ⟨B0, 0, none⟩ = some (.float .f64 9218868437227405312) ∧ wx.cell? ⟨B0, 1, none⟩ = some (.float .f64 18442240474082181120) ∧ B0 < wx.heap.size ∧ wx.cell? ⟨B1, 0, none⟩ = some (.float .f64 18442240474082181120) ∧ wx.cell? ⟨B1, 1, none⟩ = some (.float .f64 9218868437227405312) ∧ B1 < wx.heap.size ∧ Below w.heap.size w wx ∧ wx.cell? ⟨B2, 0, none⟩ = some (.float .f64 0) ∧ wx.cell? ⟨B2, 1, none⟩ = some (.float .f64 0) ∧ B2 < wx.heap.size ∧ wx.cell? ⟨B3, 0, none⟩ = some (.float .f64 0) ∧ wx.cell? ⟨B3, 1, none⟩ = some (.float .f64 0) ∧ B3 < wx.heap.size ∧ wx.frozen? ⟨B2, 0, none⟩ = false ∧ wx.frozen? ⟨B2, 1, none⟩ = false ∧ wx.frozen? ⟨B3, 0, none⟩ = false ∧ wx.frozen? ⟨B3, 1, none⟩ = false ∧ B0 < B2 ∧ B1 < B2 ∧ B2 < B3 ∧ w.heap.size ≤ B2)
  case first =>
    as_aux_lemma =>
    go_wp2_with (first | (go_at_call 62; refine (of_any _ _ _).mono ?_; rintro e w' ⟨rfl, hb1⟩; have k00 := keep_cell hb1 z0 k00; have k01 := keep_cell hb1 z0 k01; have k10 := keep_cell hb1 z1 k10; have k11 := keep_cell hb1 z1 k11; have k20 := keep_cell hb1 z2 k20; have k21 := keep_cell hb1 z2 k21; have k30 := keep_cell hb1 z3 k30; have k31 := keep_cell hb1 z3 k31; have f20 := keep_free hb1 z2 f20; have f21 := keep_free hb1 z2 f21; have f30 := keep_free hb1 z3 f30; have f31 := keep_free hb1 z3 f31; have z0 := Nat.lt_of_lt_of_le z0 hb1.size; have z1 := Nat.lt_of_lt_of_le z1 hb1.size; have z2 := Nat.lt_of_lt_of_le z2 hb1.size; have z3 := Nat.lt_of_lt_of_le z3 hb1.size; have g := (by first | exact bch g hb1 | exact bch g.drew hb1); clear hb1) | (go_at_call 60; refine (BM _).mono ?_; rintro e w' ⟨rfl, hb1⟩; have k00 := keep_cell hb1 z0 k00; have k01 := keep_cell hb1 z0 k01; have k10 := keep_cell hb1 z1 k10; have k11 := keep_cell hb1 z1 k11; have k20 := keep_cell hb1 z2 k20; have k21 := keep_cell hb1 z2 k21; have k30 := keep_cell hb1 z3 k30; have k31 := keep_cell hb1 z3 k31; have f20 := keep_free hb1 z2 f20; have f21 := keep_free hb1 z2 f21; have f30 := keep_free hb1 z3 f30; have f31 := keep_free hb1 z3 f31; have z0 := Nat.lt_of_lt_of_le z0 hb1.size; have z1 := Nat.lt_of_lt_of_le z1 hb1.size; have z2 := Nat.lt_of_lt_of_le z2 hb1.size; have z3 := Nat.lt_of_lt_of_le z3 hb1.size; have g := (by first | exact bch g hb1 | exact bch g.drew hb1); clear hb1))
    go_meet
    have n0 : B0 ≠ B2 := by omega
    have n1 : B0 ≠ B3 := by omega
    have n2 : B1 ≠ B2 := by omega
    have n3 : B1 ≠ B3 := by omega
    have n4 : B2 ≠ B3 := by omega
    have n5 : B3 ≠ B2 := by omega
    refine ⟨rfl, ?_⟩
    (repeat' apply And.intro) <;> first | with_reducible assumption | (simp only [go_sem, k00, k01, k10, k11, k20, k21, k30, k31, z0, z1, z2, z3, f20, f21, f30, f31, n0, n1, n2, n3, n4, n5, n0.symm, n1.symm, n2.symm, n3.symm]; done) | exact (((g.setCell (by dsimp only <;> omega) _).setCell (by dsimp only <;> omega) _).setCell (by dsimp only <;> omega) _).setCell (by dsimp only <;> omega) _ | (simp [go_sem, k00, k01, k10, k11, k20, k21, k30, k31, z0, z1, z2, z3, f20, f21, f30, f31]; done)
  case rest =>
  as_aux_lemma =>
  clear k00 k01 z0 k10 k11 z1 g k20 k21 z2 k30 k31 z3 f20 f21 f30 f31 l0 l1 l2 l3
  obtain ⟨rfl, k00, k01, z0, k10, k11, z1, g, k20, k21, z2, k30, k31, z3, f20, f21, f30, f31, l0, l1, l2, l3⟩ := hcut
  as_aux_lemma =>
  go_wp2_with fail
  go_region_held3 (fun wx => wx.cell? ⟨B0, 0, none⟩ = some (.float .f64 9218868437227405312) ∧ wx.cell? ⟨B0, 1, none⟩ = some (.float .f64 18442240474082181120) ∧ B0 < wx.heap.size ∧ wx.cell? ⟨B1, 0, none⟩ = some (.float .f64 18442240474082181120) ∧ wx.cell? ⟨B1, 1, none⟩ = some (.float .f64 9218868437227405312) ∧ B1 < wx.heap.size ∧ Below w.heap.size w wx ∧ wx.cell? ⟨B2, 0, none⟩ = some (.float .f64 0) ∧ wx.cell? ⟨B2, 1, none⟩ = some (.float .f64 0) ∧ B2 < wx.heap.size ∧ wx.cell? ⟨B3, 0, none⟩ = some (.float .f64 0) ∧ wx.cell? ⟨B3, 1, none⟩ = some (.float .f64 0) ∧ B3 < wx.heap.size ∧ wx.frozen? ⟨B2, 0, none⟩ = false ∧ wx.frozen? ⟨B2, 1, none⟩ = false ∧ wx.frozen? ⟨B3, 0, none⟩ = false ∧ wx.frozen? ⟨B3, 1, none⟩ = false ∧ B0 < B2 ∧ B1 < B2 ∧ B2 < B3 ∧ w.heap.size ≤ B2)
      (((try dsimp only); (repeat' apply And.intro) <;> first | assumption | (simp [*]; done) | exact Below.drew (by assumption) | exact keep_cell hb1 (by first | (dsimp only; omega) | (simp; omega)) (by simp [*]) | exact keep_free hb1 (by first | (dsimp only; omega) | (simp; omega)) (by simp [*]) | (have := hb1.size; omega) | (have := hb1.size; simp at this; omega) | exact bch (by simp [*]) hb1 | exact bch (Below.drew (by simp [*])) hb1))
      (first | (go_at_call 65; refine (kinf _).mono ?_; rintro e w' ⟨rfl, rfl⟩) | (go_at_call 66; refine (knan _).mono ?_; rintro e w' ⟨rfl, rfl⟩) | (go_at_call 62; refine (of_any _ _ _).mono ?_; rintro e w' ⟨rfl, hb1⟩) | (go_at_call 28; refine (awake_any _).mono ?_; rintro e w' ⟨rfl, hb1⟩))
  all_goals
    go_wp2_with fail
    go_ret
    exact ⟨rfl, by simp [*]⟩

end Go.Proofs.Ytljnadoodbninaa.relKnown
