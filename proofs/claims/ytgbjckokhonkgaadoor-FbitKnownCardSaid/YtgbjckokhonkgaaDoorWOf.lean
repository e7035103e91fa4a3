/- Contracts of Of: the program's. -/
import Derived.Test.YtgbjckokhonkgaaDoorWWhole
import Derived.Test.YtgbjckokhonkgaaDoorMOf
import Derived.Test.YtgbjckokhonkgaaDoorWAt
namespace Go.Proofs.YtgbjckokhonkgaaDoor
open Go.RowKit

set_option maxHeartbeats 2000000 in
theorem offl64 (n : Int) (h1 : -9223372036854775808 ≤ n) (h2 : n ≤ 9223372036854775807) (w : World) : Calls Tryd.prog 18 #[.int .i64 n] w (ToldF .f64 (Vg.IOf true n) w) := by
  obtain ⟨m, hm⟩ : ∃ m, floatOfInt .f64 n = m := ⟨_, rfl⟩
  have mb : m ≤ 18446744073709551615 := by
    have := (show Vg.IOf true n m _ from ⟨by rw [← hm]; rfl, rfl⟩).bd h1 h2
    simp only [Vg.S, if_true] at this
    omega
  have hk : ∀ d o, Vg.Wh true m d o → Vg.IOf true n m (o && decide (d = n)) := by
    intro d o h
    refine ⟨by rw [← hm]; rfl, Vg.of_whole h1 h2 ?_⟩
    rw [← hm] at h; exact h
  have c2 : ∀ w, (convert 2 22 (.int .i64 n)).run Tryd.prog w = .ok (.float .f64 m) w := fun w => by rw [← hm]; exact run_convert_int_float w _ _ .i64 .f64 n (by rw [Tryd.underlying2]; rfl) Tryd.underlying22
  have HK := hide hk
  clear hk hm
  go_enter Tryd.func18, Tryd.ntmps18
  go_wp2_with fail
  refine (whole64 m mb _).mono ?_; rintro e w1 ⟨d, o, rfl, hw, hb1⟩
  have hr := HK.out d o hw
  clear hw
  cases o
  · have HR := hide hr
    clear hr
    go_wp2
    go_ret2
    exact ⟨(m : Int), _, rfl, HR.out, hb1⟩
  · by_cases c : d = n
    · rw [decide_eq_true c] at hr
      have t : (d == n) = true := by rw [beq_iff_eq]; exact c
      have HR := hide hr
      clear hr c
      go_wp2
      go_ret2
      exact ⟨(m : Int), _, rfl, HR.out, hb1⟩
    · rw [decide_eq_false c] at hr
      have t : (d == n) = false := by rw [beq_eq_false_iff_ne]; exact c
      have HR := hide hr
      clear hr c
      go_wp2
      go_ret2
      exact ⟨(m : Int), _, rfl, HR.out, hb1⟩

set_option maxHeartbeats 2000000 in
theorem offl32 (n : Int) (h1 : -9223372036854775808 ≤ n) (h2 : n ≤ 9223372036854775807) (w : World) : Calls Tryd.prog 19 #[.int .i64 n] w (ToldF .f32 (Vg.IOf false n) w) := by
  obtain ⟨m, hm⟩ : ∃ m, floatOfInt .f32 n = m := ⟨_, rfl⟩
  have mb : m ≤ 4294967295 := by
    have := (show Vg.IOf false n m _ from ⟨by rw [← hm]; rfl, rfl⟩).bd h1 h2
    simp only [Vg.S, Bool.false_eq_true, if_false] at this
    omega
  have hk : ∀ d o, Vg.Wh false m d o → Vg.IOf false n m (o && decide (d = n)) := by
    intro d o h
    refine ⟨by rw [← hm]; rfl, Vg.of_whole h1 h2 ?_⟩
    rw [← hm] at h; exact h
  have c2 : ∀ w, (convert 2 27 (.int .i64 n)).run Tryd.prog w = .ok (.float .f32 m) w := fun w => by rw [← hm]; exact run_convert_int_float w _ _ .i64 .f32 n (by rw [Tryd.underlying2]; rfl) Tryd.underlying27
  have HK := hide hk
  clear hk hm
  go_enter Tryd.func19, Tryd.ntmps19
  go_wp2_with fail
  refine (whole32 m mb _).mono ?_; rintro e w1 ⟨d, o, rfl, hw, hb1⟩
  have hr := HK.out d o hw
  clear hw
  cases o
  · have HR := hide hr
    clear hr
    go_wp2
    go_ret2
    exact ⟨(m : Int), _, rfl, HR.out, hb1⟩
  · by_cases c : d = n
    · rw [decide_eq_true c] at hr
      have t : (d == n) = true := by rw [beq_iff_eq]; exact c
      have HR := hide hr
      clear hr c
      go_wp2
      go_ret2
      exact ⟨(m : Int), _, rfl, HR.out, hb1⟩
    · rw [decide_eq_false c] at hr
      have t : (d == n) = false := by rw [beq_eq_false_iff_ne]; exact c
      have HR := hide hr
      clear hr c
      go_wp2
      go_ret2
      exact ⟨(m : Int), _, rfl, HR.out, hb1⟩

end Go.Proofs.YtgbjckokhonkgaaDoor
