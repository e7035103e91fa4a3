/- Contracts of Of: the program's. -/
import Derived.Test.YtgehcnlfplcaaaaWWhole
import Derived.Test.YtgehcnlfplcaaaaMOf
import Derived.Test.YtgehcnlfplcaaaaWAt
namespace Go.Proofs.Ytgehcnlfplcaaaa
open Go.RowKit

set_option maxHeartbeats 2000000 in
theorem offl64 (n : Int) (h1 : -9223372036854775808 ≤ n) (h2 : n ≤ 9223372036854775807) (w : World) : Calls Try.prog 33 #[.int .i64 n] w (ToldF .f64 (Vg.IOf true n) w) := by
  obtain ⟨m, hm⟩ : ∃ m, floatOfInt .f64 n = m := ⟨_, rfl⟩
  have mb : m ≤ 18446744073709551615 := by
    have := (show Vg.IOf true n m _ from ⟨by rw [← hm]; rfl, rfl⟩).bd h1 h2
    simp only [Vg.S, if_true] at this
    omega
  have hk : ∀ d o, Vg.Wh true m d o → Vg.IOf true n m (o && decide (d = n)) := by
    intro d o h
    refine ⟨by rw [← hm]; rfl, Vg.of_whole h1 h2 ?_⟩
    rw [← hm] at h; exact h
  have c2 : ∀ w, (convert 2 26 (.int .i64 n)).run Try.prog w = .ok (.float .f64 m) w := fun w => by rw [← hm]; exact run_convert_int_float w _ _ .i64 .f64 n (by rw [Try.underlying2]; rfl) Try.underlying26
  have HK := hide hk
  clear hk hm
  go_enter Try.func33, Try.ntmps33
  go_wp2_with fail
  refine (whole64 m mb _).mono ?_; rintro e w1 ⟨d, o, rfl, hw, hb1⟩
  have hr := HK.out d o hw
  clear hw
  cases o
  · have HR := hide hr
    clear hr
    go_wp2
    go_ret2
    exact ⟨(m : Int), _, rfl, HR.out, hb1⟩
  · by_cases c : d = n
    · rw [decide_eq_true c] at hr
      have t : (d == n) = true := by rw [beq_iff_eq]; exact c
      have HR := hide hr
      clear hr c
      go_wp2
      go_ret2
      exact ⟨(m : Int), _, rfl, HR.out, hb1⟩
    · rw [decide_eq_false c] at hr
      have t : (d == n) = false := by rw [beq_eq_false_iff_ne]; exact c
      have HR := hide hr
      clear hr c
      go_wp2
      go_ret2
      exact ⟨(m : Int), _, rfl, HR.out, hb1⟩

set_option maxHeartbeats 2000000 in
theorem offlFar (n : Int) (h1 : -9223372036854775808 ≤ n) (h2 : n ≤ 9223372036854775807) (w : World) : Calls Try.prog 34 #[.int .i64 n] w (ToldF .f64 (Vg.IOf true n) w) := by
  obtain ⟨m, hm⟩ : ∃ m, floatOfInt .f64 n = m := ⟨_, rfl⟩
  have mb : m ≤ 18446744073709551615 := by
    have := (show Vg.IOf true n m _ from ⟨by rw [← hm]; rfl, rfl⟩).bd h1 h2
    simp only [Vg.S, if_true] at this
    omega
  have hk : ∀ d o, Vg.Wh true m d o → Vg.IOf true n m (o && decide (d = n)) := by
    intro d o h
    refine ⟨by rw [← hm]; rfl, Vg.of_whole h1 h2 ?_⟩
    rw [← hm] at h; exact h
  have c2 : ∀ w, (convert 2 29 (.int .i64 n)).run Try.prog w = .ok (.float .f64 m) w := fun w => by rw [← hm]; exact run_convert_int_float w _ _ .i64 .f64 n (by rw [Try.underlying2]; rfl) Try.underlying29
  have HK := hide hk
  clear hk hm
  go_enter Try.func34, Try.ntmps34
  go_wp2_with fail
  refine (wholeFar m mb _).mono ?_; rintro e w1 ⟨d, o, rfl, hw, hb1⟩
  have hr := HK.out d o hw
  clear hw
  cases o
  · have HR := hide hr
    clear hr
    go_wp2
    go_ret2
    exact ⟨(m : Int), _, rfl, HR.out, hb1⟩
  · by_cases c : d = n
    · rw [decide_eq_true c] at hr
      have t : (d == n) = true := by rw [beq_iff_eq]; exact c
      have HR := hide hr
      clear hr c
      go_wp2
      go_ret2
      exact ⟨(m : Int), _, rfl, HR.out, hb1⟩
    · rw [decide_eq_false c] at hr
      have t : (d == n) = false := by rw [beq_eq_false_iff_ne]; exact c
      have HR := hide hr
      clear hr c
      go_wp2
      go_ret2
      exact ⟨(m : Int), _, rfl, HR.out, hb1⟩

set_option maxHeartbeats 2000000 in
theorem offl32 (n : Int) (h1 : -9223372036854775808 ≤ n) (h2 : n ≤ 9223372036854775807) (w : World) : Calls Try.prog 36 #[.int .i64 n] w (ToldF .f32 (Vg.IOf false n) w) := by
  obtain ⟨m, hm⟩ : ∃ m, floatOfInt .f32 n = m := ⟨_, rfl⟩
  have mb : m ≤ 4294967295 := by
    have := (show Vg.IOf false n m _ from ⟨by rw [← hm]; rfl, rfl⟩).bd h1 h2
    simp only [Vg.S, Bool.false_eq_true, if_false] at this
    omega
  have hk : ∀ d o, Vg.Wh false m d o → Vg.IOf false n m (o && decide (d = n)) := by
    intro d o h
    refine ⟨by rw [← hm]; rfl, Vg.of_whole h1 h2 ?_⟩
    rw [← hm] at h; exact h
  have c2 : ∀ w, (convert 2 32 (.int .i64 n)).run Try.prog w = .ok (.float .f32 m) w := fun w => by rw [← hm]; exact run_convert_int_float w _ _ .i64 .f32 n (by rw [Try.underlying2]; rfl) Try.underlying32
  have HK := hide hk
  clear hk hm
  go_enter Try.func36, Try.ntmps36
  go_wp2_with fail
  refine (whole32 m mb _).mono ?_; rintro e w1 ⟨d, o, rfl, hw, hb1⟩
  have hr := HK.out d o hw
  clear hw
  cases o
  · have HR := hide hr
    clear hr
    go_wp2
    go_ret2
    exact ⟨(m : Int), _, rfl, HR.out, hb1⟩
  · by_cases c : d = n
    · rw [decide_eq_true c] at hr
      have t : (d == n) = true := by rw [beq_iff_eq]; exact c
      have HR := hide hr
      clear hr c
      go_wp2
      go_ret2
      exact ⟨(m : Int), _, rfl, HR.out, hb1⟩
    · rw [decide_eq_false c] at hr
      have t : (d == n) = false := by rw [beq_eq_false_iff_ne]; exact c
      have HR := hide hr
      clear hr c
      go_wp2
      go_ret2
      exact ⟨(m : Int), _, rfl, HR.out, hb1⟩

set_option maxHeartbeats 2000000 in
theorem offlNear (n : Int) (h1 : -9223372036854775808 ≤ n) (h2 : n ≤ 9223372036854775807) (w : World) : Calls Try.prog 37 #[.int .i64 n] w (ToldF .f32 (Vg.IOf false n) w) := by
  obtain ⟨m, hm⟩ : ∃ m, floatOfInt .f32 n = m := ⟨_, rfl⟩
  have mb : m ≤ 4294967295 := by
    have := (show Vg.IOf false n m _ from ⟨by rw [← hm]; rfl, rfl⟩).bd h1 h2
    simp only [Vg.S, Bool.false_eq_true, if_false] at this
    omega
  have hk : ∀ d o, Vg.Wh false m d o → Vg.IOf false n m (o && decide (d = n)) := by
    intro d o h
    refine ⟨by rw [← hm]; rfl, Vg.of_whole h1 h2 ?_⟩
    rw [← hm] at h; exact h
  have c2 : ∀ w, (convert 2 35 (.int .i64 n)).run Try.prog w = .ok (.float .f32 m) w := fun w => by rw [← hm]; exact run_convert_int_float w _ _ .i64 .f32 n (by rw [Try.underlying2]; rfl) Try.underlying35
  have HK := hide hk
  clear hk hm
  go_enter Try.func37, Try.ntmps37
  go_wp2_with fail
  refine (wholeNear m mb _).mono ?_; rintro e w1 ⟨d, o, rfl, hw, hb1⟩
  have hr := HK.out d o hw
  clear hw
  cases o
  · have HR := hide hr
    clear hr
    go_wp2
    go_ret2
    exact ⟨(m : Int), _, rfl, HR.out, hb1⟩
  · by_cases c : d = n
    · rw [decide_eq_true c] at hr
      have t : (d == n) = true := by rw [beq_iff_eq]; exact c
      have HR := hide hr
      clear hr c
      go_wp2
      go_ret2
      exact ⟨(m : Int), _, rfl, HR.out, hb1⟩
    · rw [decide_eq_false c] at hr
      have t : (d == n) = false := by rw [beq_eq_false_iff_ne]; exact c
      have HR := hide hr
      clear hr c
      go_wp2
      go_ret2
      exact ⟨(m : Int), _, rfl, HR.out, hb1⟩

end Go.Proofs.Ytgehcnlfplcaaaa
