/- Contracts of the reference's EachSome and EachEach. -/
import Derived.Test.YtljnadoodbninaaWRefAsk
import Derived.Test.YtljnadoodbninaaWTold
namespace Go.Proofs.Ytljnadoodbninaa
open Go.RowKit

/-- Is there a point of the second row, below a bound, of which the question is true? -/
def Som (q : Int) (M : Bool) (R S i u : Int) : Prop := ∃ t, 1 ≤ t ∧ t < u ∧ hasb M R S t = true ∧ askb q i t = true
/-- For each point of the first row below a bound there is one of the second. -/
def ES (q : Int) (N : Bool) (P Q : Int) (M : Bool) (R S n u : Int) : Prop := ∀ i, 1 ≤ i → i < u → i.tmod 2 ≠ 1 → hasb N P Q i = true → Som q M R S i n
theorem Som.next {q R S i u : Int} {M h a b : Bool} (hu : 1 ≤ u) (hh : hasb M R S u = h) (ha : askb q i u = a) (hb : b = true ↔ Som q M R S i u) : (b || (h && a)) = true ↔ Som q M R S i (u + 1) := by
  rw [Bool.or_eq_true, Bool.and_eq_true, hb]
  constructor
  · rintro (⟨t, h1, h2, h3⟩ | ⟨rfl, rfl⟩)
    · exact ⟨t, h1, by omega, h3⟩
    · exact ⟨u, hu, by omega, hh, ha⟩
  · rintro ⟨t, h1, h2, h3, h4⟩
    by_cases c : t = u
    · subst c; right; rw [← hh, ← ha]; exact ⟨h3, h4⟩
    · left; exact ⟨t, h1, by omega, h3, h4⟩
theorem ES.skip {q P Q R S n i : Int} {N M : Bool} (h : ES q N P Q M R S n i) (k : i.tmod 2 = 1 ∨ hasb N P Q i = false ∨ Som q M R S i n) : ES q N P Q M R S n (i + 1) := by
  intro j h1 h2 h3 h4
  by_cases c : j = i
  · subst c
    rcases k with k | k | k
    · exact absurd k h3
    · rw [k] at h4; cases h4
    · exact k
  · exact h j h1 (by omega) h3 h4

set_option maxRecDepth 20000 in
set_option maxHeartbeats 4000000 in
theorem eachSome_any (q : Int) (N : Bool) (P Q : Int) (M : Bool) (R S n : Int) (hq : 0 ≤ q ∧ q ≤ 5) (hn : 1 ≤ n ∧ n ≤ 20) (w : World) :
    Calls Try.prog 81 #[.int .i64 q, .agg #[.bool N, .int .i64 P, .int .i64 Q], .agg #[.bool M, .int .i64 R, .int .i64 S], .int .i64 n] w (TB (ES q N P Q M R S n n) w) := by
  have HQ := hide hq
  have HN := hide hn
  clear hq hn
  go_enter Try.func81, Try.ntmps81
  go_wp2_with fail
  go_loopg [9] (n - 1).toNat (fun k p wr => ∃ i : Int, p = .int .i64 i ∧ Hid (1 ≤ i ∧ i ≤ n ∧ (k : Int) = n - i ∧ ES q N P Q M R S n i) ∧
    wr.cell? ⟨w.heap.size, 0, none⟩ = some (.bool N) ∧ wr.cell? ⟨w.heap.size, 1, none⟩ = some (.int .i64 P) ∧ wr.cell? ⟨w.heap.size, 2, none⟩ = some (.int .i64 Q) ∧
    wr.cell? ⟨w.heap.size + 1, 0, none⟩ = some (.bool M) ∧ wr.cell? ⟨w.heap.size + 1, 1, none⟩ = some (.int .i64 R) ∧ wr.cell? ⟨w.heap.size + 1, 2, none⟩ = some (.int .i64 S) ∧
    w.heap.size + 1 < wr.heap.size ∧ Below w.heap.size w wr)
  case atStart =>
    exact ⟨1, rfl, hide ⟨Int.le_refl _, HN.out.1, by have := HN.out; omega, fun j h1 h2 => absurd h1 (by omega)⟩, by simp [go_sem], by simp [go_sem], by simp [go_sem], by simp [go_sem], by simp [go_sem], by simp [go_sem], by simp, b_two⟩
  case round =>
    obtain ⟨i, rfl, HI, k0, k1, k2, k3, k4, k5, z, g⟩ := hrel
    by_cases c : i < n
    · obtain ⟨o, ho⟩ : ∃ o : Bool, (i.tmod 2 == 1) = o := ⟨_, rfl⟩
      obtain ⟨h, hh⟩ : ∃ h : Bool, hasb N P Q i = h := ⟨_, rfl⟩
      have HH := hide hh
      have HO := hide ho
      have ov : IntKind.i64.wrap (i + 1) = i + 1 := by have := HN.out; have := HI.out; exact IntWalk.i64_in _ (by omega)
      clear hh
      cases o
      · cases h
        · go_wp2_with (go_at_call 107; refine (has_any N P Q i false HH.out _).mono ?_; rintro e w' ⟨rfl, hb⟩; have k0 := keep_cell hb (by dsimp only <;> omega) k0; have k1 := keep_cell hb (by dsimp only <;> omega) k1; have k2 := keep_cell hb (by dsimp only <;> omega) k2; have k3 := keep_cell hb (by dsimp only <;> omega) k3; have k4 := keep_cell hb (by dsimp only <;> omega) k4; have k5 := keep_cell hb (by dsimp only <;> omega) k5; have z := Nat.lt_of_lt_of_le z hb.size; have g := bch g hb; clear hb)
          go_roundg (n - (i + 1)).toNat
          case measure => have := HI.out; omega
          case rel => exact ⟨i + 1, rfl, hide (by have h := HI.out; exact ⟨by omega, by omega, by omega, h.2.2.2.skip (.inr (.inl HH.out))⟩), k0, k1, k2, k3, k4, k5, z, g⟩
        · go_wp2_with (go_at_call 107; refine (has_any N P Q i true HH.out _).mono ?_; rintro e w' ⟨rfl, hb⟩; have k0 := keep_cell hb (by dsimp only <;> omega) k0; have k1 := keep_cell hb (by dsimp only <;> omega) k1; have k2 := keep_cell hb (by dsimp only <;> omega) k2; have k3 := keep_cell hb (by dsimp only <;> omega) k3; have k4 := keep_cell hb (by dsimp only <;> omega) k4; have k5 := keep_cell hb (by dsimp only <;> omega) k5; have z := Nat.lt_of_lt_of_le z hb.size; have g := bch g hb; clear hb)
          go_loopg [10, 11] (n - 1).toNat (fun k b p wr => ∃ (j : Int) (b' : Bool), b = .bool b' ∧ p = .int .i64 j ∧ Hid (1 ≤ j ∧ j ≤ n ∧ (k : Int) = n - j ∧ (b' = true ↔ Som q M R S i j)) ∧
            wr.cell? ⟨w.heap.size, 0, none⟩ = some (.bool N) ∧ wr.cell? ⟨w.heap.size, 1, none⟩ = some (.int .i64 P) ∧ wr.cell? ⟨w.heap.size, 2, none⟩ = some (.int .i64 Q) ∧
            wr.cell? ⟨w.heap.size + 1, 0, none⟩ = some (.bool M) ∧ wr.cell? ⟨w.heap.size + 1, 1, none⟩ = some (.int .i64 R) ∧ wr.cell? ⟨w.heap.size + 1, 2, none⟩ = some (.int .i64 S) ∧
            w.heap.size + 1 < wr.heap.size ∧ Below w.heap.size w wr)
          case atStart => exact ⟨1, false, rfl, rfl, hide ⟨Int.le_refl _, HN.out.1, by have := HN.out; omega, no fun ⟨t, h1, h2, _⟩ => by omega⟩, k0, k1, k2, k3, k4, k5, z, g⟩
          case round =>
            clear k0 k1 k2 k3 k4 k5 z g
            obtain ⟨j, b, rfl, rfl, HJ, k0, k1, k2, k3, k4, k5, z, g⟩ := hrel
            by_cases cj : j < n
            · obtain ⟨h2, e2⟩ : ∃ h : Bool, hasb M R S j = h := ⟨_, rfl⟩
              obtain ⟨a2, e3⟩ : ∃ h : Bool, askb q i j = h := ⟨_, rfl⟩
              have E2 := hide e2
              have E3 := hide e3
              have ow : IntKind.i64.wrap (j + 1) = j + 1 := by have := HN.out; have := HJ.out; exact IntWalk.i64_in _ (by omega)
              clear e2 e3
              cases h2 <;> cases a2
              all_goals
                go_wp2_with (first | (go_at_call 107; refine (has_any M R S j _ E2.out _).mono ?_; rintro e w' ⟨rfl, hb⟩; have k0 := keep_cell hb (by dsimp only <;> omega) k0; have k1 := keep_cell hb (by dsimp only <;> omega) k1; have k2 := keep_cell hb (by dsimp only <;> omega) k2; have k3 := keep_cell hb (by dsimp only <;> omega) k3; have k4 := keep_cell hb (by dsimp only <;> omega) k4; have k5 := keep_cell hb (by dsimp only <;> omega) k5; have z := Nat.lt_of_lt_of_le z hb.size; have g := bch g hb; clear hb) | (go_at_call 108; refine (asked_any q i j HQ.out _ E3.out _).mono ?_; rintro e w' ⟨rfl, rfl⟩))
                go_roundg (n - (j + 1)).toNat
                case measure => have := HJ.out; omega
                case rel => exact ⟨j + 1, _, rfl, rfl, hide (by have h := HJ.out; exact ⟨by omega, by omega, by omega, by simpa using Som.next h.1 E2.out E3.out h.2.2.2⟩), k0, k1, k2, k3, k4, k5, z, g⟩
            · have hj : j = n := by have := HJ.out; omega
              subst hj
              cases b
              · go_wp2
                go_ret
                exact ⟨_, rfl, no (fun h => by have h1 := HI.out; have h2 := HJ.out; have := h2.2.2.2.2 (h i h1.1 c (by have := HO.out; simpa using this) HH.out); cases this), g⟩
              · have F := hide (HJ.out.2.2.2.1 rfl)
                clear HJ
                go_wp2
                go_roundg (j - (i + 1)).toNat
                case measure => have := HI.out; omega
                case rel => exact ⟨i + 1, rfl, hide (by have h := HI.out; exact ⟨by omega, by omega, by omega, h.2.2.2.skip (.inr (.inr F.out))⟩), k0, k1, k2, k3, k4, k5, z, g⟩
      · go_wp2
        go_roundg (n - (i + 1)).toNat
        case measure => have := HI.out; omega
        case rel => exact ⟨i + 1, rfl, hide (by have h := HI.out; exact ⟨by omega, by omega, by omega, h.2.2.2.skip (.inl (by have := HO.out; simpa using this))⟩), k0, k1, k2, k3, k4, k5, z, g⟩
    · have hi : i = n := by have := HI.out; omega
      subst hi
      go_wp2
      go_ret
      exact ⟨_, rfl, yes HI.out.2.2.2, g⟩

/-- Of one point of the first row and each of the second below a bound. -/
def EI (q : Int) (N : Bool) (P Q : Int) (M : Bool) (R S i u : Int) : Prop := ∀ t, 1 ≤ t → t < u → i.tmod 2 = 0 → hasb N P Q i = true → hasb M R S t = true → askb q i t = true
/-- Of each point of the first row below a bound and each of the second. -/
def EE (q : Int) (N : Bool) (P Q : Int) (M : Bool) (R S n u : Int) : Prop := ∀ i, 1 ≤ i → i < u → EI q N P Q M R S i n
theorem EI.step {q P Q R S i u : Int} {N M o h h2 a : Bool} (k : EI q N P Q M R S i u) (ho : (i.tmod 2 == 0) = o) (hh : hasb N P Q i = h) (h2h : hasb M R S u = h2) (ha : askb q i u = a) (c : (o && h && h2 && !a) = false) : EI q N P Q M R S i (u + 1) := by
  intro t h1 h3 h4 h5 h6
  by_cases d : t = u
  · subst d
    rw [← ho, ← hh, ← h2h, ← ha, h4, h5, h6] at c
    simpa using c
  · exact k t h1 (by omega) h4 h5 h6
theorem EE.step {q P Q R S n i : Int} {N M : Bool} (h : EE q N P Q M R S n i) (k : EI q N P Q M R S i n) : EE q N P Q M R S n (i + 1) := by
  intro j h1 h2
  by_cases c : j = i
  · subst c; exact k
  · exact h j h1 (by omega)

set_option maxRecDepth 20000 in
set_option maxHeartbeats 8000000 in
theorem eachEach_any (q : Int) (N : Bool) (P Q : Int) (M : Bool) (R S n : Int) (hq : 0 ≤ q ∧ q ≤ 5) (hn : 1 ≤ n ∧ n ≤ 20) (w : World) :
    Calls Try.prog 83 #[.int .i64 q, .agg #[.bool N, .int .i64 P, .int .i64 Q], .agg #[.bool M, .int .i64 R, .int .i64 S], .int .i64 n] w (TB (EE q N P Q M R S n n) w) := by
  have HQ := hide hq
  have HN := hide hn
  clear hq hn
  go_enter Try.func83, Try.ntmps83
  go_wp2_with fail
  go_loopg [9] (n - 1).toNat (fun k p wr => ∃ i : Int, p = .int .i64 i ∧ Hid (1 ≤ i ∧ i ≤ n ∧ (k : Int) = n - i ∧ EE q N P Q M R S n i) ∧
    wr.cell? ⟨w.heap.size, 0, none⟩ = some (.bool N) ∧ wr.cell? ⟨w.heap.size, 1, none⟩ = some (.int .i64 P) ∧ wr.cell? ⟨w.heap.size, 2, none⟩ = some (.int .i64 Q) ∧
    wr.cell? ⟨w.heap.size + 1, 0, none⟩ = some (.bool M) ∧ wr.cell? ⟨w.heap.size + 1, 1, none⟩ = some (.int .i64 R) ∧ wr.cell? ⟨w.heap.size + 1, 2, none⟩ = some (.int .i64 S) ∧
    w.heap.size + 1 < wr.heap.size ∧ Below w.heap.size w wr)
  case atStart =>
    exact ⟨1, rfl, hide ⟨Int.le_refl _, HN.out.1, by have := HN.out; omega, fun j h1 h2 => absurd h1 (by omega)⟩, by simp [go_sem], by simp [go_sem], by simp [go_sem], by simp [go_sem], by simp [go_sem], by simp [go_sem], by simp, b_two⟩
  case round =>
    obtain ⟨i, rfl, HI, k0, k1, k2, k3, k4, k5, z, g⟩ := hrel
    by_cases c : i < n
    · obtain ⟨o, ho⟩ : ∃ o : Bool, (i.tmod 2 == 0) = o := ⟨_, rfl⟩
      obtain ⟨h, hh⟩ : ∃ h : Bool, hasb N P Q i = h := ⟨_, rfl⟩
      have HH := hide hh
      have HO := hide ho
      have ov : IntKind.i64.wrap (i + 1) = i + 1 := by have := HN.out; have := HI.out; exact IntWalk.i64_in _ (by omega)
      clear hh
      go_wp2_with fail
      go_loopg [10] (n - 1).toNat (fun k p wr => ∃ j : Int, p = .int .i64 j ∧ Hid (1 ≤ j ∧ j ≤ n ∧ (k : Int) = n - j ∧ EI q N P Q M R S i j) ∧
        wr.cell? ⟨w.heap.size, 0, none⟩ = some (.bool N) ∧ wr.cell? ⟨w.heap.size, 1, none⟩ = some (.int .i64 P) ∧ wr.cell? ⟨w.heap.size, 2, none⟩ = some (.int .i64 Q) ∧
    wr.cell? ⟨w.heap.size + 1, 0, none⟩ = some (.bool M) ∧ wr.cell? ⟨w.heap.size + 1, 1, none⟩ = some (.int .i64 R) ∧ wr.cell? ⟨w.heap.size + 1, 2, none⟩ = some (.int .i64 S) ∧
    w.heap.size + 1 < wr.heap.size ∧ Below w.heap.size w wr)
      case atStart => exact ⟨1, rfl, hide ⟨Int.le_refl _, HN.out.1, by have := HN.out; omega, fun t h1 h2 => by omega⟩, k0, k1, k2, k3, k4, k5, z, g⟩
      case round =>
        clear k0 k1 k2 k3 k4 k5 z g
        obtain ⟨j, rfl, HJ, k0, k1, k2, k3, k4, k5, z, g⟩ := hrel
        by_cases cj : j < n
        · obtain ⟨h2, e2⟩ : ∃ h : Bool, hasb M R S j = h := ⟨_, rfl⟩
          obtain ⟨a2, e3⟩ : ∃ h : Bool, askb q i j = h := ⟨_, rfl⟩
          have E2 := hide e2
          have E3 := hide e3
          have ow : IntKind.i64.wrap (j + 1) = j + 1 := by have := HN.out; have := HJ.out; exact IntWalk.i64_in _ (by omega)
          clear e2 e3
          have Z : Hid ((o && h && h2 && !a2) = false → EI q N P Q M R S i (j + 1)) := hide fun hc => EI.step HJ.out.2.2.2 HO.out HH.out E2.out E3.out hc
          have Y : Hid ((o && h && h2 && !a2) = true → ¬ EE q N P Q M R S n n) := hide fun hc he => by
            have h1 := HO.out
            have h3 := HH.out
            have h4 := E2.out
            have h5 := E3.out
            have h6 := HI.out
            have h7 := HJ.out
            simp only [Bool.and_eq_true, Bool.not_eq_true'] at hc
            obtain ⟨⟨⟨rfl, rfl⟩, rfl⟩, rfl⟩ := hc
            have := he i h6.1 c j h7.1 cj (by simpa using h1) h3 h4
            rw [h5] at this
            cases this
          cases o <;> cases h <;> cases h2 <;> cases a2
          all_goals
            go_wp2_with (first | (go_at_call 107; first | (with_reducible refine (has_any M R S j _ E2.out _).mono ?_; rintro e w' ⟨rfl, hb⟩; have k0 := keep_cell hb (by dsimp only <;> omega) k0; have k1 := keep_cell hb (by dsimp only <;> omega) k1; have k2 := keep_cell hb (by dsimp only <;> omega) k2; have k3 := keep_cell hb (by dsimp only <;> omega) k3; have k4 := keep_cell hb (by dsimp only <;> omega) k4; have k5 := keep_cell hb (by dsimp only <;> omega) k5; have z := Nat.lt_of_lt_of_le z hb.size; have g := bch g hb; clear hb) | (with_reducible refine (has_any N P Q i _ HH.out _).mono ?_; rintro e w' ⟨rfl, hb⟩; have k0 := keep_cell hb (by dsimp only <;> omega) k0; have k1 := keep_cell hb (by dsimp only <;> omega) k1; have k2 := keep_cell hb (by dsimp only <;> omega) k2; have k3 := keep_cell hb (by dsimp only <;> omega) k3; have k4 := keep_cell hb (by dsimp only <;> omega) k4; have k5 := keep_cell hb (by dsimp only <;> omega) k5; have z := Nat.lt_of_lt_of_le z hb.size; have g := bch g hb; clear hb)) | (go_at_call 108; refine (asked_any q i j HQ.out _ E3.out _).mono ?_; rintro e w' ⟨rfl, rfl⟩))
            first
              | (go_roundg (n - (j + 1)).toNat
                 case measure => have := HJ.out; omega
                 case rel => exact ⟨j + 1, rfl, hide (by have h := HJ.out; exact ⟨by omega, by omega, by omega, Z.out rfl⟩), k0, k1, k2, k3, k4, k5, z, g⟩)
              | (go_ret
                 exact ⟨_, rfl, no (Y.out rfl), g⟩)
        · have hj : j = n := by have := HJ.out; omega
          subst hj
          go_wp2
          go_roundg (j - (i + 1)).toNat
          case measure => have := HI.out; omega
          case rel => exact ⟨i + 1, rfl, hide (by have h := HI.out; exact ⟨by omega, by omega, by omega, h.2.2.2.step HJ.out.2.2.2⟩), k0, k1, k2, k3, k4, k5, z, g⟩
    · have hi : i = n := by have := HI.out; omega
      subst hi
      go_wp2
      go_ret
      exact ⟨_, rfl, yes HI.out.2.2.2, g⟩
end Go.Proofs.Ytljnadoodbninaa
