/- The same bytes just for the same interval. The walk. -/
import Derived.Test.YtaecbapflpejmaaWPkForm
import Derived.Test.YtaecbapflpejmaaWPkAwake
import Derived.Test.YtaecbapflpejmaaWBd
namespace Go.Proofs.Ytaecbapflpejmaa.packApart
open Go.RowKit

theorem form_eq {p q r s : Int} (hp : Vg.Pl p) (hq : Vg.Pl q) (hr : Vg.Pl r) (hs : Vg.Pl s) : nby 8 (Vg.atn true p) ++ nby 8 (Vg.atn true q) = nby 8 (Vg.atn true r) ++ nby 8 (Vg.atn true s) ↔ p = r ∧ q = s := by
  have hb : ∀ {x : Int}, Vg.Pl x → Vg.atn true x < 256 ^ 8 := fun h => by have := Vg.atn_le h; rw [show (256 : Nat) ^ 8 = 18446744073709551616 from rfl]; omega
  constructor
  · intro h
    obtain ⟨h1, h2⟩ := List.append_inj h (by simp [nby_len])
    exact ⟨Vg.atn_inj hp hr (nby_inj (hb hp) (hb hr) h1), Vg.atn_inj hq hs (nby_inj (hb hq) (hb hs) h2)⟩
  · rintro ⟨rfl, rfl⟩; rfl
theorem eqU {a b c d : Nat} (n : Bool) (hn : n = true ↔ a = c ∧ b = d) (w : World) : (Op.equalIn 10000 24 (.agg #[.int .u64 a, .int .u64 b]) (.agg #[.int .u64 c, .int .u64 d])).run Try.prog w = .ok n w := by
  have u := Try.underlying22
  have ag := Try.isAgg22
  have z := Try.sizeOf22
  have hS : Try.prog.underlying 24 = some (.struct (Try.prog.fieldsOf 24)) := by kernel_rfl
  have hp : Try.prog.stoodInHeld 24 = false := by kernel_rfl
  have e : n = ((a : Int) == c && (b : Int) == d) := by
    rw [Bool.eq_iff_iff, hn, Bool.and_eq_true, beq_iff_eq, beq_iff_eq]
    omega
  rw [show (10000 : Nat) = 9999 + 1 from rfl, run_equalIn_agg w 9999 24 _ _ hS hp, e]
  simp only [Program.fieldsOf, Try.underlying24]
  cases h1 : ((a : Int) == c) <;> cases h2 : ((b : Int) == d)
  all_goals
    go_simp


set_option maxRecDepth 20000 in
set_option maxHeartbeats 8000000 in
theorem walk (a00 a01 a10 a11 : Int) (w00 : (Lit.int .u64 a00).wf = true) (w01 : (Lit.int .u64 a01).wf = true) (w10 : (Lit.int .u64 a10).wf = true) (w11 : (Lit.int .u64 a11).wf = true) (w : World) :
    Calls Try.prog 7 #[.agg #[.int .u64 a00, .int .u64 a01], .agg #[.int .u64 a10, .int .u64 a11]] w fun e w' => e = .returned (.bool true) ∧ Below w.heap.size w w' := by
  have b00 := u64_bd w00
  obtain ⟨X0, rfl⟩ := Int.eq_ofNat_of_zero_le b00.1
  have b01 := u64_bd w01
  obtain ⟨Y0, rfl⟩ := Int.eq_ofNat_of_zero_le b01.1
  have b10 := u64_bd w10
  obtain ⟨X1, rfl⟩ := Int.eq_ofNat_of_zero_le b10.1
  have b11 := u64_bd w11
  obtain ⟨Y1, rfl⟩ := Int.eq_ofNat_of_zero_le b11.1
  clear w00 w01 w10 w11
  obtain ⟨p, q, h0⟩ := Vg.Rd.ex X0 Y0 (by omega) (by omega)
  have H0 := hide h0
  obtain ⟨r, s, h1⟩ := Vg.Rd.ex X1 Y1 (by omega) (by omega)
  have H1 := hide h1
  have I := hide (show Vg.Iv p q ∧ Vg.Iv r s from ⟨h0.iv, h1.iv⟩)
  have N0 := fun w => in_any (X0 : Int) (Y0 : Int) w
  rw [Int.toNat_natCast, Int.toNat_natCast] at N0
  have N1 := fun w => in_any (X1 : Int) (Y1 : Int) w
  rw [Int.toNat_natCast, Int.toNat_natCast] at N1
  clear h0 h1 b00 b01 b10 b11
  have hst := sto
  have hm1 : Try.prog.eqGuardType Try.prog.depth 24 = false := by kernel_rfl
  have P := hide (show (Vg.Pl p ∧ Vg.Pl q) ∧ Vg.Pl r ∧ Vg.Pl s from ⟨⟨I.out.1.lo, I.out.1.hi⟩, I.out.2.lo, I.out.2.hi⟩)
  obtain ⟨n, hn⟩ : ∃ n : Bool, n = true ↔ p = r ∧ q = s := ⟨decide (p = r ∧ q = s), decide_eq_true_iff⟩
  have E1 := eqU (a := Vg.atn true p) (b := Vg.atn true q) (c := Vg.atn true r) (d := Vg.atn true s) n (by rw [hn]; exact ⟨fun h => by rw [h.1, h.2]; exact ⟨rfl, rfl⟩, fun h => ⟨Vg.atn_inj P.out.1.1 P.out.2.1 h.1, Vg.atn_inj P.out.1.2 P.out.2.2 h.2⟩⟩)
  have hF := hn.trans (form_eq P.out.1.1 P.out.1.2 P.out.2.1 P.out.2.2).symm
  have Q1 := fun w => rread_any X0 Y0 p q H0.out w
  have Q2 := fun w => rread_any X1 Y1 r s H1.out w
  have C1 := fun w => pput_any X0 Y0 p q H0.out w
  have C2 := fun w => pput_any X1 Y1 r s H1.out w
  obtain ⟨xs, hxs⟩ : ∃ xs, nby 8 (Vg.atn true p) ++ nby 8 (Vg.atn true q) = xs := ⟨_, rfl⟩
  obtain ⟨ys, hys⟩ : ∃ ys, nby 8 (Vg.atn true r) ++ nby 8 (Vg.atn true s) = ys := ⟨_, rfl⟩
  rw [hxs] at C1 hF
  rw [hys] at C2 hF
  have HL := hide (show xs.length ≤ 281474976710656 by rw [← hxs]; simp [nby_len])
  have CS : ∀ v1 v2 w, Rb w v1 xs → Rb w v2 ys → Calls Try.prog 8 #[v1, v2] w fun e w' => e = .returned (.bool n) ∧ Below w.heap.size w w' := fun v1 v2 w h1 h2 => (sames_any v1 v2 xs ys w h1 h2 HL.out).mono (fun _ _ h => by
    obtain ⟨b, k1, k2, k3⟩ := h
    have : b = n := by rw [Bool.eq_iff_iff, k2, hF]
    exact ⟨by rw [k1, this], k3⟩)
  obtain ⟨a1, ha1⟩ : ∃ a, Vg.atn true p = a := ⟨_, rfl⟩
  obtain ⟨a2, ha2⟩ : ∃ a, Vg.atn true q = a := ⟨_, rfl⟩
  obtain ⟨a3, ha3⟩ : ∃ a, Vg.atn true r = a := ⟨_, rfl⟩
  obtain ⟨a4, ha4⟩ : ∃ a, Vg.atn true s = a := ⟨_, rfl⟩
  rw [ha1, ha2, ha3, ha4] at E1
  rw [ha1, ha2] at Q1
  rw [ha3, ha4] at Q2
  clear hxs hys hn hF ha1 ha2 ha3 ha4
  go_enter Try.func7, Try.ntmps7
  go_wp2_with fail
  refine (awake_any _).mono ?_; rintro e w1 ⟨rfl, hb1⟩
  have m00 : w1.cell? ⟨w.heap.size, 0, none⟩ = some (.int .u64 (X0 : Int)) := keep_cell hb1 (by first | (simp; done) | (simp; omega)) (by simp [go_sem])
  have m01 : w1.cell? ⟨w.heap.size, 1, none⟩ = some (.int .u64 (Y0 : Int)) := keep_cell hb1 (by first | (simp; done) | (simp; omega)) (by simp [go_sem])
  have m10 : w1.cell? ⟨w.heap.size + 1, 0, none⟩ = some (.int .u64 (X1 : Int)) := keep_cell hb1 (by first | (simp; done) | (simp; omega)) (by simp [go_sem])
  have m11 : w1.cell? ⟨w.heap.size + 1, 1, none⟩ = some (.int .u64 (Y1 : Int)) := keep_cell hb1 (by first | (simp; done) | (simp; omega)) (by simp [go_sem])
  have z : w.heap.size + 1 < w1.heap.size := by have := hb1.size; simp at this; omega
  have g : Below w.heap.size w w1 := b_two.trans (hb1.mono (by simp <;> omega))
  clear hb1
  go_wp2_with fail
  go_region_held3 (fun wx => wx.cell? ⟨w.heap.size, 0, none⟩ = some (.int .u64 X0) ∧ wx.cell? ⟨w.heap.size, 1, none⟩ = some (.int .u64 Y0) ∧ wx.cell? ⟨w.heap.size + 1, 0, none⟩ = some (.int .u64 X1) ∧ wx.cell? ⟨w.heap.size + 1, 1, none⟩ = some (.int .u64 Y1) ∧ w.heap.size + 1 < wx.heap.size ∧ Below w.heap.size w wx)
      (((try dsimp only); (repeat' apply And.intro) <;> first | assumption | (simp [*]; done) | exact Below.drew (by assumption) | exact keep_cell hb1 (by first | (dsimp only; omega) | (simp; omega)) (by simp [*]) | (have := hb1.size; omega) | (have := hb1.size; simp at this; omega) | exact bch (by simp [*]) hb1 | exact bch (Below.drew (by simp [*])) hb1))
      (first | (go_at_call 10; first | ((with_reducible refine (N0 _).mono ?_); rintro e w' ⟨rfl, hb1⟩) | ((with_reducible refine (N1 _).mono ?_); rintro e w' ⟨rfl, hb1⟩; have R2 := hide (R1.out.keep hb1))) | (go_at_call 9; first | ((with_reducible refine (C1 _).mono ?_); rintro e w' ⟨v1, rfl, ho1, hb1⟩; have R1 := hide (Rb.own ho1); clear ho1) | ((with_reducible refine (C2 _).mono ?_); rintro e w' ⟨v2, rfl, ho2, hb1⟩; have R3 := hide (Rb.own ho2); have R4 := hide (R2.out.keep hb1); clear ho2)) | (go_at_call 8; refine (CS _ _ _ R4.out R3.out).mono ?_; rintro e w' ⟨rfl, hb1⟩) | (go_at_call 23; first | ((with_reducible refine (Q1 _).mono ?_); rintro e w' ⟨rfl, hb1⟩) | ((with_reducible refine (Q2 _).mono ?_); rintro e w' ⟨rfl, hb1⟩)))
  go_wp2
  go_ret
  exact ⟨rfl, by simp [*]⟩

end Go.Proofs.Ytaecbapflpejmaa.packApart
