/- Contract of the reference's Hull of two sets. -/
import Derived.Test.YtljnadoodbninaaWOf6
import Derived.Test.YtljnadoodbninaaWLess
namespace Go.Proofs.Ytljnadoodbninaa
open Go.RowKit
/-- A set of reals by the places of its ends. -/
def St (w : World) (v : Value) (p q : Int) : Prop :=
  ∃ n i s A An1 Ac1 A2 An2 Ac2 j t B Bn1 Bc1 B2 Bn2 Bc2, v = .agg #[.bool n, .int .i64 i, .bool s, .slice A An1 Ac1, .slice A2 An2 Ac2, .int .i64 j, .bool t, .slice B Bn1 Bc1, .slice B2 Bn2 Bc2] ∧
    (q < p ∧ n = true ∨ p ≤ q ∧ n = false ∧ En w (.agg #[.int .i64 i, .bool s, .slice A An1 Ac1, .slice A2 An2 Ac2]) (Vg.ei p) (Vg.eZ p) Vg.LP 64 ∧ En w (.agg #[.int .i64 j, .bool t, .slice B Bn1 Bc1, .slice B2 Bn2 Bc2]) (Vg.ei q) (Vg.eZ q) Vg.LP 64)
def TSt (p q : Int) (w : World) (e : Ending) (w' : World) : Prop := ∃ v, e = .returned v ∧ St w' v p q ∧ Below w.heap.size w w'
theorem TOf.st {p q : Int} {w w' : World} {e : Ending} (h : TOf p q w e w') : TSt p q w e w' := by
  obtain ⟨n, i, s, A1, n1, c1, A2, n2, c2, j, t, A3, n3, c3, A4, n4, c4, h1, h2, h3⟩ := h
  exact ⟨_, h1, ⟨n, i, s, A1, n1, c1, A2, n2, c2, j, t, A3, n3, c3, A4, n4, c4, rfl, h2⟩, h3⟩
theorem St.keep {w w' : World} {v : Value} {p q : Int} (h : St w v p q) (hb : Below w.heap.size w w') : St w' v p q := by
  obtain ⟨n, i, s, A1, n1, c1, A2, n2, c2, j, t, A3, n3, c3, A4, n4, c4, h1, h2⟩ := h
  exact ⟨n, i, s, A1, n1, c1, A2, n2, c2, j, t, A3, n3, c3, A4, n4, c4, h1, h2.imp id (fun ⟨a, b, c, d⟩ => ⟨a, b, c.keep hb, d.keep hb⟩)⟩
theorem St.cells {w : World} {v : Value} {p q : Int} (h : St w v p q) {b n : Nat} (hn : Nw w b n) (vs : List Value) (hl : vs.length ≤ n) : St (w.setCells b 0 vs) v p q := by
  obtain ⟨n, i, s, A1, n1, c1, A2, n2, c2, j, t, A3, n3, c3, A4, n4, c4, h1, h2⟩ := h
  exact ⟨n, i, s, A1, n1, c1, A2, n2, c2, j, t, A3, n3, c3, A4, n4, c4, h1, h2.imp id (fun ⟨a, b, c, d⟩ => ⟨a, b, c.cells hn vs hl, d.cells hn vs hl⟩)⟩

set_option maxRecDepth 20000 in
set_option maxHeartbeats 8000000 in
theorem hull6_any (a b : Value) (p q r u : Int) (hI : Vg.Iv p q) (hJ : Vg.Iv r u) (w : World) (ha : St w a p q) (hb : St w b r u) : Calls Try.prog 70 #[a, b] w (TSt (min p r) (max q u) w) := by
  have HA := hide ha
  have HB := hide hb
  have hl := hI.lo
  have hr := hI.hi
  have hl' := hJ.lo
  have hr' := hJ.hi
  obtain ⟨n, i, s, A1, An1, Ac1, A2, An2, Ac2, j, t, B1, Bn1, Bc1, B2, Bn2, Bc2, rfl, ha⟩ := ha
  obtain ⟨n', i', s', C1, Cn1, Cc1, C2, Cn2, Cc2, j', t', D1, Dn1, Dc1, D2, Dn2, Dc2, rfl, hb⟩ := hb
  have NB : Hid (Bx (((w.alloc (.cells #[.bool n, .int .i64 i, .bool s, .slice A1 An1 Ac1, .slice A2 An2 Ac2, .int .i64 j, .bool t, .slice B1 Bn1 Bc1, .slice B2 Bn2 Bc2] 71)).alloc (.cells #[.bool n', .int .i64 i', .bool s', .slice C1 Cn1 Cc1, .slice C2 Cn2 Cc2, .int .i64 j', .bool t', .slice D1 Dn1 Dc1, .slice D2 Dn2 Dc2] 71)).alloc (.cells #[.bool false, .int .i64 0, .bool false, .slice none 0 0, .slice none 0 0, .int .i64 0, .bool false, .slice none 0 0, .slice none 0 0] 71)) (w.heap.size + 1 + 1) 9) := hide (Bx.new ((w.alloc (.cells #[.bool n, .int .i64 i, .bool s, .slice A1 An1 Ac1, .slice A2 An2 Ac2, .int .i64 j, .bool t, .slice B1 Bn1 Bc1, .slice B2 Bn2 Bc2] 71)).alloc (.cells #[.bool n', .int .i64 i', .bool s', .slice C1 Cn1 Cc1, .slice C2 Cn2 Cc2, .int .i64 j', .bool t', .slice D1 Dn1 Dc1, .slice D2 Dn2 Dc2] 71)) #[.bool false, .int .i64 0, .bool false, .slice none 0 0, .slice none 0 0, .int .i64 0, .bool false, .slice none 0 0, .slice none 0 0] 71 (by simp) rfl (by simp))
  have g : Below w.heap.size w (((w.alloc (.cells #[.bool n, .int .i64 i, .bool s, .slice A1 An1 Ac1, .slice A2 An2 Ac2, .int .i64 j, .bool t, .slice B1 Bn1 Bc1, .slice B2 Bn2 Bc2] 71)).alloc (.cells #[.bool n', .int .i64 i', .bool s', .slice C1 Cn1 Cc1, .slice C2 Cn2 Cc2, .int .i64 j', .bool t', .slice D1 Dn1 Dc1, .slice D2 Dn2 Dc2] 71)).alloc (.cells #[.bool false, .int .i64 0, .bool false, .slice none 0 0, .slice none 0 0, .int .i64 0, .bool false, .slice none 0 0, .slice none 0 0] 71)) := b_three
  rcases ha with ⟨h1, rfl⟩ | ⟨h1, rfl, -⟩
  · have e1 : min p r = r := by have := hI.empty h1; unfold Vg.Pl at hl'; omega
    have e2 : max q u = u := by have := hI.empty h1; unfold Vg.Pl at hr'; omega
    rw [e1, e2]
    clear e1 e2 hl hr hl' hr' hI hJ HA NB g h1 hb
    go_enter Try.func70, Try.ntmps70
    go_wp2
    exact bodyPost_ret (v := .agg #[.bool n', .int .i64 i', .bool s', .slice C1 Cn1 Cc1, .slice C2 Cn2 Cc2, .int .i64 j', .bool t', .slice D1 Dn1 Dc1, .slice D2 Dn2 Dc2]) (by simp [results, Try.results70, go_sem]) rfl ⟨_, rfl, HB.out.keep b_three, b_three⟩
  · rcases hb with ⟨h2, rfl⟩ | ⟨h2, rfl, -⟩
    · have e1 : min p r = p := by have := hJ.empty h2; unfold Vg.Pl at hl; omega
      have e2 : max q u = q := by have := hJ.empty h2; unfold Vg.Pl at hr; omega
      rw [e1, e2]
      clear e1 e2 hl hr hl' hr' hI hJ HB NB g h1 h2
      go_enter Try.func70, Try.ntmps70
      go_wp2
      exact bodyPost_ret (v := .agg #[.bool false, .int .i64 i, .bool s, .slice A1 An1 Ac1, .slice A2 An2 Ac2, .int .i64 j, .bool t, .slice B1 Bn1 Bc1, .slice B2 Bn2 Bc2]) (by simp [results, Try.results70, go_sem]) rfl ⟨_, rfl, HA.out.keep b_three, b_three⟩
    · have HA2 : En w (.agg #[.int .i64 i, .bool s, .slice A1 An1 Ac1, .slice A2 An2 Ac2]) (Vg.ei p) (Vg.eZ p) Vg.LP 64 ∧ En w (.agg #[.int .i64 j, .bool t, .slice B1 Bn1 Bc1, .slice B2 Bn2 Bc2]) (Vg.ei q) (Vg.eZ q) Vg.LP 64 := by
        obtain ⟨_, _, _, _, _, _, _, _, _, _, _, _, _, _, _, _, _, e, h⟩ := HA.out
        injection e with e; injection e with e
        simp only [List.cons.injEq, Value.int.injEq, Value.bool.injEq, Value.slice.injEq, and_true, true_and] at e
        obtain ⟨rfl, rfl, rfl, ⟨rfl, rfl, rfl⟩, ⟨rfl, rfl, rfl⟩, rfl, rfl, ⟨rfl, rfl, rfl⟩, rfl, rfl, rfl⟩ := e
        rcases h with ⟨-, h⟩ | ⟨-, -, h⟩
        · cases h
        · exact h
      have HB2 : En w (.agg #[.int .i64 i', .bool s', .slice C1 Cn1 Cc1, .slice C2 Cn2 Cc2]) (Vg.ei r) (Vg.eZ r) Vg.LP 64 ∧ En w (.agg #[.int .i64 j', .bool t', .slice D1 Dn1 Dc1, .slice D2 Dn2 Dc2]) (Vg.ei u) (Vg.eZ u) Vg.LP 64 := by
        obtain ⟨_, _, _, _, _, _, _, _, _, _, _, _, _, _, _, _, _, e, h⟩ := HB.out
        injection e with e; injection e with e
        simp only [List.cons.injEq, Value.int.injEq, Value.bool.injEq, Value.slice.injEq, and_true, true_and] at e
        obtain ⟨rfl, rfl, rfl, ⟨rfl, rfl, rfl⟩, ⟨rfl, rfl, rfl⟩, rfl, rfl, ⟨rfl, rfl, rfl⟩, rfl, rfl, rfl⟩ := e
        rcases h with ⟨-, h⟩ | ⟨-, -, h⟩
        · cases h
        · exact h
      have LS := fun (w' : World) (h : Below w.heap.size w w') => lesser_any _ _ p r hl hl' w' (HA2.1.keep h) (HB2.1.keep h)
      have GR := fun (w' : World) (h : Below w.heap.size w w') => greater_any _ _ q u hr hr' w' (HA2.2.keep h) (HB2.2.keep h)
      obtain ⟨x, hx⟩ : ∃ x, min p r = x := ⟨_, rfl⟩
      obtain ⟨y, hy⟩ : ∃ y, max q u = y := ⟨_, rfl⟩
      have HP : Hid (x ≤ y) := hide (by omega)
      rw [hx] at LS ⊢
      rw [hy] at GR ⊢
      clear hx hy
      obtain ⟨ex, hx⟩ : ∃ i, Vg.ei x = i := ⟨_, rfl⟩
      obtain ⟨ey, hy⟩ : ∃ i, Vg.ei y = i := ⟨_, rfl⟩
      have HX := hide (show Vg.ei x = ex ∧ Vg.ei y = ey from ⟨hx, hy⟩)
      rw [hx] at LS
      rw [hy] at GR
      clear hx hy
      clear hl hr hl' hr' hI hJ HA HB HA2 HB2 h1 h2
      have x1 : (((w.alloc (.cells #[.bool false, .int .i64 i, .bool s, .slice A1 An1 Ac1, .slice A2 An2 Ac2, .int .i64 j, .bool t, .slice B1 Bn1 Bc1, .slice B2 Bn2 Bc2] 71)).alloc (.cells #[.bool false, .int .i64 i', .bool s', .slice C1 Cn1 Cc1, .slice C2 Cn2 Cc2, .int .i64 j', .bool t', .slice D1 Dn1 Dc1, .slice D2 Dn2 Dc2] 71)).alloc (.cells #[.bool false, .int .i64 0, .bool false, .slice none 0 0, .slice none 0 0, .int .i64 0, .bool false, .slice none 0 0, .slice none 0 0] 71)).cell? ⟨w.heap.size, 1, none⟩ = some (.int .i64 i) := by simp [go_sem]
      have x2 : (((w.alloc (.cells #[.bool false, .int .i64 i, .bool s, .slice A1 An1 Ac1, .slice A2 An2 Ac2, .int .i64 j, .bool t, .slice B1 Bn1 Bc1, .slice B2 Bn2 Bc2] 71)).alloc (.cells #[.bool false, .int .i64 i', .bool s', .slice C1 Cn1 Cc1, .slice C2 Cn2 Cc2, .int .i64 j', .bool t', .slice D1 Dn1 Dc1, .slice D2 Dn2 Dc2] 71)).alloc (.cells #[.bool false, .int .i64 0, .bool false, .slice none 0 0, .slice none 0 0, .int .i64 0, .bool false, .slice none 0 0, .slice none 0 0] 71)).cell? ⟨w.heap.size, 2, none⟩ = some (.bool s) := by simp [go_sem]
      have x3 : (((w.alloc (.cells #[.bool false, .int .i64 i, .bool s, .slice A1 An1 Ac1, .slice A2 An2 Ac2, .int .i64 j, .bool t, .slice B1 Bn1 Bc1, .slice B2 Bn2 Bc2] 71)).alloc (.cells #[.bool false, .int .i64 i', .bool s', .slice C1 Cn1 Cc1, .slice C2 Cn2 Cc2, .int .i64 j', .bool t', .slice D1 Dn1 Dc1, .slice D2 Dn2 Dc2] 71)).alloc (.cells #[.bool false, .int .i64 0, .bool false, .slice none 0 0, .slice none 0 0, .int .i64 0, .bool false, .slice none 0 0, .slice none 0 0] 71)).cell? ⟨w.heap.size, 3, none⟩ = some (.slice A1 An1 Ac1) := by simp [go_sem]
      have x4 : (((w.alloc (.cells #[.bool false, .int .i64 i, .bool s, .slice A1 An1 Ac1, .slice A2 An2 Ac2, .int .i64 j, .bool t, .slice B1 Bn1 Bc1, .slice B2 Bn2 Bc2] 71)).alloc (.cells #[.bool false, .int .i64 i', .bool s', .slice C1 Cn1 Cc1, .slice C2 Cn2 Cc2, .int .i64 j', .bool t', .slice D1 Dn1 Dc1, .slice D2 Dn2 Dc2] 71)).alloc (.cells #[.bool false, .int .i64 0, .bool false, .slice none 0 0, .slice none 0 0, .int .i64 0, .bool false, .slice none 0 0, .slice none 0 0] 71)).cell? ⟨w.heap.size, 4, none⟩ = some (.slice A2 An2 Ac2) := by simp [go_sem]
      have x5 : (((w.alloc (.cells #[.bool false, .int .i64 i, .bool s, .slice A1 An1 Ac1, .slice A2 An2 Ac2, .int .i64 j, .bool t, .slice B1 Bn1 Bc1, .slice B2 Bn2 Bc2] 71)).alloc (.cells #[.bool false, .int .i64 i', .bool s', .slice C1 Cn1 Cc1, .slice C2 Cn2 Cc2, .int .i64 j', .bool t', .slice D1 Dn1 Dc1, .slice D2 Dn2 Dc2] 71)).alloc (.cells #[.bool false, .int .i64 0, .bool false, .slice none 0 0, .slice none 0 0, .int .i64 0, .bool false, .slice none 0 0, .slice none 0 0] 71)).cell? ⟨w.heap.size, 5, none⟩ = some (.int .i64 j) := by simp [go_sem]
      have x6 : (((w.alloc (.cells #[.bool false, .int .i64 i, .bool s, .slice A1 An1 Ac1, .slice A2 An2 Ac2, .int .i64 j, .bool t, .slice B1 Bn1 Bc1, .slice B2 Bn2 Bc2] 71)).alloc (.cells #[.bool false, .int .i64 i', .bool s', .slice C1 Cn1 Cc1, .slice C2 Cn2 Cc2, .int .i64 j', .bool t', .slice D1 Dn1 Dc1, .slice D2 Dn2 Dc2] 71)).alloc (.cells #[.bool false, .int .i64 0, .bool false, .slice none 0 0, .slice none 0 0, .int .i64 0, .bool false, .slice none 0 0, .slice none 0 0] 71)).cell? ⟨w.heap.size, 6, none⟩ = some (.bool t) := by simp [go_sem]
      have x7 : (((w.alloc (.cells #[.bool false, .int .i64 i, .bool s, .slice A1 An1 Ac1, .slice A2 An2 Ac2, .int .i64 j, .bool t, .slice B1 Bn1 Bc1, .slice B2 Bn2 Bc2] 71)).alloc (.cells #[.bool false, .int .i64 i', .bool s', .slice C1 Cn1 Cc1, .slice C2 Cn2 Cc2, .int .i64 j', .bool t', .slice D1 Dn1 Dc1, .slice D2 Dn2 Dc2] 71)).alloc (.cells #[.bool false, .int .i64 0, .bool false, .slice none 0 0, .slice none 0 0, .int .i64 0, .bool false, .slice none 0 0, .slice none 0 0] 71)).cell? ⟨w.heap.size, 7, none⟩ = some (.slice B1 Bn1 Bc1) := by simp [go_sem]
      have x8 : (((w.alloc (.cells #[.bool false, .int .i64 i, .bool s, .slice A1 An1 Ac1, .slice A2 An2 Ac2, .int .i64 j, .bool t, .slice B1 Bn1 Bc1, .slice B2 Bn2 Bc2] 71)).alloc (.cells #[.bool false, .int .i64 i', .bool s', .slice C1 Cn1 Cc1, .slice C2 Cn2 Cc2, .int .i64 j', .bool t', .slice D1 Dn1 Dc1, .slice D2 Dn2 Dc2] 71)).alloc (.cells #[.bool false, .int .i64 0, .bool false, .slice none 0 0, .slice none 0 0, .int .i64 0, .bool false, .slice none 0 0, .slice none 0 0] 71)).cell? ⟨w.heap.size, 8, none⟩ = some (.slice B2 Bn2 Bc2) := by simp [go_sem]
      have y1 : (((w.alloc (.cells #[.bool false, .int .i64 i, .bool s, .slice A1 An1 Ac1, .slice A2 An2 Ac2, .int .i64 j, .bool t, .slice B1 Bn1 Bc1, .slice B2 Bn2 Bc2] 71)).alloc (.cells #[.bool false, .int .i64 i', .bool s', .slice C1 Cn1 Cc1, .slice C2 Cn2 Cc2, .int .i64 j', .bool t', .slice D1 Dn1 Dc1, .slice D2 Dn2 Dc2] 71)).alloc (.cells #[.bool false, .int .i64 0, .bool false, .slice none 0 0, .slice none 0 0, .int .i64 0, .bool false, .slice none 0 0, .slice none 0 0] 71)).cell? ⟨w.heap.size + 1, 1, none⟩ = some (.int .i64 i') := by simp [go_sem]
      have y2 : (((w.alloc (.cells #[.bool false, .int .i64 i, .bool s, .slice A1 An1 Ac1, .slice A2 An2 Ac2, .int .i64 j, .bool t, .slice B1 Bn1 Bc1, .slice B2 Bn2 Bc2] 71)).alloc (.cells #[.bool false, .int .i64 i', .bool s', .slice C1 Cn1 Cc1, .slice C2 Cn2 Cc2, .int .i64 j', .bool t', .slice D1 Dn1 Dc1, .slice D2 Dn2 Dc2] 71)).alloc (.cells #[.bool false, .int .i64 0, .bool false, .slice none 0 0, .slice none 0 0, .int .i64 0, .bool false, .slice none 0 0, .slice none 0 0] 71)).cell? ⟨w.heap.size + 1, 2, none⟩ = some (.bool s') := by simp [go_sem]
      have y3 : (((w.alloc (.cells #[.bool false, .int .i64 i, .bool s, .slice A1 An1 Ac1, .slice A2 An2 Ac2, .int .i64 j, .bool t, .slice B1 Bn1 Bc1, .slice B2 Bn2 Bc2] 71)).alloc (.cells #[.bool false, .int .i64 i', .bool s', .slice C1 Cn1 Cc1, .slice C2 Cn2 Cc2, .int .i64 j', .bool t', .slice D1 Dn1 Dc1, .slice D2 Dn2 Dc2] 71)).alloc (.cells #[.bool false, .int .i64 0, .bool false, .slice none 0 0, .slice none 0 0, .int .i64 0, .bool false, .slice none 0 0, .slice none 0 0] 71)).cell? ⟨w.heap.size + 1, 3, none⟩ = some (.slice C1 Cn1 Cc1) := by simp [go_sem]
      have y4 : (((w.alloc (.cells #[.bool false, .int .i64 i, .bool s, .slice A1 An1 Ac1, .slice A2 An2 Ac2, .int .i64 j, .bool t, .slice B1 Bn1 Bc1, .slice B2 Bn2 Bc2] 71)).alloc (.cells #[.bool false, .int .i64 i', .bool s', .slice C1 Cn1 Cc1, .slice C2 Cn2 Cc2, .int .i64 j', .bool t', .slice D1 Dn1 Dc1, .slice D2 Dn2 Dc2] 71)).alloc (.cells #[.bool false, .int .i64 0, .bool false, .slice none 0 0, .slice none 0 0, .int .i64 0, .bool false, .slice none 0 0, .slice none 0 0] 71)).cell? ⟨w.heap.size + 1, 4, none⟩ = some (.slice C2 Cn2 Cc2) := by simp [go_sem]
      have y5 : (((w.alloc (.cells #[.bool false, .int .i64 i, .bool s, .slice A1 An1 Ac1, .slice A2 An2 Ac2, .int .i64 j, .bool t, .slice B1 Bn1 Bc1, .slice B2 Bn2 Bc2] 71)).alloc (.cells #[.bool false, .int .i64 i', .bool s', .slice C1 Cn1 Cc1, .slice C2 Cn2 Cc2, .int .i64 j', .bool t', .slice D1 Dn1 Dc1, .slice D2 Dn2 Dc2] 71)).alloc (.cells #[.bool false, .int .i64 0, .bool false, .slice none 0 0, .slice none 0 0, .int .i64 0, .bool false, .slice none 0 0, .slice none 0 0] 71)).cell? ⟨w.heap.size + 1, 5, none⟩ = some (.int .i64 j') := by simp [go_sem]
      have y6 : (((w.alloc (.cells #[.bool false, .int .i64 i, .bool s, .slice A1 An1 Ac1, .slice A2 An2 Ac2, .int .i64 j, .bool t, .slice B1 Bn1 Bc1, .slice B2 Bn2 Bc2] 71)).alloc (.cells #[.bool false, .int .i64 i', .bool s', .slice C1 Cn1 Cc1, .slice C2 Cn2 Cc2, .int .i64 j', .bool t', .slice D1 Dn1 Dc1, .slice D2 Dn2 Dc2] 71)).alloc (.cells #[.bool false, .int .i64 0, .bool false, .slice none 0 0, .slice none 0 0, .int .i64 0, .bool false, .slice none 0 0, .slice none 0 0] 71)).cell? ⟨w.heap.size + 1, 6, none⟩ = some (.bool t') := by simp [go_sem]
      have y7 : (((w.alloc (.cells #[.bool false, .int .i64 i, .bool s, .slice A1 An1 Ac1, .slice A2 An2 Ac2, .int .i64 j, .bool t, .slice B1 Bn1 Bc1, .slice B2 Bn2 Bc2] 71)).alloc (.cells #[.bool false, .int .i64 i', .bool s', .slice C1 Cn1 Cc1, .slice C2 Cn2 Cc2, .int .i64 j', .bool t', .slice D1 Dn1 Dc1, .slice D2 Dn2 Dc2] 71)).alloc (.cells #[.bool false, .int .i64 0, .bool false, .slice none 0 0, .slice none 0 0, .int .i64 0, .bool false, .slice none 0 0, .slice none 0 0] 71)).cell? ⟨w.heap.size + 1, 7, none⟩ = some (.slice D1 Dn1 Dc1) := by simp [go_sem]
      have y8 : (((w.alloc (.cells #[.bool false, .int .i64 i, .bool s, .slice A1 An1 Ac1, .slice A2 An2 Ac2, .int .i64 j, .bool t, .slice B1 Bn1 Bc1, .slice B2 Bn2 Bc2] 71)).alloc (.cells #[.bool false, .int .i64 i', .bool s', .slice C1 Cn1 Cc1, .slice C2 Cn2 Cc2, .int .i64 j', .bool t', .slice D1 Dn1 Dc1, .slice D2 Dn2 Dc2] 71)).alloc (.cells #[.bool false, .int .i64 0, .bool false, .slice none 0 0, .slice none 0 0, .int .i64 0, .bool false, .slice none 0 0, .slice none 0 0] 71)).cell? ⟨w.heap.size + 1, 8, none⟩ = some (.slice D2 Dn2 Dc2) := by simp [go_sem]
      have z : w.heap.size + 1 + 1 < (((w.alloc (.cells #[.bool false, .int .i64 i, .bool s, .slice A1 An1 Ac1, .slice A2 An2 Ac2, .int .i64 j, .bool t, .slice B1 Bn1 Bc1, .slice B2 Bn2 Bc2] 71)).alloc (.cells #[.bool false, .int .i64 i', .bool s', .slice C1 Cn1 Cc1, .slice C2 Cn2 Cc2, .int .i64 j', .bool t', .slice D1 Dn1 Dc1, .slice D2 Dn2 Dc2] 71)).alloc (.cells #[.bool false, .int .i64 0, .bool false, .slice none 0 0, .slice none 0 0, .int .i64 0, .bool false, .slice none 0 0, .slice none 0 0] 71)).heap.size := by simp
      go_enter Try.func70, Try.ntmps70
      go_upto_region 5 with fail
      generalize hW : (((w.alloc (.cells #[.bool false, .int .i64 i, .bool s, .slice A1 An1 Ac1, .slice A2 An2 Ac2, .int .i64 j, .bool t, .slice B1 Bn1 Bc1, .slice B2 Bn2 Bc2] 71)).alloc (.cells #[.bool false, .int .i64 i', .bool s', .slice C1 Cn1 Cc1, .slice C2 Cn2 Cc2, .int .i64 j', .bool t', .slice D1 Dn1 Dc1, .slice D2 Dn2 Dc2] 71)).alloc (.cells #[.bool false, .int .i64 0, .bool false, .slice none 0 0, .slice none 0 0, .int .i64 0, .bool false, .slice none 0 0, .slice none 0 0] 71)) = W1 at *
      clear hW
      refine wp_region_held_drew (S := fun wx => Below w.heap.size w wx ∧ w.heap.size + 1 + 1 < wx.heap.size ∧ wx.cell? ⟨w.heap.size, 1, none⟩ = some (.int .i64 i) ∧ wx.cell? ⟨w.heap.size, 2, none⟩ = some (.bool s) ∧ wx.cell? ⟨w.heap.size, 3, none⟩ = some (.slice A1 An1 Ac1) ∧ wx.cell? ⟨w.heap.size, 4, none⟩ = some (.slice A2 An2 Ac2) ∧ wx.cell? ⟨w.heap.size, 5, none⟩ = some (.int .i64 j) ∧ wx.cell? ⟨w.heap.size, 6, none⟩ = some (.bool t) ∧ wx.cell? ⟨w.heap.size, 7, none⟩ = some (.slice B1 Bn1 Bc1) ∧ wx.cell? ⟨w.heap.size, 8, none⟩ = some (.slice B2 Bn2 Bc2) ∧ wx.cell? ⟨w.heap.size + 1, 1, none⟩ = some (.int .i64 i') ∧ wx.cell? ⟨w.heap.size + 1, 2, none⟩ = some (.bool s') ∧ wx.cell? ⟨w.heap.size + 1, 3, none⟩ = some (.slice C1 Cn1 Cc1) ∧ wx.cell? ⟨w.heap.size + 1, 4, none⟩ = some (.slice C2 Cn2 Cc2) ∧ wx.cell? ⟨w.heap.size + 1, 5, none⟩ = some (.int .i64 j') ∧ wx.cell? ⟨w.heap.size + 1, 6, none⟩ = some (.bool t') ∧ wx.cell? ⟨w.heap.size + 1, 7, none⟩ = some (.slice D1 Dn1 Dc1) ∧ wx.cell? ⟨w.heap.size + 1, 8, none⟩ = some (.slice D2 Dn2 Dc2)) (by kernel_rfl) ?_ (fun hHeld => ?_)
      · (((try dsimp only); (repeat' apply And.intro) <;> first | assumption | (simp [*]; done) | exact Below.drew (by assumption) | exact keep_cell hb1 (by first | (dsimp only; omega) | (simp; omega)) (by simp [*]) | (have := hb1.size; omega) | (have := hb1.size; simp at this; omega) | exact bch (by simp [*]) hb1 | exact bch (Below.drew (by simp [*])) hb1))
      refine wpAnyH_take (i := 0) (oi := { dst := some 11, op := Op.fieldAddr 71 (Operand.tmp 2) 1, type := _, pos := _, after := _, guard := none }) (v := ?_) rfl (by kernel_rfl) (by kernel_rfl) (by kernel_rfl) (fun _ _ _ h => h) (Or.inl ⟨by rfl, ?_⟩) (by assumption) ?_
      rotate_left
      · intro w hSw; (try dsimp only at hSw); go_simp
        try with_reducible rfl
      try simp only [Act.put, List.setIfInBounds_toArray, List.set_cons_zero, List.set_cons_succ]
      refine wpAnyH_take (i := 1) (oi := { dst := some 12, op := Op.load 69 (Operand.tmp 11), type := _, pos := _, after := _, guard := none }) (v := ?_) rfl (by kernel_rfl) (by kernel_rfl) (by kernel_rfl) (fun _ _ _ h => h) (Or.inl ⟨by rfl, ?_⟩) (by assumption) ?_
      rotate_left
      · intro w hSw; (try dsimp only at hSw); go_simp
        try with_reducible rfl
      try simp only [Act.put, List.setIfInBounds_toArray, List.set_cons_zero, List.set_cons_succ]
      refine wpAnyH_take (i := 2) (oi := { dst := some 13, op := Op.fieldAddr 71 (Operand.tmp 3) 1, type := _, pos := _, after := _, guard := none }) (v := ?_) rfl (by kernel_rfl) (by kernel_rfl) (by kernel_rfl) (fun _ _ _ h => h) (Or.inl ⟨by rfl, ?_⟩) (by assumption) ?_
      rotate_left
      · intro w hSw; (try dsimp only at hSw); go_simp
        try with_reducible rfl
      try simp only [Act.put, List.setIfInBounds_toArray, List.set_cons_zero, List.set_cons_succ]
      refine wpAnyH_take (i := 3) (oi := { dst := some 14, op := Op.load 69 (Operand.tmp 13), type := _, pos := _, after := _, guard := none }) (v := ?_) rfl (by kernel_rfl) (by kernel_rfl) (by kernel_rfl) (fun _ _ _ h => h) (Or.inl ⟨by rfl, ?_⟩) (by assumption) ?_
      rotate_left
      · intro w hSw; (try dsimp only at hSw); go_simp
        try with_reducible rfl
      try simp only [Act.put, List.setIfInBounds_toArray, List.set_cons_zero, List.set_cons_succ]
      refine wpAnyH_take (i := 5) (oi := { dst := some 16, op := Op.fieldAddr 71 (Operand.tmp 2) 2, type := _, pos := _, after := _, guard := none }) (v := ?_) rfl (by kernel_rfl) (by kernel_rfl) (by kernel_rfl) (fun _ _ _ h => h) (Or.inl ⟨by rfl, ?_⟩) (by assumption) ?_
      rotate_left
      · intro w hSw; (try dsimp only at hSw); go_simp
        try with_reducible rfl
      try simp only [Act.put, List.setIfInBounds_toArray, List.set_cons_zero, List.set_cons_succ]
      refine wpAnyH_take (i := 6) (oi := { dst := some 17, op := Op.load 69 (Operand.tmp 16), type := _, pos := _, after := _, guard := none }) (v := ?_) rfl (by kernel_rfl) (by kernel_rfl) (by kernel_rfl) (fun _ _ _ h => h) (Or.inl ⟨by rfl, ?_⟩) (by assumption) ?_
      rotate_left
      · intro w hSw; (try dsimp only at hSw); go_simp
        try with_reducible rfl
      try simp only [Act.put, List.setIfInBounds_toArray, List.set_cons_zero, List.set_cons_succ]
      refine wpAnyH_take (i := 7) (oi := { dst := some 18, op := Op.fieldAddr 71 (Operand.tmp 3) 2, type := _, pos := _, after := _, guard := none }) (v := ?_) rfl (by kernel_rfl) (by kernel_rfl) (by kernel_rfl) (fun _ _ _ h => h) (Or.inl ⟨by rfl, ?_⟩) (by assumption) ?_
      rotate_left
      · intro w hSw; (try dsimp only at hSw); go_simp
        try with_reducible rfl
      try simp only [Act.put, List.setIfInBounds_toArray, List.set_cons_zero, List.set_cons_succ]
      refine wpAnyH_take (i := 8) (oi := { dst := some 19, op := Op.load 69 (Operand.tmp 18), type := _, pos := _, after := _, guard := none }) (v := ?_) rfl (by kernel_rfl) (by kernel_rfl) (by kernel_rfl) (fun _ _ _ h => h) (Or.inl ⟨by rfl, ?_⟩) (by assumption) ?_
      rotate_left
      · intro w hSw; (try dsimp only at hSw); go_simp
        try with_reducible rfl
      try simp only [Act.put, List.setIfInBounds_toArray, List.set_cons_zero, List.set_cons_succ]
      refine wpAnyH_ready (rs := [4]) (by kernel_rfl) (by simp) ?_
      refine AllReadyH.cons (o := { dst := some 15, op := Op.call { callee := Callee.value (Operand.func 98), args := #[Operand.tmp 12, Operand.tmp 14], argTypes := #[69, 69] }, type := _, pos := _, after := _, guard := none }) rfl (fun K hK => ?_) AllReadyH.nil
      go_simp
      go_at_call 98; refine (LS _ (by first | exact hHeld.1 | (simp [*]; done))).mono ?_; rintro e w' ⟨v1, rfl, p1, hb1⟩; have NB := hide (NB.out.keep hb1 (by first | exact hHeld.2.1 | (dsimp only; omega))); have P1 := hide p1; obtain ⟨s1, E1, m1, d1, E2, m2, d2, rfl, -⟩ := p1
      go_wp2_with fail
      refine hK.out _ _ ?_ (fun hHeld2 => ?_)
      · (((try dsimp only); (repeat' apply And.intro) <;> first | assumption | (simp [*]; done) | exact Below.drew (by assumption) | exact keep_cell hb1 (by first | (dsimp only; omega) | (simp; omega)) (by simp [*]) | (have := hb1.size; omega) | (have := hb1.size; simp at this; omega) | exact bch (by simp [*]) hb1 | exact bch (Below.drew (by simp [*])) hb1))
      clear hK K hHeld
      have hHeld := hHeld2
      clear hHeld2
      try simp only [Act.put, List.setIfInBounds_toArray, List.set_cons_zero, List.set_cons_succ]
      refine wpAnyH_ready (rs := [9]) (by kernel_rfl) (by simp) ?_
      refine AllReadyH.cons (o := { dst := some 20, op := Op.call { callee := Callee.value (Operand.func 99), args := #[Operand.tmp 17, Operand.tmp 19], argTypes := #[69, 69] }, type := _, pos := _, after := _, guard := none }) rfl (fun K hK => ?_) AllReadyH.nil
      go_simp
      go_at_call 99; refine (GR _ (by first | exact hHeld.1 | (simp [*]; done))).mono ?_; rintro e w' ⟨v2, rfl, p2, hb1⟩; have NB := hide (NB.out.keep hb1 (by first | exact hHeld.2.1 | (dsimp only; omega))); have P1 := hide (P1.out.keep hb1); have P2 := hide p2; obtain ⟨s2, E3, m3, d3, E4, m4, d4, rfl, -⟩ := p2
      go_wp2_with fail
      refine hK.out _ _ ?_ (fun hHeld2 => ?_)
      · (((try dsimp only); (repeat' apply And.intro) <;> first | assumption | (simp [*]; done) | exact Below.drew (by assumption) | exact keep_cell hb1 (by first | (dsimp only; omega) | (simp; omega)) (by simp [*]) | (have := hb1.size; omega) | (have := hb1.size; simp at this; omega) | exact bch (by simp [*]) hb1 | exact bch (Below.drew (by simp [*])) hb1))
      clear hK K hHeld
      have hHeld := hHeld2
      clear hHeld2
      try simp only [Act.put, List.setIfInBounds_toArray, List.set_cons_zero, List.set_cons_succ]
      refine wpAnyH_take (i := 10) (oi := { dst := some 21, op := Op.build 71 #[(0, Operand.const (Value.bool false)), (1, Operand.tmp 15), (2, Operand.tmp 20)], type := _, pos := _, after := _, guard := none }) (v := ?_) rfl (by kernel_rfl) (by kernel_rfl) (by kernel_rfl) (fun _ _ _ h => h) (Or.inl ⟨by rfl, ?_⟩) (by assumption) ?_
      rotate_left
      · intro w hSw; (try dsimp only at hSw); go_simp
        try with_reducible rfl
      try simp only [Act.put, List.setIfInBounds_toArray, List.set_cons_zero, List.set_cons_succ]
      refine wpAnyH_ready (rs := [11]) (by kernel_rfl) (by simp) ?_
      refine AllReadyH.cons (o := { dst := none, op := Op.store 71 (Operand.tmp 4) (Operand.tmp 21), type := _, pos := _, after := _, guard := none }) rfl (fun K hK => ?_) AllReadyH.nil
      rw [if_pos (by rfl)]
      refine wp_store_mid 71 _ _ rfl (w.heap.size + 1 + 1) 0 #[.bool false, .int .i64 ex, .bool s1, .slice E1 m1 d1, .slice E2 m2 d2, .int .i64 ey, .bool s2, .slice E3 m3 d3, .slice E4 m4 d4] rfl rfl NB.out.1 (by kernel_rfl) (by simp [Value.oneCell']) ?_
      refine hK.out _ _ ?_ (fun hHeld2 => ?_)
      · exact ⟨sc_below _ (by omega) _ _ _ hHeld.1, by rw [sc_size]; exact hHeld.2.1, (sc_other (by dsimp only; omega)).trans hHeld.2.2.1, (sc_other (by dsimp only; omega)).trans hHeld.2.2.2.1, (sc_other (by dsimp only; omega)).trans hHeld.2.2.2.2.1, (sc_other (by dsimp only; omega)).trans hHeld.2.2.2.2.2.1, (sc_other (by dsimp only; omega)).trans hHeld.2.2.2.2.2.2.1, (sc_other (by dsimp only; omega)).trans hHeld.2.2.2.2.2.2.2.1, (sc_other (by dsimp only; omega)).trans hHeld.2.2.2.2.2.2.2.2.1, (sc_other (by dsimp only; omega)).trans hHeld.2.2.2.2.2.2.2.2.2.1, (sc_other (by dsimp only; omega)).trans hHeld.2.2.2.2.2.2.2.2.2.2.1, (sc_other (by dsimp only; omega)).trans hHeld.2.2.2.2.2.2.2.2.2.2.2.1, (sc_other (by dsimp only; omega)).trans hHeld.2.2.2.2.2.2.2.2.2.2.2.2.1, (sc_other (by dsimp only; omega)).trans hHeld.2.2.2.2.2.2.2.2.2.2.2.2.2.1, (sc_other (by dsimp only; omega)).trans hHeld.2.2.2.2.2.2.2.2.2.2.2.2.2.2.1, (sc_other (by dsimp only; omega)).trans hHeld.2.2.2.2.2.2.2.2.2.2.2.2.2.2.2.1, (sc_other (by dsimp only; omega)).trans hHeld.2.2.2.2.2.2.2.2.2.2.2.2.2.2.2.2.1, (sc_other (by dsimp only; omega)).trans hHeld.2.2.2.2.2.2.2.2.2.2.2.2.2.2.2.2.2⟩
      clear hK K hHeld
      have hHeld := hHeld2
      clear hHeld2
      try simp only [Act.put]
      refine wpAnyH_done (by kernel_rfl) ?_ _
      have G9 := hHeld.1
      clear hHeld x1 y1 x2 y2 x3 y3 x4 y4 x5 y5 x6 y6 x7 y7 x8 y8 z g LS GR
      go_step
      go_step
      go_step
      refine bodyPost_ret (results_cell rfl _ _ _ ⟨w.heap.size + 1 + 1, 0, none⟩ _ rfl (sc_load Try.prog (vs := [.bool false, .int .i64 ex, .bool s1, .slice E1 m1 d1, .slice E2 m2 d2, .int .i64 ey, .bool s2, .slice E3 m3 d3, .slice E4 m4 d4]) NB.out.1 Try.underlying71 rfl (by kernel_rfl))) rfl ?_
      refine ⟨_, rfl, ⟨false, _, _, _, _, _, _, _, _, _, _, _, _, _, _, _, _, rfl, .inr ⟨HP.out, rfl, ?_, ?_⟩⟩, G9⟩
      · rw [HX.out.1]; exact P1.out.cells NB.out.2 _ (by simp)
      · rw [HX.out.2]; exact P2.out.cells NB.out.2 _ (by simp)
end Go.Proofs.Ytljnadoodbninaa
