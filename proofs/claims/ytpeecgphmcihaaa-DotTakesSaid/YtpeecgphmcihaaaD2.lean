/- Dots as values, and as cells of memory. -/
import Derived.Test.YtpeecgphmcihaaaPar
import Derived.Test.YtpeecgphmcihaaaPDots
import Derived.Laws.StructEq
namespace Go.Proofs.Ytpeecgphmcihaaa
open Go.RowKit Go.Proofs.Ytpeecgphmcihaaa.Dt

def i64in (a : Int) : Prop := -9223372036854775808 ≤ a ∧ a ≤ 9223372036854775807
def _root_.Go.Proofs.Ytpeecgphmcihaaa.Dt.D2.v (d : D2) : Value := .agg #[.int .i64 d.r, .int .i64 d.q]
def _root_.Go.Proofs.Ytpeecgphmcihaaa.Dt.D2.cells (d : D2) : List Value := [.int .i64 d.r, .int .i64 d.q]
def _root_.Go.Proofs.Ytpeecgphmcihaaa.Dt.D2.ok (d : D2) : Prop := i64in d.r ∧ i64in d.q
theorem ret_b {a b : Bool} (h : a = b) : Ending.returned (.bool a) = .returned (.bool b) := by rw [h]
theorem ret_i {k : IntKind} {a b : Int} (h : a = b) : Ending.returned (.int k a) = .returned (.int k b) := by rw [h]
theorem cell2 (w : World) (t : TypeId) (a b : Value) : (w.alloc (.cells #[a, b] t)).cell? ⟨w.heap.size, 0, none⟩ = some a ∧ (w.alloc (.cells #[a, b] t)).cell? ⟨w.heap.size, 1, none⟩ = some b := by
  obtain ⟨b', o, e, _, _, h⟩ := (Sl.new w t #[a, b] (0, 0)).at_ (k := 0) (by simp)
  cases e
  exact ⟨h 0 a rfl, h 1 b rfl⟩
/-- a dot's box -/
def StandsD (w : World) (g : Nat) (s : D2) : Prop := g < w.heap.size ∧ w.cell? ⟨g, 0, none⟩ = some (.int .i64 s.r) ∧ w.cell? ⟨g, 1, none⟩ = some (.int .i64 s.q) ∧ w.frozen? ⟨g, 0, none⟩ = false ∧ w.frozen? ⟨g, 1, none⟩ = false
theorem StandsD.below {w w' : World} {g : Nat} {s : D2} (h : StandsD w g s) (hb : Below w.heap.size w w') : StandsD w' g s := by
  obtain ⟨h1, h2, h3, h5, h6⟩ := h
  exact ⟨Nat.lt_of_lt_of_le h1 hb.size, (hb.cell h1).trans h2, (hb.cell h1).trans h3, (hb.frozen h1).trans h5, (hb.frozen h1).trans h6⟩
theorem StandsD.alloc {w : World} {g : Nat} {s : D2} (h : StandsD w g s) (o : Obj) : StandsD (w.alloc o) g s := h.below (balloc (Below.refl _ _) o)
theorem StandsD.new (w : World) (t : TypeId) (s : D2) : StandsD (w.alloc (.cells #[.int .i64 s.r, .int .i64 s.q] t)) w.heap.size s := by
  obtain ⟨h1, h2⟩ := cell2 w t (.int .i64 s.r) (.int .i64 s.q)
  exact ⟨by simp, h1, h2, by rw [frozen?_alloc_cells]; simp [World.frozen?], by rw [frozen?_alloc_cells]; simp [World.frozen?]⟩
/-- the two stores of a dot -/
def put2 (w : World) (g : Nat) (s : D2) : World := (w.setCell ⟨g, 0, none⟩ (.int .i64 s.r)).setCell ⟨g, 1, none⟩ (.int .i64 s.q)
theorem setCell_other (w : World) (g g' o o' : Nat) (v : Value) (h : g ≠ g' ∨ o ≠ o') : (w.setCell ⟨g, o, none⟩ v).cell? ⟨g', o', none⟩ = w.cell? ⟨g', o', none⟩ := World.cell?_setCell_other _ _ _ _ (by
  intro e
  injection e with e1 e2
  rcases h with h | h
  · exact h e1
  · exact h e2)
theorem setCell_frozen (w : World) (g o : Nat) (v : Value) (x : Addr) : (w.setCell ⟨g, o, none⟩ v).frozen? x = w.frozen? x := by
  exact World.frozen?_setCells g [v] o w x
theorem StandsD.put {w : World} {g : Nat} {m : D2} (h : StandsD w g m) (s : D2) : StandsD (put2 w g s) g s := by
  obtain ⟨h1, h2, h3, h5, h6⟩ := h
  unfold put2
  refine ⟨by simpa using h1, ?_, ?_, by simp only [setCell_frozen]; exact h5, by simp only [setCell_frozen]; exact h6⟩
  · rw [setCell_other _ _ _ _ _ _ (.inr (by omega)), World.cell?_setCell_same _ _ _ h2]
  · rw [World.cell?_setCell_same _ _ _ (u := .int .i64 m.q) (by rw [setCell_other _ _ _ _ _ _ (.inr (by omega))]; exact h3)]
theorem StandsD.put_other {w : World} {g g' : Nat} {m : D2} (h : StandsD w g m) (s : D2) (hne : g' ≠ g) : StandsD (put2 w g' s) g m := by
  obtain ⟨h1, h2, h3, h5, h6⟩ := h
  unfold put2
  refine ⟨by simpa using h1, ?_, ?_, by simp only [setCell_frozen]; exact h5, by simp only [setCell_frozen]; exact h6⟩
  · rw [setCell_other _ _ _ _ _ _ (.inl hne), setCell_other _ _ _ _ _ _ (.inl hne)]; exact h2
  · rw [setCell_other _ _ _ _ _ _ (.inl hne), setCell_other _ _ _ _ _ _ (.inl hne)]; exact h3
theorem below_put2 {B : Nat} {a w : World} (h : Below B a w) {g : Nat} (hg : B ≤ g) (s : D2) : Below B a (put2 w g s) := (h.setCell hg _).setCell hg _
theorem eq2 (w : World) (a b : D2) : (binOp .eql 23 a.v b.v).run Try.prog w = .ok (.bool (decide (a = b))) w := by
  unfold D2.v
  rw [run_eql_struct]
  obtain ⟨p, l⟩ := a
  obtain ⟨p', l'⟩ := b
  go_simp
  by_cases h1 : p = p' <;> by_cases h2 : l = l' <;> simp [h1, h2]
theorem ne2 (w : World) (a b : D2) : (binOp .neq 23 a.v b.v).run Try.prog w = .ok (.bool (!decide (a = b))) w := by
  unfold D2.v
  rw [run_neq_struct]
  obtain ⟨p, l⟩ := a
  obtain ⟨p', l'⟩ := b
  go_simp
  by_cases h1 : p = p' <;> by_cases h2 : l = l' <;> simp [h1, h2]
/-! ### rows of dots -/
def dv (ls : List D2) : List Value := ls.flatMap D2.cells
theorem dv_get : ∀ (ls : List D2) (k j : Nat) (s : D2), ls[k]? = some s → j < 2 → (dv ls)[k * 2 + j]? = s.cells[j]?
  | [], k, j, s, h, _ => by simp at h
  | x :: ls, 0, j, s, h, hj => by
    simp at h; subst h
    show (x.cells ++ dv ls)[0 * 2 + j]? = _
    rw [List.getElem?_append_left (by simp [D2.cells]; omega)]; congr 1; omega
  | x :: ls, k + 1, j, s, h, hj => by
    show (x.cells ++ dv ls)[(k + 1) * 2 + j]? = _
    rw [List.getElem?_append_right (by simp [D2.cells]; omega), show (k + 1) * 2 + j - x.cells.length = k * 2 + j by simp [D2.cells]; omega]
    exact dv_get ls k j s (by simpa using h) hj
theorem dv_len (ls : List D2) : (dv ls).length = ls.length * 2 := by
  induction ls with
  | nil => rfl
  | cons x t ih => simp [dv, D2.cells] at *; omega
theorem dv_append (a b : List D2) : dv (a ++ b) = dv a ++ dv b := by simp [dv]
theorem dv_take (ls : List D2) (k : Nat) : (dv ls).take (k * 2) = dv (ls.take k) := by
  induction ls generalizing k with
  | nil => simp [dv]
  | cons x t ih =>
    cases k with
    | zero => simp [dv]
    | succ k =>
      show (x.cells ++ dv t).take ((k + 1) * 2) = x.cells ++ dv (t.take k)
      rw [← ih k, show (k + 1) * 2 = x.cells.length + k * 2 by simp [D2.cells]; omega, List.take_length_add_append]
theorem dotAt {w : World} {B : Nat} {A : Option Addr} {ls : List D2} (h : Sl w B A (dv ls)) {k : Nat} (hk : k < ls.length) :
    ∃ b o, A = some ⟨b, o, none⟩ ∧ b < B ∧ b < w.heap.size ∧ w.cell? ⟨b, o + k * 2, none⟩ = some (.int .i64 (ls[k]?.getD ⟨0, 0⟩).r) ∧ w.cell? ⟨b, o + k * 2 + 1, none⟩ = some (.int .i64 (ls[k]?.getD ⟨0, 0⟩).q) := by
  obtain ⟨b, o, e, h1, h2, hc⟩ := h.at_ (k := k * 2) (by rw [dv_len]; omega)
  have hs : ls[k]? = some (ls[k]'hk) := List.getElem?_eq_getElem hk
  rw [hs]
  exact ⟨b, o, e, h1, h2, hc (k * 2 + 0) _ (dv_get ls k 0 _ hs (by omega)), hc (k * 2 + 1) _ (dv_get ls k 1 _ hs (by omega))⟩
end Go.Proofs.Ytpeecgphmcihaaa

