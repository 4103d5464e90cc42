/- Ranges as values, and as cells of memory. -/
import Derived.Test.YtdpkmabojlihmaaTwo
import Derived.Test.YtdpkmabojlihmaaPSpan3
import Derived.Laws.StructEq
namespace Go.Proofs.Ytdpkmabojlihmaa
open Go.RowKit Go.Proofs.Ytdpkmabojlihmaa.Sp

def _root_.Go.Proofs.Ytdpkmabojlihmaa.Sp.Rg.v (d : Rg) : Value := .agg #[.int .i64 d.a, .int .i64 d.b]
def _root_.Go.Proofs.Ytdpkmabojlihmaa.Sp.Rg.cells (d : Rg) : List Value := [.int .i64 d.a, .int .i64 d.b]
def _root_.Go.Proofs.Ytdpkmabojlihmaa.Sp.Rg.wfR (d : Rg) : Prop := i64in d.a ∧ i64in d.b
/-- a range's box -/
def StandsR (w : World) (g : Nat) (s : Rg) : Prop := g < w.heap.size ∧ w.cell? ⟨g, 0, none⟩ = some (.int .i64 s.a) ∧ w.cell? ⟨g, 1, none⟩ = some (.int .i64 s.b) ∧ w.frozen? ⟨g, 0, none⟩ = false ∧ w.frozen? ⟨g, 1, none⟩ = false
theorem StandsR.below {w w' : World} {g : Nat} {s : Rg} (h : StandsR w g s) (hb : Below w.heap.size w w') : StandsR w' g s := by
  obtain ⟨h1, h2, h3, h5, h6⟩ := h
  exact ⟨Nat.lt_of_lt_of_le h1 hb.size, (hb.cell h1).trans h2, (hb.cell h1).trans h3, (hb.frozen h1).trans h5, (hb.frozen h1).trans h6⟩
theorem StandsR.alloc {w : World} {g : Nat} {s : Rg} (h : StandsR w g s) (o : Obj) : StandsR (w.alloc o) g s := h.below (balloc (Below.refl _ _) o)
theorem StandsR.new (w : World) (t : TypeId) (s : Rg) : StandsR (w.alloc (.cells #[.int .i64 s.a, .int .i64 s.b] t)) w.heap.size s := by
  obtain ⟨h1, h2⟩ := cell2 w t (.int .i64 s.a) (.int .i64 s.b)
  exact ⟨by simp, h1, h2, by rw [frozen?_alloc_cells]; simp [World.frozen?], by rw [frozen?_alloc_cells]; simp [World.frozen?]⟩
/-- the two stores of a dot -/
def put2R (w : World) (g : Nat) (s : Rg) : World := (w.setCell ⟨g, 0, none⟩ (.int .i64 s.a)).setCell ⟨g, 1, none⟩ (.int .i64 s.b)
theorem StandsR.put {w : World} {g : Nat} {m : Rg} (h : StandsR w g m) (s : Rg) : StandsR (put2R w g s) g s := by
  obtain ⟨h1, h2, h3, h5, h6⟩ := h
  unfold put2R
  refine ⟨by simpa using h1, ?_, ?_, by simp only [setCell_frozen]; exact h5, by simp only [setCell_frozen]; exact h6⟩
  · rw [setCell_other _ _ _ _ _ _ (.inr (by omega)), World.cell?_setCell_same _ _ _ h2]
  · rw [World.cell?_setCell_same _ _ _ (u := .int .i64 m.b) (by rw [setCell_other _ _ _ _ _ _ (.inr (by omega))]; exact h3)]
theorem StandsR.put_other {w : World} {g g' : Nat} {m : Rg} (h : StandsR w g m) (s : Rg) (hne : g' ≠ g) : StandsR (put2R w g' s) g m := by
  obtain ⟨h1, h2, h3, h5, h6⟩ := h
  unfold put2R
  refine ⟨by simpa using h1, ?_, ?_, by simp only [setCell_frozen]; exact h5, by simp only [setCell_frozen]; exact h6⟩
  · rw [setCell_other _ _ _ _ _ _ (.inl hne), setCell_other _ _ _ _ _ _ (.inl hne)]; exact h2
  · rw [setCell_other _ _ _ _ _ _ (.inl hne), setCell_other _ _ _ _ _ _ (.inl hne)]; exact h3
theorem below_put2R {B : Nat} {a w : World} (h : Below B a w) {g : Nat} (hg : B ≤ g) (s : Rg) : Below B a (put2R w g s) := (h.setCell hg _).setCell hg _
theorem eq2R (w : World) (a b : Rg) : (binOp .eql 24 a.v b.v).run Try.prog w = .ok (.bool (decide (a = b))) w := by
  unfold Rg.v
  rw [run_eql_struct]
  obtain ⟨p, l⟩ := a
  obtain ⟨p', l'⟩ := b
  go_simp
  by_cases h1 : p = p' <;> by_cases h2 : l = l' <;> simp [h1, h2]
theorem ne2R (w : World) (a b : Rg) : (binOp .neq 24 a.v b.v).run Try.prog w = .ok (.bool (!decide (a = b))) w := by
  unfold Rg.v
  rw [run_neq_struct]
  obtain ⟨p, l⟩ := a
  obtain ⟨p', l'⟩ := b
  go_simp
  by_cases h1 : p = p' <;> by_cases h2 : l = l' <;> simp [h1, h2]
/-! ### rows of ranges -/
def rv (ls : List Rg) : List Value := ls.flatMap Rg.cells
theorem rv_get : ∀ (ls : List Rg) (k j : Nat) (s : Rg), ls[k]? = some s → j < 2 → (rv ls)[k * 2 + j]? = s.cells[j]?
  | [], k, j, s, h, _ => by simp at h
  | x :: ls, 0, j, s, h, hj => by
    simp at h; subst h
    show (x.cells ++ rv ls)[0 * 2 + j]? = _
    rw [List.getElem?_append_left (by simp [Rg.cells]; omega)]; congr 1; omega
  | x :: ls, k + 1, j, s, h, hj => by
    show (x.cells ++ rv ls)[(k + 1) * 2 + j]? = _
    rw [List.getElem?_append_right (by simp [Rg.cells]; omega), show (k + 1) * 2 + j - x.cells.length = k * 2 + j by simp [Rg.cells]; omega]
    exact rv_get ls k j s (by simpa using h) hj
theorem rv_len (ls : List Rg) : (rv ls).length = ls.length * 2 := by
  induction ls with
  | nil => rfl
  | cons x t ih => simp [rv, Rg.cells] at *; omega
theorem rv_append (a b : List Rg) : rv (a ++ b) = rv a ++ rv b := by simp [rv]
theorem rv_take (ls : List Rg) (k : Nat) : (rv ls).take (k * 2) = rv (ls.take k) := by
  induction ls generalizing k with
  | nil => simp [rv]
  | cons x t ih =>
    cases k with
    | zero => simp [rv]
    | succ k =>
      show (x.cells ++ rv t).take ((k + 1) * 2) = x.cells ++ rv (t.take k)
      rw [← ih k, show (k + 1) * 2 = x.cells.length + k * 2 by simp [Rg.cells]; omega, List.take_length_add_append]
theorem rgAt {w : World} {B : Nat} {A : Option Addr} {ls : List Rg} (h : Sl w B A (rv ls)) {k : Nat} (hk : k < ls.length) :
    ∃ b o, A = some ⟨b, o, none⟩ ∧ b < B ∧ b < w.heap.size ∧ w.cell? ⟨b, o + k * 2, none⟩ = some (.int .i64 (ls[k]?.getD ⟨0, 0⟩).a) ∧ w.cell? ⟨b, o + k * 2 + 1, none⟩ = some (.int .i64 (ls[k]?.getD ⟨0, 0⟩).b) := by
  obtain ⟨b, o, e, h1, h2, hc⟩ := h.at_ (k := k * 2) (by rw [rv_len]; omega)
  have hs : ls[k]? = some (ls[k]'hk) := List.getElem?_eq_getElem hk
  rw [hs]
  exact ⟨b, o, e, h1, h2, hc (k * 2 + 0) _ (rv_get ls k 0 _ hs (by omega)), hc (k * 2 + 1) _ (rv_get ls k 1 _ hs (by omega))⟩
end Go.Proofs.Ytdpkmabojlihmaa

