/- Stamps as values, and as cells of memory. -/
import Derived.Test.YthnbnhlfiehihaaPar
import Derived.Laws.StructEq
namespace Go.Proofs.Ythnbnhlfiehihaa
open Go.RowKit

/-- a stamp, whatever is in it -/
structure S3 where
  p : Int
  l : Int
  r : Int
deriving DecidableEq
def S3.v (s : S3) : Value := .agg #[.int .i64 s.p, .int .i64 s.l, .int .i64 s.r]
def i64ok (a : Int) : Prop := -9223372036854775808 ≤ a ∧ a ≤ 9223372036854775807
def S3.ok (s : S3) : Prop := i64ok s.p ∧ i64ok s.l ∧ i64ok s.r
def S3.right (s : S3) : Bool := decide (0 ≤ s.p ∧ s.p ≤ 281474976710655 ∧ 0 ≤ s.l ∧ s.l ≤ 65535 ∧ 0 ≤ s.r ∧ s.r < 64)
def S3.lt (a b : S3) : Bool := decide (a.p < b.p ∨ a.p = b.p ∧ (a.l < b.l ∨ a.l = b.l ∧ a.r < b.r))
def cmp3 (a b : Int) : Int := if a < b then -1 else if b < a then 1 else 0
def or3 (a b c : Int) : Int := if a ≠ 0 then a else if b ≠ 0 then b else c
theorem ret_b {a b : Bool} (h : a = b) : Ending.returned (.bool a) = .returned (.bool b) := by rw [h]
theorem ret_i {k : IntKind} {a b : Int} (h : a = b) : Ending.returned (.int k a) = .returned (.int k b) := by rw [h]
theorem or_cmp (a b : S3) : decide (or3 (cmp3 a.p b.p) (cmp3 a.l b.l) (cmp3 a.r b.r) < 0) = a.lt b := by
  unfold or3 cmp3 S3.lt
  rw [decide_eq_decide]
  (repeat' split) <;> omega
theorem cell3 (w : World) (t : TypeId) (a b c : Value) : (w.alloc (.cells #[a, b, c] t)).cell? ⟨w.heap.size, 0, none⟩ = some a ∧ (w.alloc (.cells #[a, b, c] t)).cell? ⟨w.heap.size, 1, none⟩ = some b ∧ (w.alloc (.cells #[a, b, c] t)).cell? ⟨w.heap.size, 2, none⟩ = some c := by
  obtain ⟨b', o, e, _, _, h⟩ := (Sl.new w t #[a, b, c] (0, 0)).at_ (k := 0) (by simp)
  cases e
  exact ⟨h 0 a rfl, h 1 b rfl, h 2 c rfl⟩
def Stands (w : World) (g : Nat) (s : S3) : Prop := g < w.heap.size ∧ w.cell? ⟨g, 0, none⟩ = some (.int .i64 s.p) ∧ w.cell? ⟨g, 1, none⟩ = some (.int .i64 s.l) ∧ w.cell? ⟨g, 2, none⟩ = some (.int .i64 s.r) ∧ w.frozen? ⟨g, 0, none⟩ = false ∧ w.frozen? ⟨g, 1, none⟩ = false ∧ w.frozen? ⟨g, 2, none⟩ = false
theorem Stands.below {w w' : World} {g : Nat} {s : S3} (h : Stands w g s) (hb : Below w.heap.size w w') : Stands w' g s := by
  obtain ⟨h1, h2, h3, h4, h5, h6, h7⟩ := h
  exact ⟨Nat.lt_of_lt_of_le h1 hb.size, (hb.cell h1).trans h2, (hb.cell h1).trans h3, (hb.cell h1).trans h4, (hb.frozen h1).trans h5, (hb.frozen h1).trans h6, (hb.frozen h1).trans h7⟩
theorem Stands.alloc {w : World} {g : Nat} {s : S3} (h : Stands w g s) (o : Obj) : Stands (w.alloc o) g s := h.below (balloc (Below.refl _ _) o)
theorem Stands.new (w : World) (t : TypeId) (s : S3) : Stands (w.alloc (.cells #[.int .i64 s.p, .int .i64 s.l, .int .i64 s.r] t)) w.heap.size s := by
  obtain ⟨h1, h2, h3⟩ := cell3 w t (.int .i64 s.p) (.int .i64 s.l) (.int .i64 s.r)
  exact ⟨by simp, h1, h2, h3, by rw [frozen?_alloc_cells]; simp [World.frozen?], by rw [frozen?_alloc_cells]; simp [World.frozen?], by rw [frozen?_alloc_cells]; simp [World.frozen?]⟩
/-- the three stores of a stamp -/
def put3 (w : World) (g : Nat) (s : S3) : World := ((w.setCell ⟨g, 0, none⟩ (.int .i64 s.p)).setCell ⟨g, 1, none⟩ (.int .i64 s.l)).setCell ⟨g, 2, none⟩ (.int .i64 s.r)
theorem setCell_other (w : World) (g g' o o' : Nat) (v : Value) (h : g ≠ g' ∨ o ≠ o') : (w.setCell ⟨g, o, none⟩ v).cell? ⟨g', o', none⟩ = w.cell? ⟨g', o', none⟩ := World.cell?_setCell_other _ _ _ _ (by
  intro e
  injection e with e1 e2
  rcases h with h | h
  · exact h e1
  · exact h e2)
theorem setCell_frozen (w : World) (g o : Nat) (v : Value) (x : Addr) : (w.setCell ⟨g, o, none⟩ v).frozen? x = w.frozen? x := by
  exact World.frozen?_setCells g [v] o w x
theorem Stands.put {w : World} {g : Nat} {m : S3} (h : Stands w g m) (s : S3) : Stands (put3 w g s) g s := by
  obtain ⟨h1, h2, h3, h4, h5, h6, h7⟩ := h
  unfold put3
  refine ⟨by simpa using h1, ?_, ?_, ?_, by simp only [setCell_frozen]; exact h5, by simp only [setCell_frozen]; exact h6, by simp only [setCell_frozen]; exact h7⟩
  · rw [setCell_other _ _ _ _ _ _ (.inr (by omega)), setCell_other _ _ _ _ _ _ (.inr (by omega)), World.cell?_setCell_same _ _ _ h2]
  · rw [setCell_other _ _ _ _ _ _ (.inr (by omega)), World.cell?_setCell_same _ _ _ (u := .int .i64 m.l) (by rw [setCell_other _ _ _ _ _ _ (.inr (by omega))]; exact h3)]
  · rw [World.cell?_setCell_same _ _ _ (u := .int .i64 m.r) (by rw [setCell_other _ _ _ _ _ _ (.inr (by omega)), setCell_other _ _ _ _ _ _ (.inr (by omega))]; exact h4)]
theorem Stands.put_other {w : World} {g g' : Nat} {m : S3} (h : Stands w g m) (s : S3) (hne : g' ≠ g) : Stands (put3 w g' s) g m := by
  obtain ⟨h1, h2, h3, h4, h5, h6, h7⟩ := h
  unfold put3
  refine ⟨by simpa using h1, ?_, ?_, ?_, by simp only [setCell_frozen]; exact h5, by simp only [setCell_frozen]; exact h6, by simp only [setCell_frozen]; exact h7⟩
  · rw [setCell_other _ _ _ _ _ _ (.inl hne), setCell_other _ _ _ _ _ _ (.inl hne), setCell_other _ _ _ _ _ _ (.inl hne)]; exact h2
  · rw [setCell_other _ _ _ _ _ _ (.inl hne), setCell_other _ _ _ _ _ _ (.inl hne), setCell_other _ _ _ _ _ _ (.inl hne)]; exact h3
  · rw [setCell_other _ _ _ _ _ _ (.inl hne), setCell_other _ _ _ _ _ _ (.inl hne), setCell_other _ _ _ _ _ _ (.inl hne)]; exact h4
theorem below_put3 {B : Nat} {a w : World} (h : Below B a w) {g : Nat} (hg : B ≤ g) (s : S3) : Below B a (put3 w g s) := ((h.setCell hg _).setCell hg _).setCell hg _
theorem grown_of_below {w w' : World} (h : Below w.heap.size w w') (row : Option Nat) : w.grownBy w' row := ⟨h.os, h.tape, h.output, h.size, fun k hk _ => h.block k hk⟩
theorem grown_put3 {w w' : World} {g : Nat} (h : w.grownBy w' (some g)) {g' : Nat} (hg : g' = g ∨ w.heap.size ≤ g') (s : S3) : w.grownBy (put3 w' g' s) (some g) := by
  unfold put3
  refine ⟨h.os, h.tape, h.output, by simpa using h.size, fun k hk hne => ?_⟩
  have hk' : k ≠ g' := by
    rcases hg with rfl | hg
    · intro e; exact hne (by rw [e])
    · omega
  rw [Below.heap_setCell _ _ _ _ hk', Below.heap_setCell _ _ _ _ hk', Below.heap_setCell _ _ _ _ hk']
  exact h.block k hk hne
theorem Stands.grown {w w' : World} {g g' : Nat} {s : S3} (h : Stands w g s) (hg : w.grownBy w' (some g')) (hne : g ≠ g') : Stands w' g s := by
  obtain ⟨h1, h2, h3, h4, h5, h6, h7⟩ := h
  have hb := hg.block g h1 (fun e => hne (by injection e))
  have hc : ∀ o, w'.cell? ⟨g, o, none⟩ = w.cell? ⟨g, o, none⟩ := fun o => World.cell?_of_block (w := w) hb
  have hf : ∀ o, w'.frozen? ⟨g, o, none⟩ = w.frozen? ⟨g, o, none⟩ := fun o => World.frozen?_of_block (w := w) hb
  exact ⟨Nat.lt_of_lt_of_le h1 hg.size, (hc 0).trans h2, (hc 1).trans h3, (hc 2).trans h4, (hf 0).trans h5, (hf 1).trans h6, (hf 2).trans h7⟩
theorem below_grown {w a b : World} {g B : Nat} (h : Below B w a) (hg : a.grownBy b (some g)) (hB : B ≤ g) (hs : B ≤ a.heap.size) : Below B w b :=
  h.trans (below_of_grown hg (fun k e => by cases e; exact hB) hs)
end Go.Proofs.Ythnbnhlfiehihaa

