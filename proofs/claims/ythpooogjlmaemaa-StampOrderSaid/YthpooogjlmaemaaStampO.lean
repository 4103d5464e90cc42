/- Stamps: plain facts of their order, and the cells of four of them. -/
import Derived.Test.YthpooogjlmaemaaStampK
import Derived.Test.YthpooogjlmaemaaStampF
namespace Go.Proofs.Ythpooogjlmaemaa
open Go.RowKit

theorem lt_irr (s : S3) : s.lt s = false := by unfold S3.lt; simp
theorem lt_asym (s t : S3) (h : s.lt t = true) : t.lt s = false := by
  unfold S3.lt at *
  simp only [decide_eq_true_eq, decide_eq_false_iff_not] at *
  omega
theorem lt_or (s t : S3) (h : s.lt t = false) (h' : t.lt s = false) : s = t := by
  obtain ⟨p, l, r⟩ := s
  obtain ⟨p', l', r'⟩ := t
  unfold S3.lt at *
  simp only [decide_eq_false_iff_not] at *
  have h1 : p = p' := by omega
  have h2 : l = l' := by omega
  have h3 : r = r' := by omega
  rw [h1, h2, h3]
theorem lt_tr (s t u : S3) (h : s.lt t = true) (h' : t.lt u = true) : s.lt u = true := by
  unfold S3.lt at *
  simp only [decide_eq_true_eq] at *
  omega
theorem order_cells {w6 : World} {B gL : Nat} {xs : Array Value} (h : Sl w6 B (some ⟨gL, 0, none⟩) xs.toList) {x0 x1 x2 x3 : S3} (hx : xs = #[.int .i64 x0.p, .int .i64 x0.l, .int .i64 x0.r, .int .i64 x1.p, .int .i64 x1.l, .int .i64 x1.r, .int .i64 x2.p, .int .i64 x2.l, .int .i64 x2.r, .int .i64 x3.p, .int .i64 x3.l, .int .i64 x3.r]) :
    ∃ X : Nat → S3, ∀ W, Below w6.heap.size w6 W → ∀ k, k < 4 → W.cell? ⟨gL, k * 3, none⟩ = some (.int .i64 (X k).p) ∧ W.cell? ⟨gL, k * 3 + 1, none⟩ = some (.int .i64 (X k).l) ∧ W.cell? ⟨gL, k * 3 + 2, none⟩ = some (.int .i64 (X k).r) := by
  subst hx
  obtain ⟨b, o, e, _, hbW, hc⟩ := h.at_ (k := 0) (by simp)
  cases e
  refine ⟨fun k => match k with | 0 => x0 | 1 => x1 | 2 => x2 | _ => x3, fun W hW k hk => ?_⟩
  have g := fun j u hu => (hW.cell (p := ⟨gL, 0 + j, none⟩) hbW).trans (hc j u hu)
  simp only [Nat.zero_add] at g
  match k, hk with
  | 0, _ => exact ⟨g 0 _ rfl, g 1 _ rfl, g 2 _ rfl⟩
  | 1, _ => exact ⟨g 3 _ rfl, g 4 _ rfl, g 5 _ rfl⟩
  | 2, _ => exact ⟨g 6 _ rfl, g 7 _ rfl, g 8 _ rfl⟩
  | 3, _ => exact ⟨g 9 _ rfl, g 10 _ rfl, g 11 _ rfl⟩
end Go.Proofs.Ythpooogjlmaemaa

