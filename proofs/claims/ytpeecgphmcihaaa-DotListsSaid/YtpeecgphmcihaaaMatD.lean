/- Slices of slices of dots. -/
import Derived.Test.YtpeecgphmcihaaaD2
namespace Go.Proofs.Ytpeecgphmcihaaa
open Go.RowKit Go.Proofs.Ytpeecgphmcihaaa.Dt

def SlcD (w : World) (x : Value) (l : List D2) : Prop := ∃ A c, x = .slice A l.length c ∧ Sl w w.heap.size A (dv l) ∧ l.length ≤ c ∧ c ≤ maxLen
theorem SlcD.below {w w' : World} {x : Value} {l : List D2} (h : SlcD w x l) (hb : Below w.heap.size w w') : SlcD w' x l := by
  obtain ⟨A, c, e, h1, h2, h3⟩ := h
  exact ⟨A, c, e, (h1.below hb).more hb.size, h2, h3⟩
/-- a slice whose elements are slices of dots -/
def MatD (w : World) (A : Option Addr) (ls : List (List D2)) : Prop := ∃ vs : List Value, Sl w w.heap.size A vs ∧ vs.length = ls.length ∧ ∀ (i : Nat) (v : Value), vs[i]? = some v → SlcD w v (ls[i]?.getD [])
theorem MatD.below {w w' : World} {A : Option Addr} {ls : List (List D2)} (h : MatD w A ls) (hb : Below w.heap.size w w') : MatD w' A ls := by
  obtain ⟨vs, h1, h2, h3⟩ := h
  exact ⟨vs, (h1.below hb).more hb.size, h2, fun i v hv => (h3 i v hv).below hb⟩
theorem MatD.drew {w : World} {A : Option Addr} {ls : List (List D2)} (h : MatD w A ls) : MatD w.drew A ls := h.below (Below.refl _ _).drew
theorem MatD.nil (w : World) (A : Option Addr) : MatD w A [] := ⟨[], Sl.nil, rfl, fun i v h => by simp at h⟩
theorem SlcD.alloc {w : World} {x : Value} {l : List D2} (h : SlcD w x l) (o : Obj) : SlcD (w.alloc o) x l := h.below ((Below.refl _ _).alloc (Nat.le_refl _) o)
theorem SlcD.drew {w : World} {x : Value} {l : List D2} (h : SlcD w x l) : SlcD w.drew x l := h
theorem MatD.one (w : World) (t : TypeId) (v : Value) (l : List D2) (h : SlcD w v l) : MatD (w.alloc (.cells #[v] t)) (some ⟨w.heap.size, 0, none⟩) [l] := by
  refine ⟨[v], by simpa using Sl.new w t #[v] (0, 0), rfl, fun i u hu => ?_⟩
  match i, hu with
  | 0, hu => simp at hu; subst hu; exact h.alloc _
  | i + 1, hu => simp at hu
theorem MatD.row (w : World) (t : TypeId) (vs : Array Value) (ls : List (List D2)) (hl : vs.toList.length = ls.length) (h : ∀ (i : Nat) (v : Value), vs.toList[i]? = some v → SlcD w v (ls[i]?.getD [])) : MatD (w.alloc (.cells vs t)) (some ⟨w.heap.size, 0, none⟩) ls :=
  ⟨vs.toList, by simpa using Sl.new w t vs (0, 0), hl, fun i v hv => (h i v hv).alloc _⟩
theorem MatD.two (w : World) (t : TypeId) (v1 v2 : Value) (l1 l2 : List D2) (h1 : SlcD w v1 l1) (h2 : SlcD w v2 l2) : MatD (w.alloc (.cells #[v1, v2] t)) (some ⟨w.heap.size, 0, none⟩) [l1, l2] := by
  refine MatD.row w t #[v1, v2] [l1, l2] rfl fun i v hv => ?_
  match i, hv with
  | 0, hv => simp at hv; subst hv; exact h1
  | 1, hv => simp at hv; subst hv; exact h2
  | i + 2, hv => simp at hv
theorem MatD.three (w : World) (t : TypeId) (v1 v2 v3 : Value) (l1 l2 l3 : List D2) (h1 : SlcD w v1 l1) (h2 : SlcD w v2 l2) (h3 : SlcD w v3 l3) : MatD (w.alloc (.cells #[v1, v2, v3] t)) (some ⟨w.heap.size, 0, none⟩) [l1, l2, l3] := by
  refine MatD.row w t #[v1, v2, v3] [l1, l2, l3] rfl fun i v hv => ?_
  match i, hv with
  | 0, hv => simp at hv; subst hv; exact h1
  | 1, hv => simp at hv; subst hv; exact h2
  | 2, hv => simp at hv; subst hv; exact h3
  | i + 3, hv => simp at hv
theorem MatD.four (w : World) (t : TypeId) (v1 v2 v3 v4 : Value) (l1 l2 l3 l4 : List D2) (h1 : SlcD w v1 l1) (h2 : SlcD w v2 l2) (h3 : SlcD w v3 l3) (h4 : SlcD w v4 l4) : MatD (w.alloc (.cells #[v1, v2, v3, v4] t)) (some ⟨w.heap.size, 0, none⟩) [l1, l2, l3, l4] := by
  refine MatD.row w t #[v1, v2, v3, v4] [l1, l2, l3, l4] rfl fun i v hv => ?_
  match i, hv with
  | 0, hv => simp at hv; subst hv; exact h1
  | 1, hv => simp at hv; subst hv; exact h2
  | 2, hv => simp at hv; subst hv; exact h3
  | 3, hv => simp at hv; subst hv; exact h4
  | i + 4, hv => simp at hv
theorem MatD.at_ {w : World} {A : Option Addr} {ls : List (List D2)} (h : MatD w A ls) {k : Nat} (hk : k < ls.length) :
    ∃ b o A' c', A = some ⟨b, o, none⟩ ∧ b < w.heap.size ∧ w.cell? ⟨b, o + k, none⟩ = some (.slice A' (ls[k]?.getD []).length c') ∧ Sl w w.heap.size A' (dv (ls[k]?.getD [])) ∧ (ls[k]?.getD []).length ≤ c' ∧ c' ≤ maxLen := by
  obtain ⟨vs, h1, h2, h3⟩ := h
  obtain ⟨b, o, e, hb, _, hc⟩ := h1.at_ (k := k) (by omega)
  have hv : vs[k]? = some (vs[k]'(by omega)) := List.getElem?_eq_getElem (by omega)
  obtain ⟨A', c', e', g1, g2, g3⟩ := h3 k _ hv
  exact ⟨b, o, A', c', e, hb, by rw [hc k _ hv, e'], g1, g2, g3⟩

end Go.Proofs.Ytpeecgphmcihaaa

