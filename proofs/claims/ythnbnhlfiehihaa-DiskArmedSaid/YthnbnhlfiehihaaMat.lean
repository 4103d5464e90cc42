/- Slices of slices of bytes; bytes.Clone. -/
import Derived.Test.YthnbnhlfiehihaaMem
namespace Go.Proofs.Ythnbnhlfiehihaa
open Go.RowKit

/-- a slice whose elements are slices of bytes -/
def Mat (w : World) (A : Option Addr) (ls : List (List UInt8)) : Prop := ∃ vs : List Value, Sl w w.heap.size A vs ∧ vs.length = ls.length ∧ ∀ (i : Nat) (v : Value), vs[i]? = some v → SlcIs w v (ls[i]?.getD [])
theorem Mat.below {w w' : World} {A : Option Addr} {ls : List (List UInt8)} (h : Mat w A ls) (hb : Below w.heap.size w w') : Mat w' A ls := by
  obtain ⟨vs, h1, h2, h3⟩ := h
  exact ⟨vs, (h1.below hb).more hb.size, h2, fun i v hv => (h3 i v hv).below hb⟩
theorem Mat.drew {w : World} {A : Option Addr} {ls : List (List UInt8)} (h : Mat w A ls) : Mat w.drew A ls := h.below (Below.refl _ _).drew
theorem Mat.nil (w : World) (A : Option Addr) : Mat w A [] := ⟨[], Sl.nil, rfl, fun i v h => by simp at h⟩
theorem SlcIs.alloc {w : World} {x : Value} {l : List UInt8} (h : SlcIs w x l) (o : Obj) : SlcIs (w.alloc o) x l := h.below ((Below.refl _ _).alloc (Nat.le_refl _) o)
theorem SlcIs.drew {w : World} {x : Value} {l : List UInt8} (h : SlcIs w x l) : SlcIs w.drew x l := h
theorem Mat.one (w : World) (t : TypeId) (v : Value) (l : List UInt8) (h : SlcIs w v l) : Mat (w.alloc (.cells #[v] t)) (some ⟨w.heap.size, 0, none⟩) [l] := by
  refine ⟨[v], by simpa using Sl.new w t #[v] (0, 0), rfl, fun i u hu => ?_⟩
  match i, hu with
  | 0, hu => simp at hu; subst hu; exact h.alloc _
  | i + 1, hu => simp at hu
theorem Mat.row (w : World) (t : TypeId) (vs : Array Value) (ls : List (List UInt8)) (hl : vs.toList.length = ls.length) (h : ∀ (i : Nat) (v : Value), vs.toList[i]? = some v → SlcIs w v (ls[i]?.getD [])) : Mat (w.alloc (.cells vs t)) (some ⟨w.heap.size, 0, none⟩) ls :=
  ⟨vs.toList, by simpa using Sl.new w t vs (0, 0), hl, fun i v hv => (h i v hv).alloc _⟩
theorem Mat.two (w : World) (t : TypeId) (v1 v2 : Value) (l1 l2 : List UInt8) (h1 : SlcIs w v1 l1) (h2 : SlcIs w v2 l2) : Mat (w.alloc (.cells #[v1, v2] t)) (some ⟨w.heap.size, 0, none⟩) [l1, l2] := by
  refine Mat.row w t #[v1, v2] [l1, l2] rfl fun i v hv => ?_
  match i, hv with
  | 0, hv => simp at hv; subst hv; exact h1
  | 1, hv => simp at hv; subst hv; exact h2
  | i + 2, hv => simp at hv
theorem Mat.three (w : World) (t : TypeId) (v1 v2 v3 : Value) (l1 l2 l3 : List UInt8) (h1 : SlcIs w v1 l1) (h2 : SlcIs w v2 l2) (h3 : SlcIs w v3 l3) : Mat (w.alloc (.cells #[v1, v2, v3] t)) (some ⟨w.heap.size, 0, none⟩) [l1, l2, l3] := by
  refine Mat.row w t #[v1, v2, v3] [l1, l2, l3] rfl fun i v hv => ?_
  match i, hv with
  | 0, hv => simp at hv; subst hv; exact h1
  | 1, hv => simp at hv; subst hv; exact h2
  | 2, hv => simp at hv; subst hv; exact h3
  | i + 3, hv => simp at hv
theorem Mat.four (w : World) (t : TypeId) (v1 v2 v3 v4 : Value) (l1 l2 l3 l4 : List UInt8) (h1 : SlcIs w v1 l1) (h2 : SlcIs w v2 l2) (h3 : SlcIs w v3 l3) (h4 : SlcIs w v4 l4) : Mat (w.alloc (.cells #[v1, v2, v3, v4] t)) (some ⟨w.heap.size, 0, none⟩) [l1, l2, l3, l4] := by
  refine Mat.row w t #[v1, v2, v3, v4] [l1, l2, l3, l4] rfl fun i v hv => ?_
  match i, hv with
  | 0, hv => simp at hv; subst hv; exact h1
  | 1, hv => simp at hv; subst hv; exact h2
  | 2, hv => simp at hv; subst hv; exact h3
  | 3, hv => simp at hv; subst hv; exact h4
  | i + 4, hv => simp at hv
theorem SlcIs.mark (w : World) (l : List UInt8) (cs : Array Value) (n : Nat) (fr : Nat × Nat) (hn : n = l.length) (hcs : cs.toList = bv l) (hm : l.length ≤ 1000) : SlcIs (w.alloc (.cells cs 5 fr)) (.slice (some ⟨w.heap.size, 0, none⟩) n n) l := by
  subst hn
  have := Sl.new w 5 cs fr
  rw [hcs] at this
  exact ⟨_, _, rfl, this.more (by simp), Nat.le_refl _, by simp only [maxLen]; omega⟩
theorem Mat.at_ {w : World} {A : Option Addr} {ls : List (List UInt8)} (h : Mat w A ls) {k : Nat} (hk : k < ls.length) :
    ∃ b o A' c', A = some ⟨b, o, none⟩ ∧ b < w.heap.size ∧ w.cell? ⟨b, o + k, none⟩ = some (.slice A' (ls[k]?.getD []).length c') ∧ Sl w w.heap.size A' (bv (ls[k]?.getD [])) ∧ (ls[k]?.getD []).length ≤ c' ∧ c' ≤ maxLen := by
  obtain ⟨vs, h1, h2, h3⟩ := h
  obtain ⟨b, o, e, hb, _, hc⟩ := h1.at_ (k := k) (by omega)
  have hv : vs[k]? = some (vs[k]'(by omega)) := List.getElem?_eq_getElem (by omega)
  obtain ⟨A', c', e', g1, g2, g3⟩ := h3 k _ hv
  exact ⟨b, o, A', c', e, hb, by rw [hc k _ hv, e'], g1, g2, g3⟩

set_option maxRecDepth 100000 in
set_option maxHeartbeats 800000 in
theorem Clone_any (w : World) (B : Nat) (A : Option Addr) (n c : Nat) (l : List UInt8) (hb : Sl w B A (bv l)) (h0 : n = l.length) (hl : l.length ≤ 140737488355328) :
    Calls Try.prog 32 #[.slice A n c] w (Fresh w l) := by
  subst h0
  rcases A with _ | ad
  · have hl0 : l = [] := by
      rcases hb with h | ⟨b, o, e, _⟩
      · simpa [bv] using h
      · cases e
    subst hl0
    have hnil := fun W => Lib.run_eql_slice_nil (P := Try.prog) W 22 5 none 0 c 0 0 Try.underlying22
    go_enter Try.func32, Try.ntmps32
    go_wp2_with fail
    go_ret
    exact ⟨none, 0, rfl, OwnB.nil _ _, Below.refl _ _⟩
  · have hnil := fun W => Lib.run_eql_slice_nil (P := Try.prog) W 22 5 (some ad) l.length c 0 0 Try.underlying22
    go_enter Try.func32, Try.ntmps32
    go_wp2_with (at_builtin; refine app rfl rfl (OwnB.lit w w.heap.size [] (Nat.le_refl _) (by simp [maxLen])) (hb.alloc _) rfl rfl rfl (by simpa using hl) (by simp) ?_; intro s2 w2 hown2 hg2 hat2)
    have hb2 : Below w.heap.size w w2 := own_below ((Below.refl _ _).alloc (Nat.le_refl _) _) (by simp) (OwnB.lit w w.heap.size [] (Nat.le_refl _) (by simp [maxLen])) hg2
    rw [List.nil_append] at hown2
    obtain ⟨A2, c2, rfl, _⟩ := hown2.form
    go_wp2_with fail
    go_ret
    exact ⟨A2, c2, rfl, hown2, hb2⟩
end Go.Proofs.Ythnbnhlfiehihaa

