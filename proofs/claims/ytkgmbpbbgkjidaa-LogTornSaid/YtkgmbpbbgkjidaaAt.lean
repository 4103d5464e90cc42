/- A block whose cells are known, one by one. -/
import Derived.Test.YtkgmbpbbgkjidaaReg
namespace Go.Proofs.Ytkgmbpbbgkjidaa
open Go.RowKit

def At (w : World) (g : Nat) (vs : List Value) : Prop := g < w.heap.size ∧ ∀ i v, vs[i]? = some v → w.cell? ⟨g, i, none⟩ = some v ∧ w.frozen? ⟨g, i, none⟩ = false
section
variable {w w' : World} {g g' : Nat} {vs us : List Value}
theorem At.lt (h : At w g vs) : g < w.heap.size := h.1
theorem At.c (h : At w g vs) (i : Nat) {v : Value} (hv : vs[i]? = some v) : w.cell? ⟨g, i, none⟩ = some v := (h.2 i v hv).1
theorem At.f (h : At w g vs) (i : Nat) {v : Value} (hv : vs[i]? = some v) : w.frozen? ⟨g, i, none⟩ = false := (h.2 i v hv).2
theorem At.e (h : At w g vs) (i : Nat) {v : Value} (hv : vs[i]? = some v) : ∀ W, KB w.heap W → W.cell? ⟨g, i, none⟩ = some v := cellB (h.c i hv)
theorem At.belowB {B : Nat} (h : At w g vs) (hg : g < B) (hb : Below B w w') (hs : w.heap.size ≤ w'.heap.size) : At w' g vs :=
  ⟨Nat.lt_of_lt_of_le h.1 hs, fun i _v hv => ⟨(hb.cell hg).trans (h.c i hv), (hb.frozen hg).trans (h.f i hv)⟩⟩
theorem At.below (h : At w g vs) (hb : Below w.heap.size w w') : At w' g vs := h.belowB h.1 hb hb.size
theorem At.drew (h : At w g vs) : At w.drew g vs := h
theorem At.alloc (h : At w g vs) (o : Obj) : At (w.alloc o) g vs := h.below (balloc (Below.refl _ _) o)
theorem At.new (w : World) (t : TypeId) (cs : Array Value) : At (w.alloc (.cells cs t)) w.heap.size cs.toList := by
  refine ⟨by simp, fun i v hv => ?_⟩
  obtain ⟨b, o, e, _, _, h⟩ := (Sl.new w t cs (0, 0)).at_ (k := i) (List.getElem?_eq_some_iff.1 hv).1
  cases e
  have := h i v hv
  rw [Nat.zero_add] at this
  exact ⟨this, by rw [frozen?_alloc_cells]; simp [World.frozen?]⟩
theorem At.set_other (h : At w g vs) (o : Nat) (v : Value) (hne : g' ≠ g) : At (w.setCell ⟨g', o, none⟩ v) g vs := by
  refine ⟨by simpa using h.1, fun i u hu => ⟨?_, ?_⟩⟩
  · rw [World.cell?_setCell_other _ _ _ _ (by intro e; injection e with e1 _; exact hne e1)]
    exact h.c i hu
  · have : (w.setCell ⟨g', o, none⟩ v).frozen? ⟨g, i, none⟩ = w.frozen? ⟨g, i, none⟩ := World.frozen?_setCells g' [v] o w _
    rw [this]; exact h.f i hu
theorem At.set (h : At w g vs) (o : Nat) (v : Value) (ho : o < vs.length) : At (w.setCell ⟨g, o, none⟩ v) g (vs.set o v) := by
  have hf : ∀ x, (w.setCell ⟨g, o, none⟩ v).frozen? x = w.frozen? x := fun x => World.frozen?_setCells g [v] o w x
  refine ⟨by simpa using h.1, fun i u hu => ?_⟩
  by_cases hi : o = i
  · subst hi
    rw [List.getElem?_set_self ho] at hu
    cases hu
    refine ⟨World.cell?_setCell_same _ _ _ (h.c o (List.getElem?_eq_getElem ho)), ?_⟩
    rw [hf]; exact h.f o (List.getElem?_eq_getElem ho)
  · rw [List.getElem?_set_ne hi] at hu
    refine ⟨?_, by rw [hf]; exact h.f i hu⟩
    rw [World.cell?_setCell_other _ _ _ _ (by intro e; injection e with _ e2; exact hi e2)]
    exact h.c i hu
/-- cells stored one behind another -/
def putL (w : World) (g : Nat) : Nat → List Value → World
  | _, [] => w
  | i, v :: vs => putL (w.setCell ⟨g, i, none⟩ v) g (i + 1) vs
theorem At.putL_other : ∀ (us : List Value) (o : Nat) (w : World), At w g vs → g' ≠ g → At (putL w g' o us) g vs
  | [], _, _, h, _ => h
  | u :: us, o, _w, h, hne => At.putL_other us (o + 1) _ (h.set_other o u hne) hne
theorem At.putL_at : ∀ (us pre : List Value) (w : World) (rest : List Value), At w g (pre ++ rest) → us.length = rest.length → At (putL w g pre.length us) g (pre ++ us)
  | [], pre, w, rest, h, hl => by
    have : rest = [] := List.eq_nil_of_length_eq_zero (by simpa using hl.symm)
    subst this
    exact h
  | u :: us, pre, w, [], h, hl => by simp at hl
  | u :: us, pre, w, r :: rest, h, hl => by
    have h1 := h.set pre.length u (by simp)
    rw [List.set_append, if_neg (by omega), Nat.sub_self, List.set_cons_zero] at h1
    have h2 := At.putL_at us (pre ++ [u]) (w.setCell ⟨g, pre.length, none⟩ u) rest (by simpa using h1) (by simpa using hl)
    simpa [putL] using h2
theorem At.putL (h : At w g vs) (us : List Value) (hl : us.length = vs.length) : At (putL w g 0 us) g us := by
  simpa using At.putL_at us [] w vs h hl
theorem At.grown (h : At w g vs) {row : Option Nat} (hg : w.grownBy w' row) (hne : row ≠ some g) : At w' g vs := by
  have hb := hg.block g h.1 (fun e => hne e.symm)
  exact ⟨Nat.lt_of_lt_of_le h.1 hg.size, fun i v hv => ⟨(World.cell?_of_block (w := w) hb).trans (h.c i hv), (World.frozen?_of_block (w := w) hb).trans (h.f i hv)⟩⟩
end
theorem below_putL : ∀ (us : List Value) (o : Nat) {B : Nat} {a w : World} (_ : Below B a w) {g : Nat} (_ : B ≤ g), Below B a (putL w g o us)
  | [], _, _, _, _, h, _, _ => h
  | u :: us, o, _, _, _, h, _, hg => below_putL us (o + 1) (h.setCell hg u) hg
theorem putL_size : ∀ (us : List Value) (o : Nat) (w : World) (g : Nat), (putL w g o us).heap.size = w.heap.size
  | [], _, _, _ => rfl
  | u :: us, o, w, g => by simp [putL, putL_size us]
theorem grown_putL : ∀ (us : List Value) (o : Nat) {w w' : World} {g : Nat} (_ : w.grownBy w' (some g)) {g' : Nat} (_ : g' = g ∨ w.heap.size ≤ g'), w.grownBy (putL w' g' o us) (some g)
  | [], _, _, _, _, h, _, _ => h
  | u :: us, o, w, w', g, h, g', hg => by
    refine grown_putL us (o + 1) (w' := w'.setCell ⟨g', o, none⟩ u) ?_ hg
    refine ⟨h.os, h.tape, h.output, by simpa using h.size, fun k hk hne => ?_⟩
    have hk' : k ≠ g' := by
      rcases hg with rfl | hg
      · intro e; exact hne (by rw [e])
      · omega
    rw [Below.heap_setCell _ _ _ _ hk']
    exact h.block k hk hne
theorem At.newB {B : Nat} {a W : World} (_ : Below B a W) (t : TypeId) (cs : Array Value) : At (W.alloc (.cells cs t)) W.heap.size cs.toList := At.new W t cs
theorem At.sl {w : World} {g : Nat} {vs : List Value} (h : At w g vs) : Sl w w.heap.size (some ⟨g, 0, none⟩) vs := by
  refine .inr ⟨g, 0, rfl, h.1, h.1, fun j u hu => ?_⟩
  rw [Nat.zero_add]
  exact h.c j hu
theorem At.slb {w : World} {g : Nat} {vs : List Value} (h : At w g vs) {l : List UInt8} (hl : vs = bv l) : Sl w w.heap.size (some ⟨g, 0, none⟩) (bv l) := hl ▸ h.sl
theorem own_above {w : World} {base g : Nat} {v : Value} {l : List UInt8} (h : OwnB w base v l) (hlt : g < base) : v.ownBlock ≠ some g := by
  intro e
  have := (h.lt _ e).1
  omega
theorem own_ne {w : World} {base : Nat} {v : Value} {l : List UInt8} (h : OwnB w base v l) : v.ownBlock ≠ some w.heap.size := by
  intro e
  have := (h.lt _ e).2
  omega
end Go.Proofs.Ytkgmbpbbgkjidaa

