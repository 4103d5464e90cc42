/- A region that draws its order, where nothing that is there is written: what only reads is taken as soon as it may come up; calls and new blocks come one behind another. -/
import Derived.Test.YtejligapkgnnnaaMem
import Derived.Deep.RegionHeld
namespace Go.Proofs.Ytejligapkgnnnaa
open Go.RowKit

/-- All that was there stands. -/
def KB (h : Array Obj) (W : World) : Prop := h.size ≤ W.heap.size ∧ ∀ k, k < h.size → W.heap[k]? = h[k]?
theorem KB.refl (w : World) : KB w.heap w := ⟨Nat.le_refl _, fun _ _ => rfl⟩
theorem KB.of {w W : World} (h : Below w.heap.size w W) : KB w.heap W := ⟨h.size, h.block⟩
theorem KB.ofN {w W : World} {_B : Nat} {row : Option Nat} (h : w.grownBy W row) (hr : ∀ g, row = some g → w.heap.size ≤ g) : KB w.heap W := ⟨h.size, fun k hk => h.block k hk (fun e => by have := hr k e.symm; omega)⟩
theorem KB.trans {h : Array Obj} {w W : World} (a : KB h w) (b : KB w.heap W) : KB h W := ⟨Nat.le_trans a.1 b.1, fun k hk => (b.2 k (Nat.lt_of_lt_of_le hk a.1)).trans (a.2 k hk)⟩
theorem KB.alloc (w : World) (o : Obj) : KB w.heap (w.alloc o) := ⟨by simp, fun k hk => Below.heap_alloc w o k hk⟩
theorem KB.cell {w W : World} (h : KB w.heap W) {p : Addr} (hp : p.block < w.heap.size) : W.cell? p = w.cell? p := World.cell?_of_block (w := w) (h.2 p.block hp)
theorem Sl.kb {w W : World} {B : Nat} {A : Option Addr} {xs : List Value} (h : Sl w B A xs) (k : KB w.heap W) : Sl W B A xs := h.keep k.1 fun _ _ hp => k.cell hp
theorem cellB {w : World} {p : Addr} {v : Value} (h : w.cell? p = some v) : ∀ W, KB w.heap W → W.cell? p = some v := fun _W hW => (hW.cell (World.block_lt_of_cell? w p h)).trans h
theorem convB {w : World} {B : Nat} {A : Option Addr} {l : List UInt8} (h : Sl w B A (bv l)) (n c : Nat) (hn : n = l.length) :
    ∀ W, KB w.heap W → (convert 35 9 (.slice A n c)).run Try.prog W = .ok (.string ⟨l.toArray⟩) W := fun _W hW => conv (h.kb hW) n c hn

def wpB (P : Program) (ops : Array Oper) (Q : Exit → Act → World → Prop) (h : Array Obj) (fuel : Nat) (listed : Array Bool) (a : Act) (w : World) : Prop := wpAnyH P .any ops Q (KB h) fuel listed a w
section
variable {P : Program} {ops : Array Oper} {Q : Exit → Act → World → Prop}
theorem wpAnyH_mono {md : Region.Mode} {S S' : World → Prop} (hs : ∀ w, S' w → S w) : ∀ (fuel : Nat) (listed : Array Bool) (a : Act) (w : World), wpAnyH P md ops Q S' fuel listed a w → wpAnyH P md ops Q S fuel listed a w
  | 0, _, _, _, h => h
  | fuel + 1, _, _, _, h => ⟨h.1, fun i hi => wpOp_mono (fun a' w' h' => ⟨hs _ h'.1, wpAnyH_mono hs fuel _ a' w' h'.2⟩) (h.2 i hi)⟩
theorem bstart {id : Nat} {a : Act} {w : World} (hm : P.follows .mixedOrders = true) (h : wpB P ops Q w.heap ops.size (Array.replicate ops.size false) a w.drew) : (Code.region id ops true).wp P Q a w := wp_region_held hm h
/-- The closed facts of a take, in one. -/
def okTake (ops : Array Oper) (listed : Array Bool) (i : Nat) : Bool := Region.noSelect ops && Region.free .any ops listed i && (Region.ready .any ops listed).contains i
theorem btake (i : Nat) {oi : Oper} {v : Value} {h : Array Obj} {fuel : Nat} {listed : Array Bool} {a : Act} {w : World} (hi : ops[i]? = some oi) (hok : okTake ops listed i = true)
    (hQ : ∀ c a w, Q (.panic c) (a.put oi.dst v) w → Q (.panic c) a w) (hS : KB h w)
    (hy : (Region.wanted oi (yielded ops a.tmps) = true ∧ ∀ W, KB h W → (execOp a.eval oi).run P W = .ok (.value v) W) ∨ (Region.wanted oi (yielded ops a.tmps) = false ∧ v = undef))
    (hr : wpB P ops Q h fuel (listed.setIfInBounds i true) (a.put oi.dst v) w) : wpB P ops Q h (fuel + 1) listed a w := by
  simp only [okTake, Bool.and_eq_true] at hok
  exact wpAnyH_take hi hok.1.1 hok.1.2 hok.2 hQ hy hS hr
def okOp (ops : Array Oper) (listed : Array Bool) (i : Nat) : Bool := Region.ready .any ops listed == [i]
theorem bop (i : Nat) {o : Oper} {h : Array Obj} {fuel : Nat} {listed : Array Bool} {a : Act} {w : World} (hi : ops[i]? = some o) (hok : okOp ops listed i = true) (hS : KB h w)
    (hw : Region.wanted o (yielded ops a.tmps) = true)
    (hr : ∀ K : Act → World → Prop, Shut (∀ a' w', KB w.heap w' → wpB P ops Q w'.heap fuel (listed.setIfInBounds i true) a' w' → K a' w') → o.wp P a w K Q) : wpB P ops Q h (fuel + 1) listed a w := by
  have hok' : Region.ready .any ops listed = [i] := by simpa [okOp] using hok
  refine wpAnyH_all hok' (by simp) fun j hj => ?_
  obtain rfl : j = i := by simpa using hj
  unfold wpOp
  simp only [hi, hw, if_true]
  exact .inl (hr _ (fun a' w' hk hb => ⟨hS.trans hk, wpAnyH_mono (fun W hW => (hS.trans hk).trans hW) _ _ _ _ hb⟩))
theorem bdone {h : Array Obj} {fuel : Nat} {listed : Array Bool} {a : Act} {w : World} (hr : Region.ready .any ops listed = []) (hq : Q .normal a w) : wpB P ops Q h fuel listed a w := wpAnyH_done hr hq fuel
end
end Go.Proofs.Ytejligapkgnnnaa

