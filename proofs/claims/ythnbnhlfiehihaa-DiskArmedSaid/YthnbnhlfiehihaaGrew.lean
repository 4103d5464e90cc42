/- What is turned besides what is new: some blocks (a footprint). -/
import Derived.Test.YthnbnhlfiehihaaS3
namespace Go.Proofs.Ythnbnhlfiehihaa
open Go.RowKit

structure Grew (S : Nat → Prop) (w w' : World) : Prop where
  os : w'.os = w.os
  tape : w'.tape = w.tape
  output : w'.output = w.output
  size : w.heap.size ≤ w'.heap.size
  block : ∀ k, k < w.heap.size → ¬ S k → w'.heap[k]? = w.heap[k]?
theorem Grew.refl (S : Nat → Prop) (w : World) : Grew S w w := ⟨rfl, rfl, rfl, Nat.le_refl _, fun _ _ _ => rfl⟩
theorem Grew.below {S : Nat → Prop} {w w' : World} (h : Below w.heap.size w w') : Grew S w w' := ⟨h.os, h.tape, h.output, h.size, fun k hk _ => h.block k hk⟩
theorem Grew.grown {S : Nat → Prop} {w w' : World} {row : Option Nat} (h : w.grownBy w' row) (hr : ∀ r, row = some r → S r) : Grew S w w' := ⟨h.os, h.tape, h.output, h.size, fun k hk hn => h.block k hk (fun e => hn (hr k e.symm))⟩
theorem Grew.trans {S S' : Nat → Prop} {a b c : World} (h : Grew S a b) (k : Grew S' b c) (hs : ∀ i, i < a.heap.size → S' i → S i) : Grew S a c :=
  ⟨k.os.trans h.os, k.tape.trans h.tape, k.output.trans h.output, Nat.le_trans h.size k.size, fun i hi hn => (k.block i (Nat.lt_of_lt_of_le hi h.size) (fun h' => hn (hs i hi h'))).trans (h.block i hi hn)⟩
theorem Grew.mono {S S' : Nat → Prop} {w w' : World} (h : Grew S w w') (hs : ∀ i, i < w.heap.size → S i → S' i) : Grew S' w w' := ⟨h.os, h.tape, h.output, h.size, fun k hk hn => h.block k hk (fun h' => hn (hs k hk h'))⟩
/-- all that is turned lies from B on -/
theorem Grew.belowB {S : Nat → Prop} {B : Nat} {a w w' : World} (h : Grew S w w') (hb : Below B a w) (hB : B ≤ a.heap.size) (hs : ∀ k, S k → B ≤ k) : Below B a w' :=
  ⟨h.os.trans hb.os, h.tape.trans hb.tape, h.output.trans hb.output, Nat.le_trans hb.size h.size, fun k hk => (h.block k (Nat.lt_of_lt_of_le hk (Nat.le_trans hB hb.size)) (fun h' => by have := hs k h'; omega)).trans (hb.block k hk)⟩
theorem Grew.put {S : Nat → Prop} {w w' : World} (h : Grew S w w') {g o : Nat} (hg : S g ∨ w.heap.size ≤ g) (v : Value) : Grew S w (w'.setCell ⟨g, o, none⟩ v) := by
  refine ⟨h.os, h.tape, h.output, by simpa using h.size, fun k hk hn => ?_⟩
  rw [Below.heap_setCell _ _ _ _ (fun e => ?_)]
  · exact h.block k hk hn
  · simp only at e
    rcases hg with hg | hg
    · exact hn (e ▸ hg)
    · omega
theorem Grew.cell {S : Nat → Prop} {w w' : World} (h : Grew S w w') {p : Addr} (hp : p.block < w.heap.size) (hn : ¬ S p.block) : w'.cell? p = w.cell? p := World.cell?_of_block (h.block _ hp hn)
theorem Grew.frozen {S : Nat → Prop} {w w' : World} (h : Grew S w w') {p : Addr} (hp : p.block < w.heap.size) (hn : ¬ S p.block) : w'.frozen? p = w.frozen? p := World.frozen?_of_block (h.block _ hp hn)
theorem Grew.setCells {S : Nat → Prop} {w : World} {g : Nat} : ∀ (us : List Value) (o : Nat) {w' : World}, Grew S w w' → S g ∨ w.heap.size ≤ g → Grew S w (w'.setCells g o us)
  | [], _, _, h, _ => h
  | u :: us, o, _, h, hg => Grew.setCells us (o + 1) (h.put hg u) hg
end Go.Proofs.Ythnbnhlfiehihaa

