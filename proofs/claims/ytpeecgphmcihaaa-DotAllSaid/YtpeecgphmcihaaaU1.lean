/- One u64 that was just laid. -/
import Derived.Test.YtpeecgphmcihaaaPar
namespace Go.Proofs.Ytpeecgphmcihaaa
open Go.RowKit

/-- the cell of a u64 that stands apart from a row of the call's own -/
def U1 (w : World) (g : Nat) (x : Value) (q : Nat) : Prop := w.cell? ⟨g, 0, none⟩ = some (.int .u64 (q : Int)) ∧ g < w.heap.size ∧ x.ownBlock ≠ some g
theorem U1.new {w : World} {base : Nat} {x : Value} {l : List UInt8} (h : OwnB w base x l) (q : Nat) : U1 (w.alloc (.cells #[.int .u64 (q : Int)] 38)) w.heap.size x q := by
  refine ⟨?_, by simp, fun e => ?_⟩
  · obtain ⟨b, o, e, _, _, hc⟩ := (Sl.new w 38 #[.int .u64 (q : Int)] (0, 0)).at_ (k := 0) (by simp)
    cases e
    exact hc 0 _ rfl
  · have := (h.lt _ e).2; omega
theorem U1.alloc {w : World} {g q : Nat} {x : Value} (h : U1 w g x q) (o : Obj) : U1 (w.alloc o) g x q :=
  ⟨(World.cell?_alloc_lt w o ⟨g, 0, none⟩ h.2.1).trans h.1, Nat.lt_of_lt_of_le h.2.1 (by simp), h.2.2⟩
/-- the row grew: the u64 is still there -/
theorem U1.grew {w w' : World} {g q : Nat} {x : Value} (h : U1 w g x q) (hg : w.grownBy w' x.ownBlock) : U1 w' g (.slice none 0 0) q :=
  ⟨(World.cell?_of_block (w := w) (hg.block g h.2.1 (fun e => h.2.2 e.symm))).trans h.1, Nat.lt_of_lt_of_le h.2.1 hg.size, by simp [Value.ownBlock]⟩
theorem U1.sl {w : World} {g q : Nat} {x : Value} (h : U1 w g x q) : Sl w w.heap.size (some ⟨g, 0, none⟩) (uv [q]) := by
  refine .inr ⟨g, 0, rfl, h.2.1, h.2.1, fun j u hu => ?_⟩
  match j, hu with
  | 0, hu => simp [uv] at hu; subst hu; exact h.1
  | j + 1, hu => simp [uv] at hu
end Go.Proofs.Ytpeecgphmcihaaa

