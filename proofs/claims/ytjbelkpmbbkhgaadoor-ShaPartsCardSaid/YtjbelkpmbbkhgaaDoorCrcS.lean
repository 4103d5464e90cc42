/- Checksums: the sums of parts. -/
import Derived.Test.YtjbelkpmbbkhgaaDoorCrcR
import Derived.Test.YtjbelkpmbbkhgaaDoorMat
namespace Go.Proofs.YtjbelkpmbbkhgaaDoor
open Go.RowKit Go.Proofs.YtjbelkpmbbkhgaaDoor.Pc

def SumRel (w : World) (ls : List (List UInt8)) (x3 x8 : Value) (wr : World) : Prop := ∃ k : Nat, k ≤ ls.length ∧ x8 = .int .i64 (k : Int) ∧ x3 = .int .u32 ((more 0#32 (ls.take k).flatten).toNat : Int) ∧ Below w.heap.size w wr
theorem flat_succ (s : BitVec 32) (ls : List (List UInt8)) (k : Nat) (h : k < ls.length) : more s (ls.take (k + 1)).flatten = more (more s (ls.take k).flatten) (ls[k]?.getD []) := by
  rw [List.take_add_one, List.getElem?_eq_getElem h, List.flatten_append, more_append]
  simp

end Go.Proofs.YtjbelkpmbbkhgaaDoor

