/- What was sealed is opened; constant bytes. -/
import Derived.Test.YtjbelkpmbbkhgaaDoorCrcO
import Derived.Lib.SlBytesConst
namespace Go.Proofs.YtjbelkpmbbkhgaaDoor
open Go.RowKit Go.Proofs.YtjbelkpmbbkhgaaDoor.Pc Go.Proofs.YtjbelkpmbbkhgaaDoor.Pl

theorem open_seal (l : List UInt8) : openS (sealS l) = some l := by
  have h4 : (fixF (sum l).toNat 4).length = 4 := fixF_len _ _
  have hN := bv_lt (sum l)
  have hd : (sealS l).length - 4 = l.length := by simp [sealS, h4]
  unfold openS
  rw [if_neg (by simp [sealS, h4]), hd]
  have e1 : (sealS l).drop l.length = fixF (sum l).toNat 4 := by simp [sealS]
  have e2 : (sealS l).take l.length = l := by simp [sealS]
  rw [e1, e2, if_pos ?_]
  unfold big
  rw [List.take_of_length_le (by omega), bigF_fixF]
  simp only [Nat.zero_mul, Nat.zero_add]
  omega
theorem Sl.mark (w : World) (l : List UInt8) (fr : Nat × Nat) : Sl (w.alloc (.cells (bv l).toArray 5 fr)) (w.heap.size + 1) (some ⟨w.heap.size, 0, none⟩) (bv l) := by
  have := Sl.new w 5 (bv l).toArray fr
  simpa using this
theorem run_const_at (w : World) (C : Array Value) (n c g : Nat) (hg : g = w.heap.size) :
    (convert 24 24 (.slice (some ⟨g, 0, none⟩) n c)).run Tryd.prog (w.alloc (.cells C 5)) = .ok (.slice (some ⟨g, 0, none⟩) n c) (w.alloc (.cells C 5 (C.size, C.size + 1))) := by
  subst hg; exact Lib.run_convert_bytes_const w 24 5 C n c Tryd.underlying24 Tryd.underlying5
end Go.Proofs.YtjbelkpmbbkhgaaDoor

