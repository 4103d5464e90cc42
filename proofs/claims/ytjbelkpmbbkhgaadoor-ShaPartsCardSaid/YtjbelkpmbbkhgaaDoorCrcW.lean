/- Checksums: the walks of More, and of the document's More. -/
import Derived.Test.YtjbelkpmbbkhgaaDoorMem
import Derived.Test.YtjbelkpmbbkhgaaDoorPCrc
import Derived.Laws.BitsAllLaws
import Derived.Outline
namespace Go.Proofs.YtjbelkpmbbkhgaaDoor
open Go.RowKit Go.Proofs.YtjbelkpmbbkhgaaDoor.Pc

def crcV (s : BitVec 32) : Value := .int .u32 (s.toNat : Int)
def U32 (n : Nat) : Prop := n < 4294967296
theorem bv_lt (s : BitVec 32) : s.toNat < 4294967296 := s.isLt
theorem xor_bv (a b : BitVec 32) : bits .xor .u32 (a.toNat : Int) (b.toNat : Int) = ((a ^^^ b).toNat : Int) := by
  rw [u32_xor_nat _ _ (bv_lt a) (bv_lt b), BitVec.toNat_xor]
theorem b8_toNat (c : UInt8) : (b8 c).toNat = c.toNat := by
  have := c.toNat_lt
  simp only [b8, BitVec.toNat_ofNat]
  omega
theorem xor_b8 (a : BitVec 32) (c : UInt8) : bits .xor .u32 (a.toNat : Int) (c.toNat : Int) = ((a ^^^ b8 c).toNat : Int) := by
  rw [← b8_toNat c]; exact xor_bv a (b8 c)
theorem tab_lt : ∀ k : Fin 16, tabN.getD k.val 0 < 4294967296 := by decide
theorem nib_val (s : BitVec 32) : ∃ k, k < 16 ∧ bits .and .u32 (s.toNat : Int) 15 = ((k : Nat) : Int) ∧ bits .xor .u32 ((s.toNat : Int) / 16) ((tabN.getD k 0 : Nat) : Int) = ((nib s).toNat : Int) := by
  have hk : (s &&& 15#32).toNat < 16 := by
    rw [BitVec.toNat_and]
    exact Nat.and_lt_two_pow _ (show (15#32).toNat < 2 ^ 4 by decide)
  refine ⟨(s &&& 15#32).toNat, hk, ?_, ?_⟩
  · have := u32_and_nat s.toNat 15 (bv_lt s) (by omega)
    rw [BitVec.toNat_and]
    exact this
  · have e1 : ((s.toNat : Int) / (16 : Int)) = ((s >>> 4).toNat : Int) := by
      rw [BitVec.toNat_ushiftRight, Nat.shiftRight_eq_div_pow]; omega
    have ht := tab_lt ⟨_, hk⟩
    have e2 : ((tabN.getD (s &&& 15#32).toNat 0 : Nat) : Int) = ((BitVec.ofNat 32 (tabN.getD (s &&& 15#32).toNat 0)).toNat : Int) := by
      rw [BitVec.toNat_ofNat, Nat.mod_eq_of_lt ht]
    have e3 := xor_bv (s >>> 4) (BitVec.ofNat 32 (tabN.getD (s &&& 15#32).toNat 0))
    rw [← e1, ← e2] at e3
    exact e3
def CrcRel (s : BitVec 32) (l : List UInt8) (x0 x13 : Value) : Prop := ∃ k : Nat, k ≤ l.length ∧ x13 = .int .i64 (k : Int) ∧ x0 = .int .u32 ((go s (l.take k)).toNat : Int)
theorem go_take_succ (s : BitVec 32) (l : List UInt8) (k : Nat) (h : k < l.length) : go s (l.take (k + 1)) = Pc.step (go s (l.take k)) (l[k]?.getD 0) := by
  rw [List.take_add_one, List.getElem?_eq_getElem h]
  simp only [Option.toList_some, go_append]
  rfl

theorem not_val (s : BitVec 32) : bits .xor .u32 IntKind.u32.max (s.toNat : Int) = ((~~~ s).toNat : Int) := by
  have hm : IntKind.u32.max = ((4294967295#32).toNat : Int) := by decide
  rw [hm, xor_bv]
  have : 4294967295#32 = BitVec.allOnes 32 := by decide
  rw [this, BitVec.allOnes_xor]

/-- The block of the table. -/
def tabC : Array Value := #[.int .u32 0, .int .u32 498536548, .int .u32 997073096, .int .u32 651767980, .int .u32 1994146192, .int .u32 1802195444, .int .u32 1303535960, .int .u32 1342533948,
  .int .u32 3988292384, .int .u32 4027552580, .int .u32 3604390888, .int .u32 3412177804, .int .u32 2607071920, .int .u32 2262029012, .int .u32 2685067896, .int .u32 3183342108]
theorem tabC_get : ∀ k : Fin 16, tabC[k.val]? = some (.int .u32 ((tabN.getD k.val 0 : Nat) : Int)) := by
  intro ⟨k, hk⟩
  rcases k with _ | _ | _ | _ | _ | _ | _ | _ | _ | _ | _ | _ | _ | _ | _ | _ | k
  all_goals first | rfl | omega
theorem tab_cell (w : World) (t : TypeId) (k : Nat) (hk : k < 16) : (w.alloc (.cells tabC t)).cell? ⟨w.heap.size, k, none⟩ = some (.int .u32 ((tabN.getD k 0 : Nat) : Int)) := by
  simp only [World.cell?, World.alloc]
  rw [Array.getElem?_push_size]
  exact tabC_get ⟨k, hk⟩

end Go.Proofs.YtjbelkpmbbkhgaaDoor

