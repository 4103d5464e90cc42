/- Checksums: the walk of the document's More. -/
import Derived.Test.YtjbelkpmbbkhgaaDoorCrcW
namespace Go.Proofs.YtjbelkpmbbkhgaaDoor
open Go.RowKit Go.Proofs.YtjbelkpmbbkhgaaDoor.Pc

theorem bit_val (s : BitVec 32) : (bits .and .u32 (s.toNat : Int) 1 = 1 ∧ bits .xor .u32 ((s.toNat : Int) / 2) 3988292384 = ((f s).toNat : Int)) ∨
    (bits .and .u32 (s.toNat : Int) 1 = 0 ∧ (s.toNat : Int) / 2 = ((f s).toNat : Int)) := by
  have h1 := u32_and_nat s.toNat 1 (bv_lt s) (by omega)
  rw [nat_mask1] at h1
  have e1 : ((s.toNat : Int) / (2 : Int)) = ((s >>> 1).toNat : Int) := by
    rw [BitVec.toNat_ushiftRight, Nat.shiftRight_eq_div_pow]; omega
  have hl : s.getLsbD 0 = decide (s.toNat % 2 = 1) := by
    simp [BitVec.getLsbD, Nat.testBit_zero]
  by_cases hb : s.toNat % 2 = 1
  · left
    refine ⟨by rw [← Int.natCast_one, h1, hb], ?_⟩
    have e2 : (3988292384 : Int) = ((poly).toNat : Int) := by decide
    rw [e1, e2, xor_bv]
    unfold f
    rw [hl, decide_eq_true hb, if_pos rfl]
  · right
    refine ⟨by rw [← Int.natCast_one, h1]; omega, ?_⟩
    rw [e1]
    unfold f
    rw [hl, decide_eq_false hb]
    simp
def BitRel (s : BitVec 32) (x0 x6 : Value) : Prop := ∃ (j : Nat) (cur : BitVec 32), j ≤ 8 ∧ x6 = .int .i64 (j : Int) ∧ x0 = .int .u32 (cur.toNat : Int) ∧ fs (8 - j) cur = fs 8 s

end Go.Proofs.YtjbelkpmbbkhgaaDoor

