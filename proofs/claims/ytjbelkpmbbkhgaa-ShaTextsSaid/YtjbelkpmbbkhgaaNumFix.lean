/- Numbers as bytes: Fixed, Big, and the document's. -/
import Derived.Test.YtjbelkpmbbkhgaaMem
import Derived.Test.YtjbelkpmbbkhgaaPNum
import Derived.Laws.BitsAllLaws
namespace Go.Proofs.Ytjbelkpmbbkhgaa
open Go.RowKit Go.Proofs.Ytjbelkpmbbkhgaa.Pl

def BigRel (l : List UInt8) (x3 x12 : Value) : Prop := ∃ k : Nat, k ≤ min l.length 8 ∧ x12 = .int .i64 (k : Int) ∧ x3 = .int .u64 (bigF 0 (l.take k) : Int)
set_option maxRecDepth 100000 in
/-- 'a << 8 | y' -/
theorem shl8_or (a y : Nat) (hy : y < 256) (h : a * 256 + y < 18446744073709551616) : bits .or .u64 (IntKind.u64.wrap ((a : Int) * 256)) (y : Int) = ((a * 256 + y : Nat) : Int) := by
  have e : IntKind.u64.wrap ((a : Int) * 256) = ((a * 256 : Nat) : Int) := by
    rw [IntKind.wrap_u64]; omega
  rw [e, u64_or_nat _ _ (by omega) (by omega), nat_join 8 _ _ (by omega) (by omega)]
theorem big_of (l : List UInt8) (k : Nat) (h : k = min l.length 8) : big l = bigF 0 (l.take k) := by
  unfold big
  subst h
  congr 1
  rw [List.take_eq_take_iff]
  omega

def FixRel (w : World) (v m : Nat) (A : Value) (x13 : Value) (wr : World) : Prop :=
  ∃ k : Nat, k ≤ m ∧ x13 = .int .i64 (k : Int) ∧ wr.ownsRow w.heap.size 5 1 A m (bv (List.replicate (m - k) 0 ++ fixF v k)) ∧ Below w.heap.size w wr
theorem shr_byte (v k : Nat) : (v : Int) / 2 ^ (8 * k) % 256 = ((v / 256 ^ k % 256 : Nat) : Int) := by
  rw [← pow8]; simp [Int.natCast_ediv, Int.natCast_emod, Int.natCast_pow]
theorem fix_set (v m k : Nat) (h : k < m) : (bv (List.replicate (m - k) 0 ++ fixF v k)).set (m - 1 - k) (.int .u8 ((v / 256 ^ k % 256 : Nat) : Int)) = bv (List.replicate (m - (k + 1)) 0 ++ fixF v (k + 1)) := by
  have e : List.replicate (m - k) (0 : UInt8) = List.replicate (m - (k + 1)) 0 ++ [0] := by
    rw [show m - k = (m - (k + 1)) + 1 by omega, List.replicate_succ']
  rw [e]
  simp only [bv, List.map_append, fixF, List.map_cons, List.append_assoc, List.singleton_append]
  rw [List.set_append_right _ _ (by simp; omega)]
  have e2 : m - 1 - k - (List.map u8v (List.replicate (m - (k + 1)) 0)).length = 0 := by simp; omega
  rw [e2]
  simp only [List.set_cons_zero]
  first | done | (congr 2; simp only [u8v, ofNat_mod]) | simp only [u8v, ofNat_mod]
theorem fix_cell (v m k : Nat) (h : k < m) : (bv (List.replicate (m - k) 0 ++ fixF v k))[m - 1 - k]? = some (.int .u8 0) := by
  simp only [bv, List.map_append, List.map_replicate]
  rw [List.getElem?_append_left (by simp; omega), List.getElem?_replicate, if_pos (by omega)]
  rfl

def RFixRel (w : World) (v m : Nat) (x5 x6 : Value) (wr : World) : Prop :=
  ∃ j : Nat, j ≤ m ∧ x6 = .int .i64 ((j : Int) - 1) ∧ OwnB wr w.heap.size x5 ((fixF v m).take (m - j)) ∧ Below w.heap.size w wr
theorem shr_bv (v k : Nat) : [Value.int .u8 ((v : Int) / 2 ^ (8 * k) % 256)] = bv [UInt8.ofNat (v / 256 ^ k)] := by
  rw [shr_byte]
  simp only [bv, List.map, u8v, ofNat_mod]

end Go.Proofs.Ytjbelkpmbbkhgaa

