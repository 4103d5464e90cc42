/- Digests: the document's text. -/
import Derived.Test.YtjbelkpmbbkhgaaDoorShT
namespace Go.Proofs.YtjbelkpmbbkhgaaDoor
open Go.RowKit Go.Proofs.YtjbelkpmbbkhgaaDoor.Sh

theorem hexx (a : Nat) (h : a < 16) : Value.string ((ByteArray.mk #[48, 49, 50, 51, 52, 53, 54, 55, 56, 57, 97, 98, 99, 100, 101, 102]).extract a (a + 1)) = str [hx a] := by
  match a, h with
  | 0, _ => rfl
  | 1, _ => rfl
  | 2, _ => rfl
  | 3, _ => rfl
  | 4, _ => rfl
  | 5, _ => rfl
  | 6, _ => rfl
  | 7, _ => rfl
  | 8, _ => rfl
  | 9, _ => rfl
  | 10, _ => rfl
  | 11, _ => rfl
  | 12, _ => rfl
  | 13, _ => rfl
  | 14, _ => rfl
  | 15, _ => rfl
  | a + 16, h => exact absurd h (by omega)
theorem strAdd (a b : List UInt8) (w : World) (h : a.length + b.length ≤ 1000000) : (binOp .add 9 (str a) (str b)).run Tryd.prog w = .ok (str (a ++ b)) w := by
  unfold str
  go_simp
  rw [if_neg (by omega)]
  congr 2
  first | done | (apply ByteArray.ext; simp)
/-- a digit's value -/
def digS (c : UInt8) : Int := if 48 ≤ c.toNat ∧ c.toNat ≤ 57 then (c.toNat : Int) - 48 else if 97 ≤ c.toNat ∧ c.toNat ≤ 102 then (c.toNat : Int) - 97 + 10 else -1
end Go.Proofs.YtjbelkpmbbkhgaaDoor

