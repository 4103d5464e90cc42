/- Checksums: what is sealed, and what is opened. -/
import Derived.Test.YtjbelkpmbbkhgaaDoorCrcS
import Derived.Test.YtjbelkpmbbkhgaaDoorNumFix
import Derived.Test.YtjbelkpmbbkhgaaDoorReg
namespace Go.Proofs.YtjbelkpmbbkhgaaDoor
open Go.RowKit Go.Proofs.YtjbelkpmbbkhgaaDoor.Pc Go.Proofs.YtjbelkpmbbkhgaaDoor.Pl

def sealS (l : List UInt8) : List UInt8 := l ++ fixF (sum l).toNat 4
def openS (b : List UInt8) : Option (List UInt8) := if b.length < 4 then none else if big (b.drop (b.length - 4)) = (sum (b.take (b.length - 4))).toNat then some (b.take (b.length - 4)) else none

def OpenPost (w : World) (o : Option (List UInt8)) (e : Ending) (w' : World) : Prop :=
  match o with
  | none => e = .returned (.tuple #[.slice none 0 0, .bool false]) ∧ Below w.heap.size w w'
  | some k => ∃ A c, e = .returned (.tuple #[.slice A k.length c, .bool true]) ∧ OwnB w' w.heap.size (.slice A k.length c) k ∧ Below w.heap.size w w'

end Go.Proofs.YtjbelkpmbbkhgaaDoor

