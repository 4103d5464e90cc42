/- Ids as elements of rows. -/
import Derived.Test.YtjijhmeagjhfoaaFl
import Derived.Test.YtjijhmeagjhfoaaBs
namespace Go.Proofs.Ytjijhmeagjhfoaa
open Go.RowKit
set_option maxRecDepth 20000

instance : Inhabited ID := ⟨⟨z32, rfl⟩⟩
def ID.cells (x : ID) : List Value := bv x.l
theorem idinfo : (Try.prog.info? 25).map (fun i => (i.zero, i.size, i.bytes)) = some (some (.agg (bv z32).toArray), 32, 32) := by kernel_rfl
def EI : ET Try.prog 62 25 ID := {
  n := 32
  bytes := 32
  cells := ID.cells
  zero := ⟨z32, rfl⟩
  z := .agg (bv z32).toArray
  ty := Try.underlying62
  info := idinfo
  zc := rfl
  pos := by omega
  len := fun x => by rw [ID.cells, bv_len, x.h]
  one := fun x => bv_one x.l
  small := by omega }
theorem ID.v_cells (x : ID) : x.v.cells = (EI.cells x).toArray := rfl
end Go.Proofs.Ytjijhmeagjhfoaa

