/-
  No cell of these rows narrows 'for every input' (looked for: loops, veiled, ifaces, maps, wideKeys, modest, calm, conditions, laid).
  DERIVED. THE GIVEN ROWS OF THIS SEAT. 4 by the template 'for every input the law returns true; each argument reads behind the call as it read before'; 0 by the template 'total and deterministic' (their statements: YtaflikgdlkaefaaTotals.lean).
  GIVEN WITH THE SEED: the statements are not yours to turn. If you find one false, say at which input.
  Laid BY PROGRAM, IN A SANDBOX (cutbox-rows.mjs): the forced cells as the released guide's own fill.sh prints them over the translation 3459f6505a77a168… (all of the seat's roots in one cut). By AI agents, Wed Nov 11 2026. No macro, syntax, notation, axiom, sorry.
-/
import Derived.Test.YtaflikgdlkaefaaChecked
import GoSem.Claim
import GoSem.ClaimJoined
import GoSem.ClaimMapViews
import Derived.JoinedTies
import Derived.KernelRfl
namespace Go.Proofs.Ytaflikgdlkaefaa
/- THE CELL 'sum', in the pinned program and in every row, IS THE sha256 OF THE DUMP (.gsa) THAT YtaflikgdlkaefaaProg.lean LOADS. Nothing in Lean hashes anything: it is a label: what it is worth is what the hold of that sum in a sandbox is worth. -/
noncomputable def Try.pinned : Pinned := { name := "ytaflikgdlkaefaa", sum := "3459f6505a77a168bd5ce52d91ecb712bbab141ce24635ebfb5cf81be4e33a35", checked := Try.checked }
namespace Rows
def none {H : Type} : Left H := { results := [], args := [] }

/-- 'newsreellaw11.VectorSets': WHATEVER THE INPUT: true; the input reads as it did. -/
def vectorSetsSpec : ChangeSpec := { name := "vectorSets", fn := fun _ => fun
  | [d1, d2, d3] => { results := [.lit (.bool true)], args := [d1, d2, d3] }
  | _ => none }
def vectorSetsRow : OpenClaim := { program := "ytaflikgdlkaefaa", sum := "3459f6505a77a168bd5ce52d91ecb712bbab141ce24635ebfb5cf81be4e33a35", func := "newsreel/newsreellaw11.VectorSets", spec := "vectorSets", unfollowed := true, recurses := true, apart := false }
def VectorSetsSaid : Prop := vectorSetsRow.holds Try.pinned (OpenSpec.ofChange vectorSetsSpec)

/-- ITS FALSE NEIGHBOUR: 'it returns false'. Refute it at one input. -/
def vectorSetsWrong : ChangeSpec := { name := "vectorSets", fn := fun _ => fun
  | [d1, d2, d3] => { results := [.lit (.bool false)], args := [d1, d2, d3] }
  | _ => none }
def VectorSetsWrongFalsely : Prop := vectorSetsRow.holds Try.pinned (OpenSpec.ofChange vectorSetsWrong)

/-- 'newsreellaw11.VectorBase': WHATEVER THE INPUT: true; the input reads as it did. -/
def vectorBaseSpec : ChangeSpec := { name := "vectorBase", fn := fun _ => fun
  | [d1, d2, d3] => { results := [.lit (.bool true)], args := [d1, d2, d3] }
  | _ => none }
def vectorBaseRow : OpenClaim := { program := "ytaflikgdlkaefaa", sum := "3459f6505a77a168bd5ce52d91ecb712bbab141ce24635ebfb5cf81be4e33a35", func := "newsreel/newsreellaw11.VectorBase", spec := "vectorBase", unfollowed := true, recurses := true, apart := false }
def VectorBaseSaid : Prop := vectorBaseRow.holds Try.pinned (OpenSpec.ofChange vectorBaseSpec)

/-- ITS FALSE NEIGHBOUR: 'it returns false'. Refute it at one input. -/
def vectorBaseWrong : ChangeSpec := { name := "vectorBase", fn := fun _ => fun
  | [d1, d2, d3] => { results := [.lit (.bool false)], args := [d1, d2, d3] }
  | _ => none }
def VectorBaseWrongFalsely : Prop := vectorBaseRow.holds Try.pinned (OpenSpec.ofChange vectorBaseWrong)

/-- 'newsreellaw11.VectorBytes': WHATEVER THE INPUT: true; the input reads as it did. -/
def vectorBytesSpec : ChangeSpec := { name := "vectorBytes", fn := fun _ => fun
  | [d1, d2, d3] => { results := [.lit (.bool true)], args := [d1, d2, d3] }
  | _ => none }
def vectorBytesRow : OpenClaim := { program := "ytaflikgdlkaefaa", sum := "3459f6505a77a168bd5ce52d91ecb712bbab141ce24635ebfb5cf81be4e33a35", func := "newsreel/newsreellaw11.VectorBytes", spec := "vectorBytes", unfollowed := true, recurses := true, apart := false }
def VectorBytesSaid : Prop := vectorBytesRow.holds Try.pinned (OpenSpec.ofChange vectorBytesSpec)

/-- ITS FALSE NEIGHBOUR: 'it returns false'. Refute it at one input. -/
def vectorBytesWrong : ChangeSpec := { name := "vectorBytes", fn := fun _ => fun
  | [d1, d2, d3] => { results := [.lit (.bool false)], args := [d1, d2, d3] }
  | _ => none }
def VectorBytesWrongFalsely : Prop := vectorBytesRow.holds Try.pinned (OpenSpec.ofChange vectorBytesWrong)

/-- 'newsreellaw11.VectorOf': WHATEVER THE INPUT: true; the input reads as it did. -/
def vectorOfSpec : ChangeSpec := { name := "vectorOf", fn := fun _ => fun
  | [d1, d2, d3] => { results := [.lit (.bool true)], args := [d1, d2, d3] }
  | _ => none }
def vectorOfRow : OpenClaim := { program := "ytaflikgdlkaefaa", sum := "3459f6505a77a168bd5ce52d91ecb712bbab141ce24635ebfb5cf81be4e33a35", func := "newsreel/newsreellaw11.VectorOf", spec := "vectorOf", unfollowed := true, recurses := true, apart := false }
def VectorOfSaid : Prop := vectorOfRow.holds Try.pinned (OpenSpec.ofChange vectorOfSpec)

/-- ITS FALSE NEIGHBOUR: 'it returns false'. Refute it at one input. -/
def vectorOfWrong : ChangeSpec := { name := "vectorOf", fn := fun _ => fun
  | [d1, d2, d3] => { results := [.lit (.bool false)], args := [d1, d2, d3] }
  | _ => none }
def VectorOfWrongFalsely : Prop := vectorOfRow.holds Try.pinned (OpenSpec.ofChange vectorOfWrong)

/- THE SECOND FORM. 'bulk': how many values and letters a reading holds, each counted each time it is reached (what is shared counts as often as it is met; a slice's spare places count too). A statement '..UptoSaid' is the law's where the arguments, and the package variables that the reading takes, are together of bulk at most 1048576: NARROWER than '..Said'. Prove '..Said' where nothing that the law and all that it calls make is longer than what came in: it says more and counts as full. Else prove '..UptoSaid'. A law counts once. -/
mutual
def uptoBulk {H : Type} : DataW H → Nat
  | .lit (.string bytes) => bytes.length + 1
  | .lit _ => 1
  | .nil => 1
  | .ptr d => uptoBulk d + 1
  | .slice elems spare => uptoBulkAll elems + uptoBulkAll spare + 1
  | .agg parts => uptoBulkAll parts + 1
  | .iface _ d => uptoBulk d + 1
  | .map entries => uptoBulkEntries entries + 1
  | .held _ => 1
def uptoBulkAll {H : Type} : List (DataW H) → Nat
  | [] => 0
  | d :: r => uptoBulk d + uptoBulkAll r
def uptoBulkEntries {H : Type} : List (Lit × DataW H) → Nat
  | [] => 0
  | x :: r => uptoBulkEntry x + uptoBulkEntries r
def uptoBulkEntry {H : Type} : Lit × DataW H → Nat
  | (.string bytes, d) => bytes.length + uptoBulk d + 1
  | (_, d) => uptoBulk d + 1
 end
def uptoSmall : (H : Type) → List (DataW H) → Bool := fun _ ds => decide (uptoBulkAll ds ≤ 1048576)
def OpenSpec.upto (s : _root_.Go.ChangeSpec) : _root_.Go.OpenSpec := { _root_.Go.OpenSpec.ofChange s with cond := some uptoSmall }

/-- 'newsreellaw11.VectorSets', WHERE WHAT IT READS IS OF BULK AT MOST 1048576: true; the input reads as it did. -/
def vectorSetsUptoRow : OpenClaim := { program := "ytaflikgdlkaefaa", sum := "3459f6505a77a168bd5ce52d91ecb712bbab141ce24635ebfb5cf81be4e33a35", func := "newsreel/newsreellaw11.VectorSets", spec := "vectorSets", unfollowed := true, recurses := true, apart := false, narrowed := true }
def VectorSetsUptoSaid : Prop := vectorSetsUptoRow.holds Try.pinned (OpenSpec.upto vectorSetsSpec)

/-- 'newsreellaw11.VectorBase', WHERE WHAT IT READS IS OF BULK AT MOST 1048576: true; the input reads as it did. -/
def vectorBaseUptoRow : OpenClaim := { program := "ytaflikgdlkaefaa", sum := "3459f6505a77a168bd5ce52d91ecb712bbab141ce24635ebfb5cf81be4e33a35", func := "newsreel/newsreellaw11.VectorBase", spec := "vectorBase", unfollowed := true, recurses := true, apart := false, narrowed := true }
def VectorBaseUptoSaid : Prop := vectorBaseUptoRow.holds Try.pinned (OpenSpec.upto vectorBaseSpec)

/-- 'newsreellaw11.VectorBytes', WHERE WHAT IT READS IS OF BULK AT MOST 1048576: true; the input reads as it did. -/
def vectorBytesUptoRow : OpenClaim := { program := "ytaflikgdlkaefaa", sum := "3459f6505a77a168bd5ce52d91ecb712bbab141ce24635ebfb5cf81be4e33a35", func := "newsreel/newsreellaw11.VectorBytes", spec := "vectorBytes", unfollowed := true, recurses := true, apart := false, narrowed := true }
def VectorBytesUptoSaid : Prop := vectorBytesUptoRow.holds Try.pinned (OpenSpec.upto vectorBytesSpec)

/-- 'newsreellaw11.VectorOf', WHERE WHAT IT READS IS OF BULK AT MOST 1048576: true; the input reads as it did. -/
def vectorOfUptoRow : OpenClaim := { program := "ytaflikgdlkaefaa", sum := "3459f6505a77a168bd5ce52d91ecb712bbab141ce24635ebfb5cf81be4e33a35", func := "newsreel/newsreellaw11.VectorOf", spec := "vectorOf", unfollowed := true, recurses := true, apart := false, narrowed := true }
def VectorOfUptoSaid : Prop := vectorOfUptoRow.holds Try.pinned (OpenSpec.upto vectorOfSpec)

end Rows
end Go.Proofs.Ytaflikgdlkaefaa
