/-
  No cell of these rows narrows 'for every input' (looked for: loops, veiled, ifaces, maps, wideKeys, modest, calm, conditions, laid).
  DERIVED. THE GIVEN ROWS OF THIS SEAT. 2 by the template 'for every input the law returns true; each argument reads behind the call as it read before'; 0 by the template 'total and deterministic' (their statements: YtaflikgdlkaefaaGreatTotals.lean).
  GIVEN WITH THE SEED: the statements are not yours to turn. If you find one false, say at which input.
  Laid BY PROGRAM, IN A SANDBOX (cutbox-rows.mjs): the forced cells as the released guide's own fill.sh prints them over the translation d3b32cf029df87e4… (all of the seat's roots in one cut). By AI agents, Wed Nov 11 2026. No macro, syntax, notation, axiom, sorry.
-/
import Derived.Test.YtaflikgdlkaefaaGreatChecked
import GoSem.Claim
import GoSem.ClaimJoined
import GoSem.ClaimMapViews
import Derived.JoinedTies
import Derived.KernelRfl
namespace Go.Proofs.YtaflikgdlkaefaaGreat
/- THE CELL 'sum', in the pinned program and in every row, IS THE sha256 OF THE DUMP (.gsa) THAT YtaflikgdlkaefaaGreatProg.lean LOADS. Nothing in Lean hashes anything: it is a label: what it is worth is what the hold of that sum in a sandbox is worth. -/
noncomputable def Tryz.pinned : Pinned := { name := "ytaflikgdlkaefaagreat", sum := "d3b32cf029df87e46fd722b1eb86d6936d436cffb7315d9c47d54370dff5c6d5", checked := Tryz.checked }
namespace Rows
def none {H : Type} : Left H := { results := [], args := [] }

/-- 'newsreellaw11.VectorAny': WHATEVER THE INPUT: true; the input reads as it did. -/
def vectorAnySpec : ChangeSpec := { name := "vectorAny", fn := fun _ => fun
  | [d1, d2, d3, d4] => { results := [.lit (.bool true)], args := [d1, d2, d3, d4] }
  | _ => none }
def vectorAnyRow : OpenClaim := { program := "ytaflikgdlkaefaagreat", sum := "d3b32cf029df87e46fd722b1eb86d6936d436cffb7315d9c47d54370dff5c6d5", func := "newsreel/newsreellaw11.VectorAny", spec := "vectorAny", unfollowed := true, recurses := true, apart := false }
def VectorAnySaid : Prop := vectorAnyRow.holds Tryz.pinned (OpenSpec.ofChange vectorAnySpec)

/-- ITS FALSE NEIGHBOUR: 'it returns false'. Refute it at one input. -/
def vectorAnyWrong : ChangeSpec := { name := "vectorAny", fn := fun _ => fun
  | [d1, d2, d3, d4] => { results := [.lit (.bool false)], args := [d1, d2, d3, d4] }
  | _ => none }
def VectorAnyWrongFalsely : Prop := vectorAnyRow.holds Tryz.pinned (OpenSpec.ofChange vectorAnyWrong)

/-- 'newsreellaw11.VectorTakes': WHATEVER THE INPUT: true; the input reads as it did. -/
def vectorTakesSpec : ChangeSpec := { name := "vectorTakes", fn := fun _ => fun
  | [d1, d2, d3, d4, d5, d6] => { results := [.lit (.bool true)], args := [d1, d2, d3, d4, d5, d6] }
  | _ => none }
def vectorTakesRow : OpenClaim := { program := "ytaflikgdlkaefaagreat", sum := "d3b32cf029df87e46fd722b1eb86d6936d436cffb7315d9c47d54370dff5c6d5", func := "newsreel/newsreellaw11.VectorTakes", spec := "vectorTakes", unfollowed := true, recurses := true, apart := false }
def VectorTakesSaid : Prop := vectorTakesRow.holds Tryz.pinned (OpenSpec.ofChange vectorTakesSpec)

/-- ITS FALSE NEIGHBOUR: 'it returns false'. Refute it at one input. -/
def vectorTakesWrong : ChangeSpec := { name := "vectorTakes", fn := fun _ => fun
  | [d1, d2, d3, d4, d5, d6] => { results := [.lit (.bool false)], args := [d1, d2, d3, d4, d5, d6] }
  | _ => none }
def VectorTakesWrongFalsely : Prop := vectorTakesRow.holds Tryz.pinned (OpenSpec.ofChange vectorTakesWrong)

/- THE SECOND FORM. 'bulk': how many values and letters a reading holds, each counted each time it is reached (what is shared counts as often as it is met; a slice's spare places count too). A statement '..UptoSaid' is the law's where the arguments, and the package variables that the reading takes, are together of bulk at most 1048576: NARROWER than '..Said'. Prove '..Said' where nothing that the law and all that it calls make is longer than what came in: it says more and counts as full. Else prove '..UptoSaid'. A law counts once. -/
mutual
def uptoBulk {H : Type} : DataW H → Nat
  | .lit (.string bytes) => bytes.length + 1
  | .lit _ => 1
  | .nil => 1
  | .ptr d => uptoBulk d + 1
  | .slice elems spare => uptoBulkAll elems + uptoBulkAll spare + 1
  | .agg parts => uptoBulkAll parts + 1
  | .iface _ d => uptoBulk d + 1
  | .map entries => uptoBulkEntries entries + 1
  | .held _ => 1
def uptoBulkAll {H : Type} : List (DataW H) → Nat
  | [] => 0
  | d :: r => uptoBulk d + uptoBulkAll r
def uptoBulkEntries {H : Type} : List (Lit × DataW H) → Nat
  | [] => 0
  | x :: r => uptoBulkEntry x + uptoBulkEntries r
def uptoBulkEntry {H : Type} : Lit × DataW H → Nat
  | (.string bytes, d) => bytes.length + uptoBulk d + 1
  | (_, d) => uptoBulk d + 1
 end
def uptoSmall : (H : Type) → List (DataW H) → Bool := fun _ ds => decide (uptoBulkAll ds ≤ 1048576)
def OpenSpec.upto (s : _root_.Go.ChangeSpec) : _root_.Go.OpenSpec := { _root_.Go.OpenSpec.ofChange s with cond := some uptoSmall }

/-- 'newsreellaw11.VectorAny', WHERE WHAT IT READS IS OF BULK AT MOST 1048576: true; the input reads as it did. -/
def vectorAnyUptoRow : OpenClaim := { program := "ytaflikgdlkaefaagreat", sum := "d3b32cf029df87e46fd722b1eb86d6936d436cffb7315d9c47d54370dff5c6d5", func := "newsreel/newsreellaw11.VectorAny", spec := "vectorAny", unfollowed := true, recurses := true, apart := false, narrowed := true }
def VectorAnyUptoSaid : Prop := vectorAnyUptoRow.holds Tryz.pinned (OpenSpec.upto vectorAnySpec)

/-- 'newsreellaw11.VectorTakes', WHERE WHAT IT READS IS OF BULK AT MOST 1048576: true; the input reads as it did. -/
def vectorTakesUptoRow : OpenClaim := { program := "ytaflikgdlkaefaagreat", sum := "d3b32cf029df87e46fd722b1eb86d6936d436cffb7315d9c47d54370dff5c6d5", func := "newsreel/newsreellaw11.VectorTakes", spec := "vectorTakes", unfollowed := true, recurses := true, apart := false, narrowed := true }
def VectorTakesUptoSaid : Prop := vectorTakesUptoRow.holds Tryz.pinned (OpenSpec.upto vectorTakesSpec)

end Rows
end Go.Proofs.YtaflikgdlkaefaaGreat
