/-
  No cell of these rows narrows 'for every input' (looked for: loops, veiled, ifaces, maps, wideKeys, modest, calm, conditions, laid).
  DERIVED. THE GIVEN ROWS OF THIS SEAT. 8 by the template 'for every input the law returns true; each argument reads behind the call as it read before'; 0 by the template 'total and deterministic' (their statements: YtejligapkgnnnaaTotals.lean).
  GIVEN WITH THE SEED: the statements are not yours to turn. If you find one false, say at which input.
  Laid BY PROGRAM, IN A SANDBOX (cutbox-rows.mjs): the forced cells as the released guide's own fill.sh prints them over the translation 36e78d5e08f1f1f0… (all of the seat's roots in one cut). By AI agents, Wed Nov 11 2026. No macro, syntax, notation, axiom, sorry.
-/
import Derived.Test.YtejligapkgnnnaaChecked
import GoSem.Claim
import GoSem.ClaimJoined
import GoSem.ClaimMapViews
import Derived.JoinedTies
import Derived.KernelRfl
namespace Go.Proofs.Ytejligapkgnnnaa
/- THE CELL 'sum', in the pinned program and in every row, IS THE sha256 OF THE DUMP (.gsa) THAT YtejligapkgnnnaaProg.lean LOADS. Nothing in Lean hashes anything: it is a label: what it is worth is what the hold of that sum in a sandbox is worth. -/
noncomputable def Try.pinned : Pinned := { name := "ytejligapkgnnnaa", sum := "36e78d5e08f1f1f00efff27968580846f929c9532cb9b76abf2b79f48af1e42c", checked := Try.checked }
namespace Rows
def none {H : Type} : Left H := { results := [], args := [] }

/-- 'newsreellaw8.HlcPeek': WHATEVER THE INPUT: true; the input reads as it did. -/
def hlcPeekSpec : ChangeSpec := { name := "hlcPeek", fn := fun _ => fun
  | [d1, d2] => { results := [.lit (.bool true)], args := [d1, d2] }
  | _ => none }
def hlcPeekRow : OpenClaim := { program := "ytejligapkgnnnaa", sum := "36e78d5e08f1f1f00efff27968580846f929c9532cb9b76abf2b79f48af1e42c", func := "newsreel/newsreellaw8.HlcPeek", spec := "hlcPeek", apart := false }
def HlcPeekSaid : Prop := hlcPeekRow.holds Try.pinned (OpenSpec.ofChange hlcPeekSpec)

/-- ITS FALSE NEIGHBOUR: 'it returns false'. Refute it at one input. -/
def hlcPeekWrong : ChangeSpec := { name := "hlcPeek", fn := fun _ => fun
  | [d1, d2] => { results := [.lit (.bool false)], args := [d1, d2] }
  | _ => none }
def HlcPeekWrongFalsely : Prop := hlcPeekRow.holds Try.pinned (OpenSpec.ofChange hlcPeekWrong)

/-- 'newsreellaw1.NumPuts': WHATEVER THE INPUT: true; the input reads as it did. -/
def numPutsSpec : ChangeSpec := { name := "numPuts", fn := fun _ => fun
  | [d1, d2] => { results := [.lit (.bool true)], args := [d1, d2] }
  | _ => none }
def numPutsRow : OpenClaim := { program := "ytejligapkgnnnaa", sum := "36e78d5e08f1f1f00efff27968580846f929c9532cb9b76abf2b79f48af1e42c", func := "newsreel/newsreellaw1.NumPuts", spec := "numPuts", apart := false }
def NumPutsSaid : Prop := numPutsRow.holds Try.pinned (OpenSpec.ofChange numPutsSpec)

/-- ITS FALSE NEIGHBOUR: 'it returns false'. Refute it at one input. -/
def numPutsWrong : ChangeSpec := { name := "numPuts", fn := fun _ => fun
  | [d1, d2] => { results := [.lit (.bool false)], args := [d1, d2] }
  | _ => none }
def NumPutsWrongFalsely : Prop := numPutsRow.holds Try.pinned (OpenSpec.ofChange numPutsWrong)

/-- 'newsreellaw1.NumTakes': WHATEVER THE INPUT: true; the input reads as it did. -/
def numTakesSpec : ChangeSpec := { name := "numTakes", fn := fun _ => fun
  | [d1, d2, d3, d4, d5] => { results := [.lit (.bool true)], args := [d1, d2, d3, d4, d5] }
  | _ => none }
def numTakesRow : OpenClaim := { program := "ytejligapkgnnnaa", sum := "36e78d5e08f1f1f00efff27968580846f929c9532cb9b76abf2b79f48af1e42c", func := "newsreel/newsreellaw1.NumTakes", spec := "numTakes", apart := false }
def NumTakesSaid : Prop := numTakesRow.holds Try.pinned (OpenSpec.ofChange numTakesSpec)

/-- ITS FALSE NEIGHBOUR: 'it returns false'. Refute it at one input. -/
def numTakesWrong : ChangeSpec := { name := "numTakes", fn := fun _ => fun
  | [d1, d2, d3, d4, d5] => { results := [.lit (.bool false)], args := [d1, d2, d3, d4, d5] }
  | _ => none }
def NumTakesWrongFalsely : Prop := numTakesRow.holds Try.pinned (OpenSpec.ofChange numTakesWrong)

/-- 'newsreellaw1.NumBack': WHATEVER THE INPUT: true; the input reads as it did. -/
def numBackSpec : ChangeSpec := { name := "numBack", fn := fun _ => fun
  | [d1, d2] => { results := [.lit (.bool true)], args := [d1, d2] }
  | _ => none }
def numBackRow : OpenClaim := { program := "ytejligapkgnnnaa", sum := "36e78d5e08f1f1f00efff27968580846f929c9532cb9b76abf2b79f48af1e42c", func := "newsreel/newsreellaw1.NumBack", spec := "numBack", apart := false }
def NumBackSaid : Prop := numBackRow.holds Try.pinned (OpenSpec.ofChange numBackSpec)

/-- ITS FALSE NEIGHBOUR: 'it returns false'. Refute it at one input. -/
def numBackWrong : ChangeSpec := { name := "numBack", fn := fun _ => fun
  | [d1, d2] => { results := [.lit (.bool false)], args := [d1, d2] }
  | _ => none }
def NumBackWrongFalsely : Prop := numBackRow.holds Try.pinned (OpenSpec.ofChange numBackWrong)

/-- 'newsreellaw1.NumOne': WHATEVER THE INPUT: true; the input reads as it did. -/
def numOneSpec : ChangeSpec := { name := "numOne", fn := fun _ => fun
  | [d] => { results := [.lit (.bool true)], args := [d] }
  | _ => none }
def numOneRow : OpenClaim := { program := "ytejligapkgnnnaa", sum := "36e78d5e08f1f1f00efff27968580846f929c9532cb9b76abf2b79f48af1e42c", func := "newsreel/newsreellaw1.NumOne", spec := "numOne", apart := false }
def NumOneSaid : Prop := numOneRow.holds Try.pinned (OpenSpec.ofChange numOneSpec)

/-- ITS FALSE NEIGHBOUR: 'it returns false'. Refute it at one input. -/
def numOneWrong : ChangeSpec := { name := "numOne", fn := fun _ => fun
  | [d] => { results := [.lit (.bool false)], args := [d] }
  | _ => none }
def NumOneWrongFalsely : Prop := numOneRow.holds Try.pinned (OpenSpec.ofChange numOneWrong)

/-- 'newsreellaw1.NumSizes': WHATEVER THE INPUT: true; the input reads as it did. -/
def numSizesSpec : ChangeSpec := { name := "numSizes", fn := fun _ => fun
  | [d1, d2, d3] => { results := [.lit (.bool true)], args := [d1, d2, d3] }
  | _ => none }
def numSizesRow : OpenClaim := { program := "ytejligapkgnnnaa", sum := "36e78d5e08f1f1f00efff27968580846f929c9532cb9b76abf2b79f48af1e42c", func := "newsreel/newsreellaw1.NumSizes", spec := "numSizes", apart := false }
def NumSizesSaid : Prop := numSizesRow.holds Try.pinned (OpenSpec.ofChange numSizesSpec)

/-- ITS FALSE NEIGHBOUR: 'it returns false'. Refute it at one input. -/
def numSizesWrong : ChangeSpec := { name := "numSizes", fn := fun _ => fun
  | [d1, d2, d3] => { results := [.lit (.bool false)], args := [d1, d2, d3] }
  | _ => none }
def NumSizesWrongFalsely : Prop := numSizesRow.holds Try.pinned (OpenSpec.ofChange numSizesWrong)

/-- 'newsreellaw1.NumFixed': WHATEVER THE INPUT: true; the input reads as it did. -/
def numFixedSpec : ChangeSpec := { name := "numFixed", fn := fun _ => fun
  | [d1, d2, d3] => { results := [.lit (.bool true)], args := [d1, d2, d3] }
  | _ => none }
def numFixedRow : OpenClaim := { program := "ytejligapkgnnnaa", sum := "36e78d5e08f1f1f00efff27968580846f929c9532cb9b76abf2b79f48af1e42c", func := "newsreel/newsreellaw1.NumFixed", spec := "numFixed", apart := false }
def NumFixedSaid : Prop := numFixedRow.holds Try.pinned (OpenSpec.ofChange numFixedSpec)

/-- ITS FALSE NEIGHBOUR: 'it returns false'. Refute it at one input. -/
def numFixedWrong : ChangeSpec := { name := "numFixed", fn := fun _ => fun
  | [d1, d2, d3] => { results := [.lit (.bool false)], args := [d1, d2, d3] }
  | _ => none }
def NumFixedWrongFalsely : Prop := numFixedRow.holds Try.pinned (OpenSpec.ofChange numFixedWrong)

/-- 'newsreellaw1.NumMany': WHATEVER THE INPUT: true; the input reads as it did. -/
def numManySpec : ChangeSpec := { name := "numMany", fn := fun _ => fun
  | [d] => { results := [.lit (.bool true)], args := [d] }
  | _ => none }
def numManyRow : OpenClaim := { program := "ytejligapkgnnnaa", sum := "36e78d5e08f1f1f00efff27968580846f929c9532cb9b76abf2b79f48af1e42c", func := "newsreel/newsreellaw1.NumMany", spec := "numMany", apart := false }
def NumManySaid : Prop := numManyRow.holds Try.pinned (OpenSpec.ofChange numManySpec)

/-- ITS FALSE NEIGHBOUR: 'it returns false'. Refute it at one input. -/
def numManyWrong : ChangeSpec := { name := "numMany", fn := fun _ => fun
  | [d] => { results := [.lit (.bool false)], args := [d] }
  | _ => none }
def NumManyWrongFalsely : Prop := numManyRow.holds Try.pinned (OpenSpec.ofChange numManyWrong)

/- THE SECOND FORM. 'bulk': how many values and letters a reading holds, each counted each time it is reached (what is shared counts as often as it is met; a slice's spare places count too). A statement '..UptoSaid' is the law's where the arguments, and the package variables that the reading takes, are together of bulk at most 1048576: NARROWER than '..Said'. Prove '..Said' where nothing that the law and all that it calls make is longer than what came in: it says more and counts as full. Else prove '..UptoSaid'. A law counts once. -/
mutual
def uptoBulk {H : Type} : DataW H → Nat
  | .lit (.string bytes) => bytes.length + 1
  | .lit _ => 1
  | .nil => 1
  | .ptr d => uptoBulk d + 1
  | .slice elems spare => uptoBulkAll elems + uptoBulkAll spare + 1
  | .agg parts => uptoBulkAll parts + 1
  | .iface _ d => uptoBulk d + 1
  | .map entries => uptoBulkEntries entries + 1
  | .held _ => 1
def uptoBulkAll {H : Type} : List (DataW H) → Nat
  | [] => 0
  | d :: r => uptoBulk d + uptoBulkAll r
def uptoBulkEntries {H : Type} : List (Lit × DataW H) → Nat
  | [] => 0
  | x :: r => uptoBulkEntry x + uptoBulkEntries r
def uptoBulkEntry {H : Type} : Lit × DataW H → Nat
  | (.string bytes, d) => bytes.length + uptoBulk d + 1
  | (_, d) => uptoBulk d + 1
 end
def uptoSmall : (H : Type) → List (DataW H) → Bool := fun _ ds => decide (uptoBulkAll ds ≤ 1048576)
def OpenSpec.upto (s : _root_.Go.ChangeSpec) : _root_.Go.OpenSpec := { _root_.Go.OpenSpec.ofChange s with cond := some uptoSmall }

/-- 'newsreellaw8.HlcPeek', WHERE WHAT IT READS IS OF BULK AT MOST 1048576: true; the input reads as it did. -/
def hlcPeekUptoRow : OpenClaim := { program := "ytejligapkgnnnaa", sum := "36e78d5e08f1f1f00efff27968580846f929c9532cb9b76abf2b79f48af1e42c", func := "newsreel/newsreellaw8.HlcPeek", spec := "hlcPeek", apart := false, narrowed := true }
def HlcPeekUptoSaid : Prop := hlcPeekUptoRow.holds Try.pinned (OpenSpec.upto hlcPeekSpec)

/-- 'newsreellaw1.NumPuts', WHERE WHAT IT READS IS OF BULK AT MOST 1048576: true; the input reads as it did. -/
def numPutsUptoRow : OpenClaim := { program := "ytejligapkgnnnaa", sum := "36e78d5e08f1f1f00efff27968580846f929c9532cb9b76abf2b79f48af1e42c", func := "newsreel/newsreellaw1.NumPuts", spec := "numPuts", apart := false, narrowed := true }
def NumPutsUptoSaid : Prop := numPutsUptoRow.holds Try.pinned (OpenSpec.upto numPutsSpec)

/-- 'newsreellaw1.NumTakes', WHERE WHAT IT READS IS OF BULK AT MOST 1048576: true; the input reads as it did. -/
def numTakesUptoRow : OpenClaim := { program := "ytejligapkgnnnaa", sum := "36e78d5e08f1f1f00efff27968580846f929c9532cb9b76abf2b79f48af1e42c", func := "newsreel/newsreellaw1.NumTakes", spec := "numTakes", apart := false, narrowed := true }
def NumTakesUptoSaid : Prop := numTakesUptoRow.holds Try.pinned (OpenSpec.upto numTakesSpec)

/-- 'newsreellaw1.NumBack', WHERE WHAT IT READS IS OF BULK AT MOST 1048576: true; the input reads as it did. -/
def numBackUptoRow : OpenClaim := { program := "ytejligapkgnnnaa", sum := "36e78d5e08f1f1f00efff27968580846f929c9532cb9b76abf2b79f48af1e42c", func := "newsreel/newsreellaw1.NumBack", spec := "numBack", apart := false, narrowed := true }
def NumBackUptoSaid : Prop := numBackUptoRow.holds Try.pinned (OpenSpec.upto numBackSpec)

/-- 'newsreellaw1.NumOne', WHERE WHAT IT READS IS OF BULK AT MOST 1048576: true; the input reads as it did. -/
def numOneUptoRow : OpenClaim := { program := "ytejligapkgnnnaa", sum := "36e78d5e08f1f1f00efff27968580846f929c9532cb9b76abf2b79f48af1e42c", func := "newsreel/newsreellaw1.NumOne", spec := "numOne", apart := false, narrowed := true }
def NumOneUptoSaid : Prop := numOneUptoRow.holds Try.pinned (OpenSpec.upto numOneSpec)

/-- 'newsreellaw1.NumSizes', WHERE WHAT IT READS IS OF BULK AT MOST 1048576: true; the input reads as it did. -/
def numSizesUptoRow : OpenClaim := { program := "ytejligapkgnnnaa", sum := "36e78d5e08f1f1f00efff27968580846f929c9532cb9b76abf2b79f48af1e42c", func := "newsreel/newsreellaw1.NumSizes", spec := "numSizes", apart := false, narrowed := true }
def NumSizesUptoSaid : Prop := numSizesUptoRow.holds Try.pinned (OpenSpec.upto numSizesSpec)

/-- 'newsreellaw1.NumFixed', WHERE WHAT IT READS IS OF BULK AT MOST 1048576: true; the input reads as it did. -/
def numFixedUptoRow : OpenClaim := { program := "ytejligapkgnnnaa", sum := "36e78d5e08f1f1f00efff27968580846f929c9532cb9b76abf2b79f48af1e42c", func := "newsreel/newsreellaw1.NumFixed", spec := "numFixed", apart := false, narrowed := true }
def NumFixedUptoSaid : Prop := numFixedUptoRow.holds Try.pinned (OpenSpec.upto numFixedSpec)

/-- 'newsreellaw1.NumMany', WHERE WHAT IT READS IS OF BULK AT MOST 1048576: true; the input reads as it did. -/
def numManyUptoRow : OpenClaim := { program := "ytejligapkgnnnaa", sum := "36e78d5e08f1f1f00efff27968580846f929c9532cb9b76abf2b79f48af1e42c", func := "newsreel/newsreellaw1.NumMany", spec := "numMany", apart := false, narrowed := true }
def NumManyUptoSaid : Prop := numManyUptoRow.holds Try.pinned (OpenSpec.upto numManySpec)

end Rows
end Go.Proofs.Ytejligapkgnnnaa
