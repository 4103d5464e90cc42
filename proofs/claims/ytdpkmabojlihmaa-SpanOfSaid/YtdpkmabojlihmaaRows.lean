/-
  No cell of these rows narrows 'for every input' (looked for: loops, veiled, ifaces, maps, wideKeys, modest, calm, conditions, laid).
  DERIVED. THE GIVEN ROWS OF THIS SEAT. 6 by the template 'for every input the law returns true; each argument reads behind the call as it read before'; 0 by the template 'total and deterministic' (their statements: YtdpkmabojlihmaaTotals.lean).
  GIVEN WITH THE SEED: the statements are not yours to turn. If you find one false, say at which input.
  Laid BY PROGRAM, IN A SANDBOX (cutbox-rows.mjs): the forced cells as the released guide's own fill.sh prints them over the translation dfeb564baa70455e… (all of the seat's roots in one cut). By AI agents, Wed Nov 11 2026. No macro, syntax, notation, axiom, sorry.
-/
import Derived.Test.YtdpkmabojlihmaaChecked
import GoSem.Claim
import GoSem.ClaimJoined
import GoSem.ClaimMapViews
import Derived.JoinedTies
import Derived.KernelRfl
namespace Go.Proofs.Ytdpkmabojlihmaa
/- THE CELL 'sum', in the pinned program and in every row, IS THE sha256 OF THE DUMP (.gsa) THAT YtdpkmabojlihmaaProg.lean LOADS. Nothing in Lean hashes anything: it is a label: what it is worth is what the hold of that sum in a sandbox is worth. -/
noncomputable def Try.pinned : Pinned := { name := "ytdpkmabojlihmaa", sum := "dfeb564baa70455ed946c5a0249ec6e7a8b79ebe4aff5f40eb6d07b7c6a9548d", checked := Try.checked }
namespace Rows
def none {H : Type} : Left H := { results := [], args := [] }

/-- 'newsreellaw10.SpanRight': WHATEVER THE INPUT: true; the input reads as it did. -/
def spanRightSpec : ChangeSpec := { name := "spanRight", fn := fun _ => fun
  | [d1, d2, d3, d4] => { results := [.lit (.bool true)], args := [d1, d2, d3, d4] }
  | _ => none }
def spanRightRow : OpenClaim := { program := "ytdpkmabojlihmaa", sum := "dfeb564baa70455ed946c5a0249ec6e7a8b79ebe4aff5f40eb6d07b7c6a9548d", func := "newsreel/newsreellaw10.SpanRight", spec := "spanRight", unfollowed := true, recurses := true, apart := false }
def SpanRightSaid : Prop := spanRightRow.holds Try.pinned (OpenSpec.ofChange spanRightSpec)

/-- ITS FALSE NEIGHBOUR: 'it returns false'. Refute it at one input. -/
def spanRightWrong : ChangeSpec := { name := "spanRight", fn := fun _ => fun
  | [d1, d2, d3, d4] => { results := [.lit (.bool false)], args := [d1, d2, d3, d4] }
  | _ => none }
def SpanRightWrongFalsely : Prop := spanRightRow.holds Try.pinned (OpenSpec.ofChange spanRightWrong)

/-- 'newsreellaw10.SpanOf': WHATEVER THE INPUT: true; the input reads as it did. -/
def spanOfSpec : ChangeSpec := { name := "spanOf", fn := fun _ => fun
  | [d1, d2, d3] => { results := [.lit (.bool true)], args := [d1, d2, d3] }
  | _ => none }
def spanOfRow : OpenClaim := { program := "ytdpkmabojlihmaa", sum := "dfeb564baa70455ed946c5a0249ec6e7a8b79ebe4aff5f40eb6d07b7c6a9548d", func := "newsreel/newsreellaw10.SpanOf", spec := "spanOf", unfollowed := true, recurses := true, apart := false }
def SpanOfSaid : Prop := spanOfRow.holds Try.pinned (OpenSpec.ofChange spanOfSpec)

/-- ITS FALSE NEIGHBOUR: 'it returns false'. Refute it at one input. -/
def spanOfWrong : ChangeSpec := { name := "spanOf", fn := fun _ => fun
  | [d1, d2, d3] => { results := [.lit (.bool false)], args := [d1, d2, d3] }
  | _ => none }
def SpanOfWrongFalsely : Prop := spanOfRow.holds Try.pinned (OpenSpec.ofChange spanOfWrong)

/-- 'newsreellaw10.SpanSets': WHATEVER THE INPUT: true; the input reads as it did. -/
def spanSetsSpec : ChangeSpec := { name := "spanSets", fn := fun _ => fun
  | [d1, d2, d3] => { results := [.lit (.bool true)], args := [d1, d2, d3] }
  | _ => none }
def spanSetsRow : OpenClaim := { program := "ytdpkmabojlihmaa", sum := "dfeb564baa70455ed946c5a0249ec6e7a8b79ebe4aff5f40eb6d07b7c6a9548d", func := "newsreel/newsreellaw10.SpanSets", spec := "spanSets", unfollowed := true, recurses := true, apart := false }
def SpanSetsSaid : Prop := spanSetsRow.holds Try.pinned (OpenSpec.ofChange spanSetsSpec)

/-- ITS FALSE NEIGHBOUR: 'it returns false'. Refute it at one input. -/
def spanSetsWrong : ChangeSpec := { name := "spanSets", fn := fun _ => fun
  | [d1, d2, d3] => { results := [.lit (.bool false)], args := [d1, d2, d3] }
  | _ => none }
def SpanSetsWrongFalsely : Prop := spanSetsRow.holds Try.pinned (OpenSpec.ofChange spanSetsWrong)

/-- 'newsreellaw10.SpanAlgebra': WHATEVER THE INPUT: true; the input reads as it did. -/
def spanAlgebraSpec : ChangeSpec := { name := "spanAlgebra", fn := fun _ => fun
  | [d1, d2, d3] => { results := [.lit (.bool true)], args := [d1, d2, d3] }
  | _ => none }
def spanAlgebraRow : OpenClaim := { program := "ytdpkmabojlihmaa", sum := "dfeb564baa70455ed946c5a0249ec6e7a8b79ebe4aff5f40eb6d07b7c6a9548d", func := "newsreel/newsreellaw10.SpanAlgebra", spec := "spanAlgebra", unfollowed := true, recurses := true, apart := false }
def SpanAlgebraSaid : Prop := spanAlgebraRow.holds Try.pinned (OpenSpec.ofChange spanAlgebraSpec)

/-- ITS FALSE NEIGHBOUR: 'it returns false'. Refute it at one input. -/
def spanAlgebraWrong : ChangeSpec := { name := "spanAlgebra", fn := fun _ => fun
  | [d1, d2, d3] => { results := [.lit (.bool false)], args := [d1, d2, d3] }
  | _ => none }
def SpanAlgebraWrongFalsely : Prop := spanAlgebraRow.holds Try.pinned (OpenSpec.ofChange spanAlgebraWrong)

/-- 'newsreellaw10.SpanAdd': WHATEVER THE INPUT: true; the input reads as it did. -/
def spanAddSpec : ChangeSpec := { name := "spanAdd", fn := fun _ => fun
  | [d1, d2, d3, d4] => { results := [.lit (.bool true)], args := [d1, d2, d3, d4] }
  | _ => none }
def spanAddRow : OpenClaim := { program := "ytdpkmabojlihmaa", sum := "dfeb564baa70455ed946c5a0249ec6e7a8b79ebe4aff5f40eb6d07b7c6a9548d", func := "newsreel/newsreellaw10.SpanAdd", spec := "spanAdd", unfollowed := true, recurses := true, apart := false }
def SpanAddSaid : Prop := spanAddRow.holds Try.pinned (OpenSpec.ofChange spanAddSpec)

/-- ITS FALSE NEIGHBOUR: 'it returns false'. Refute it at one input. -/
def spanAddWrong : ChangeSpec := { name := "spanAdd", fn := fun _ => fun
  | [d1, d2, d3, d4] => { results := [.lit (.bool false)], args := [d1, d2, d3, d4] }
  | _ => none }
def SpanAddWrongFalsely : Prop := spanAddRow.holds Try.pinned (OpenSpec.ofChange spanAddWrong)

/-- 'newsreellaw10.SpanFirst': WHATEVER THE INPUT: true; the input reads as it did. -/
def spanFirstSpec : ChangeSpec := { name := "spanFirst", fn := fun _ => fun
  | [d1, d2] => { results := [.lit (.bool true)], args := [d1, d2] }
  | _ => none }
def spanFirstRow : OpenClaim := { program := "ytdpkmabojlihmaa", sum := "dfeb564baa70455ed946c5a0249ec6e7a8b79ebe4aff5f40eb6d07b7c6a9548d", func := "newsreel/newsreellaw10.SpanFirst", spec := "spanFirst", unfollowed := true, recurses := true, apart := false }
def SpanFirstSaid : Prop := spanFirstRow.holds Try.pinned (OpenSpec.ofChange spanFirstSpec)

/-- ITS FALSE NEIGHBOUR: 'it returns false'. Refute it at one input. -/
def spanFirstWrong : ChangeSpec := { name := "spanFirst", fn := fun _ => fun
  | [d1, d2] => { results := [.lit (.bool false)], args := [d1, d2] }
  | _ => none }
def SpanFirstWrongFalsely : Prop := spanFirstRow.holds Try.pinned (OpenSpec.ofChange spanFirstWrong)

/- THE SECOND FORM. 'bulk': how many values and letters a reading holds, each counted each time it is reached (what is shared counts as often as it is met; a slice's spare places count too). A statement '..UptoSaid' is the law's where the arguments, and the package variables that the reading takes, are together of bulk at most 1048576: NARROWER than '..Said'. Prove '..Said' where nothing that the law and all that it calls make is longer than what came in: it says more and counts as full. Else prove '..UptoSaid'. A law counts once. -/
mutual
def uptoBulk {H : Type} : DataW H → Nat
  | .lit (.string bytes) => bytes.length + 1
  | .lit _ => 1
  | .nil => 1
  | .ptr d => uptoBulk d + 1
  | .slice elems spare => uptoBulkAll elems + uptoBulkAll spare + 1
  | .agg parts => uptoBulkAll parts + 1
  | .iface _ d => uptoBulk d + 1
  | .map entries => uptoBulkEntries entries + 1
  | .held _ => 1
def uptoBulkAll {H : Type} : List (DataW H) → Nat
  | [] => 0
  | d :: r => uptoBulk d + uptoBulkAll r
def uptoBulkEntries {H : Type} : List (Lit × DataW H) → Nat
  | [] => 0
  | x :: r => uptoBulkEntry x + uptoBulkEntries r
def uptoBulkEntry {H : Type} : Lit × DataW H → Nat
  | (.string bytes, d) => bytes.length + uptoBulk d + 1
  | (_, d) => uptoBulk d + 1
 end
def uptoSmall : (H : Type) → List (DataW H) → Bool := fun _ ds => decide (uptoBulkAll ds ≤ 1048576)
def OpenSpec.upto (s : _root_.Go.ChangeSpec) : _root_.Go.OpenSpec := { _root_.Go.OpenSpec.ofChange s with cond := some uptoSmall }

/-- 'newsreellaw10.SpanRight', WHERE WHAT IT READS IS OF BULK AT MOST 1048576: true; the input reads as it did. -/
def spanRightUptoRow : OpenClaim := { program := "ytdpkmabojlihmaa", sum := "dfeb564baa70455ed946c5a0249ec6e7a8b79ebe4aff5f40eb6d07b7c6a9548d", func := "newsreel/newsreellaw10.SpanRight", spec := "spanRight", unfollowed := true, recurses := true, apart := false, narrowed := true }
def SpanRightUptoSaid : Prop := spanRightUptoRow.holds Try.pinned (OpenSpec.upto spanRightSpec)

/-- 'newsreellaw10.SpanOf', WHERE WHAT IT READS IS OF BULK AT MOST 1048576: true; the input reads as it did. -/
def spanOfUptoRow : OpenClaim := { program := "ytdpkmabojlihmaa", sum := "dfeb564baa70455ed946c5a0249ec6e7a8b79ebe4aff5f40eb6d07b7c6a9548d", func := "newsreel/newsreellaw10.SpanOf", spec := "spanOf", unfollowed := true, recurses := true, apart := false, narrowed := true }
def SpanOfUptoSaid : Prop := spanOfUptoRow.holds Try.pinned (OpenSpec.upto spanOfSpec)

/-- 'newsreellaw10.SpanSets', WHERE WHAT IT READS IS OF BULK AT MOST 1048576: true; the input reads as it did. -/
def spanSetsUptoRow : OpenClaim := { program := "ytdpkmabojlihmaa", sum := "dfeb564baa70455ed946c5a0249ec6e7a8b79ebe4aff5f40eb6d07b7c6a9548d", func := "newsreel/newsreellaw10.SpanSets", spec := "spanSets", unfollowed := true, recurses := true, apart := false, narrowed := true }
def SpanSetsUptoSaid : Prop := spanSetsUptoRow.holds Try.pinned (OpenSpec.upto spanSetsSpec)

/-- 'newsreellaw10.SpanAlgebra', WHERE WHAT IT READS IS OF BULK AT MOST 1048576: true; the input reads as it did. -/
def spanAlgebraUptoRow : OpenClaim := { program := "ytdpkmabojlihmaa", sum := "dfeb564baa70455ed946c5a0249ec6e7a8b79ebe4aff5f40eb6d07b7c6a9548d", func := "newsreel/newsreellaw10.SpanAlgebra", spec := "spanAlgebra", unfollowed := true, recurses := true, apart := false, narrowed := true }
def SpanAlgebraUptoSaid : Prop := spanAlgebraUptoRow.holds Try.pinned (OpenSpec.upto spanAlgebraSpec)

/-- 'newsreellaw10.SpanAdd', WHERE WHAT IT READS IS OF BULK AT MOST 1048576: true; the input reads as it did. -/
def spanAddUptoRow : OpenClaim := { program := "ytdpkmabojlihmaa", sum := "dfeb564baa70455ed946c5a0249ec6e7a8b79ebe4aff5f40eb6d07b7c6a9548d", func := "newsreel/newsreellaw10.SpanAdd", spec := "spanAdd", unfollowed := true, recurses := true, apart := false, narrowed := true }
def SpanAddUptoSaid : Prop := spanAddUptoRow.holds Try.pinned (OpenSpec.upto spanAddSpec)

/-- 'newsreellaw10.SpanFirst', WHERE WHAT IT READS IS OF BULK AT MOST 1048576: true; the input reads as it did. -/
def spanFirstUptoRow : OpenClaim := { program := "ytdpkmabojlihmaa", sum := "dfeb564baa70455ed946c5a0249ec6e7a8b79ebe4aff5f40eb6d07b7c6a9548d", func := "newsreel/newsreellaw10.SpanFirst", spec := "spanFirst", unfollowed := true, recurses := true, apart := false, narrowed := true }
def SpanFirstUptoSaid : Prop := spanFirstUptoRow.holds Try.pinned (OpenSpec.upto spanFirstSpec)

end Rows
end Go.Proofs.Ytdpkmabojlihmaa
