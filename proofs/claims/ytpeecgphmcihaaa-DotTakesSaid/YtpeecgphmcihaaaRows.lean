/-
  No cell of these rows narrows 'for every input' (looked for: loops, veiled, ifaces, maps, wideKeys, modest, calm, conditions, laid).
  DERIVED. THE GIVEN ROWS OF THIS SEAT. 5 by the template 'for every input the law returns true; each argument reads behind the call as it read before'; 0 by the template 'total and deterministic' (their statements: YtpeecgphmcihaaaTotals.lean).
  GIVEN WITH THE SEED: the statements are not yours to turn. If you find one false, say at which input.
  Laid BY PROGRAM, IN A SANDBOX (cutbox-rows.mjs): the forced cells as the released guide's own fill.sh prints them over the translation a6cc9d465c130a51… (all of the seat's roots in one cut). By AI agents, Wed Nov 11 2026. No macro, syntax, notation, axiom, sorry.
-/
import Derived.Test.YtpeecgphmcihaaaChecked
import GoSem.Claim
import GoSem.ClaimJoined
import GoSem.ClaimMapViews
import Derived.JoinedTies
import Derived.KernelRfl
namespace Go.Proofs.Ytpeecgphmcihaaa
/- THE CELL 'sum', in the pinned program and in every row, IS THE sha256 OF THE DUMP (.gsa) THAT YtpeecgphmcihaaaProg.lean LOADS. Nothing in Lean hashes anything: it is a label: what it is worth is what the hold of that sum in a sandbox is worth. -/
noncomputable def Try.pinned : Pinned := { name := "ytpeecgphmcihaaa", sum := "a6cc9d465c130a5198112e14a37a3470424a7e5a0be93e064cd25a004fe70d4b", checked := Try.checked }
namespace Rows
def none {H : Type} : Left H := { results := [], args := [] }

/-- 'newsreellaw9.DotOrder': WHATEVER THE INPUT: true; the input reads as it did. -/
def dotOrderSpec : ChangeSpec := { name := "dotOrder", fn := fun _ => fun
  | [d1, d2, d3] => { results := [.lit (.bool true)], args := [d1, d2, d3] }
  | _ => none }
def dotOrderRow : OpenClaim := { program := "ytpeecgphmcihaaa", sum := "a6cc9d465c130a5198112e14a37a3470424a7e5a0be93e064cd25a004fe70d4b", func := "newsreel/newsreellaw9.DotOrder", spec := "dotOrder", unfollowed := true, recurses := true, apart := false }
def DotOrderSaid : Prop := dotOrderRow.holds Try.pinned (OpenSpec.ofChange dotOrderSpec)

/-- ITS FALSE NEIGHBOUR: 'it returns false'. Refute it at one input. -/
def dotOrderWrong : ChangeSpec := { name := "dotOrder", fn := fun _ => fun
  | [d1, d2, d3] => { results := [.lit (.bool false)], args := [d1, d2, d3] }
  | _ => none }
def DotOrderWrongFalsely : Prop := dotOrderRow.holds Try.pinned (OpenSpec.ofChange dotOrderWrong)

/-- 'newsreellaw9.DotSorts': WHATEVER THE INPUT: true; the input reads as it did. -/
def dotSortsSpec : ChangeSpec := { name := "dotSorts", fn := fun _ => fun
  | [d1, d2, d3] => { results := [.lit (.bool true)], args := [d1, d2, d3] }
  | _ => none }
def dotSortsRow : OpenClaim := { program := "ytpeecgphmcihaaa", sum := "a6cc9d465c130a5198112e14a37a3470424a7e5a0be93e064cd25a004fe70d4b", func := "newsreel/newsreellaw9.DotSorts", spec := "dotSorts", unfollowed := true, recurses := true, apart := false }
def DotSortsSaid : Prop := dotSortsRow.holds Try.pinned (OpenSpec.ofChange dotSortsSpec)

/-- ITS FALSE NEIGHBOUR: 'it returns false'. Refute it at one input. -/
def dotSortsWrong : ChangeSpec := { name := "dotSorts", fn := fun _ => fun
  | [d1, d2, d3] => { results := [.lit (.bool false)], args := [d1, d2, d3] }
  | _ => none }
def DotSortsWrongFalsely : Prop := dotSortsRow.holds Try.pinned (OpenSpec.ofChange dotSortsWrong)

/-- 'newsreellaw9.DotTakes': WHATEVER THE INPUT: true; the input reads as it did. -/
def dotTakesSpec : ChangeSpec := { name := "dotTakes", fn := fun _ => fun
  | [d1, d2, d3, d4, d5, d6] => { results := [.lit (.bool true)], args := [d1, d2, d3, d4, d5, d6] }
  | _ => none }
def dotTakesRow : OpenClaim := { program := "ytpeecgphmcihaaa", sum := "a6cc9d465c130a5198112e14a37a3470424a7e5a0be93e064cd25a004fe70d4b", func := "newsreel/newsreellaw9.DotTakes", spec := "dotTakes", unfollowed := true, recurses := true, apart := false }
def DotTakesSaid : Prop := dotTakesRow.holds Try.pinned (OpenSpec.ofChange dotTakesSpec)

/-- ITS FALSE NEIGHBOUR: 'it returns false'. Refute it at one input. -/
def dotTakesWrong : ChangeSpec := { name := "dotTakes", fn := fun _ => fun
  | [d1, d2, d3, d4, d5, d6] => { results := [.lit (.bool false)], args := [d1, d2, d3, d4, d5, d6] }
  | _ => none }
def DotTakesWrongFalsely : Prop := dotTakesRow.holds Try.pinned (OpenSpec.ofChange dotTakesWrong)

/-- 'newsreellaw9.DotLists': WHATEVER THE INPUT: true; the input reads as it did. -/
def dotListsSpec : ChangeSpec := { name := "dotLists", fn := fun _ => fun
  | [d1, d2, d3] => { results := [.lit (.bool true)], args := [d1, d2, d3] }
  | _ => none }
def dotListsRow : OpenClaim := { program := "ytpeecgphmcihaaa", sum := "a6cc9d465c130a5198112e14a37a3470424a7e5a0be93e064cd25a004fe70d4b", func := "newsreel/newsreellaw9.DotLists", spec := "dotLists", unfollowed := true, recurses := true, apart := false }
def DotListsSaid : Prop := dotListsRow.holds Try.pinned (OpenSpec.ofChange dotListsSpec)

/-- ITS FALSE NEIGHBOUR: 'it returns false'. Refute it at one input. -/
def dotListsWrong : ChangeSpec := { name := "dotLists", fn := fun _ => fun
  | [d1, d2, d3] => { results := [.lit (.bool false)], args := [d1, d2, d3] }
  | _ => none }
def DotListsWrongFalsely : Prop := dotListsRow.holds Try.pinned (OpenSpec.ofChange dotListsWrong)

/-- 'newsreellaw9.DotAll': WHATEVER THE INPUT: true; the input reads as it did. -/
def dotAllSpec : ChangeSpec := { name := "dotAll", fn := fun _ => fun
  | [d1, d2, d3, d4, d5] => { results := [.lit (.bool true)], args := [d1, d2, d3, d4, d5] }
  | _ => none }
def dotAllRow : OpenClaim := { program := "ytpeecgphmcihaaa", sum := "a6cc9d465c130a5198112e14a37a3470424a7e5a0be93e064cd25a004fe70d4b", func := "newsreel/newsreellaw9.DotAll", spec := "dotAll", unfollowed := true, recurses := true, apart := false }
def DotAllSaid : Prop := dotAllRow.holds Try.pinned (OpenSpec.ofChange dotAllSpec)

/-- ITS FALSE NEIGHBOUR: 'it returns false'. Refute it at one input. -/
def dotAllWrong : ChangeSpec := { name := "dotAll", fn := fun _ => fun
  | [d1, d2, d3, d4, d5] => { results := [.lit (.bool false)], args := [d1, d2, d3, d4, d5] }
  | _ => none }
def DotAllWrongFalsely : Prop := dotAllRow.holds Try.pinned (OpenSpec.ofChange dotAllWrong)

/- THE SECOND FORM. 'bulk': how many values and letters a reading holds, each counted each time it is reached (what is shared counts as often as it is met; a slice's spare places count too). A statement '..UptoSaid' is the law's where the arguments, and the package variables that the reading takes, are together of bulk at most 1048576: NARROWER than '..Said'. Prove '..Said' where nothing that the law and all that it calls make is longer than what came in: it says more and counts as full. Else prove '..UptoSaid'. A law counts once. -/
mutual
def uptoBulk {H : Type} : DataW H → Nat
  | .lit (.string bytes) => bytes.length + 1
  | .lit _ => 1
  | .nil => 1
  | .ptr d => uptoBulk d + 1
  | .slice elems spare => uptoBulkAll elems + uptoBulkAll spare + 1
  | .agg parts => uptoBulkAll parts + 1
  | .iface _ d => uptoBulk d + 1
  | .map entries => uptoBulkEntries entries + 1
  | .held _ => 1
def uptoBulkAll {H : Type} : List (DataW H) → Nat
  | [] => 0
  | d :: r => uptoBulk d + uptoBulkAll r
def uptoBulkEntries {H : Type} : List (Lit × DataW H) → Nat
  | [] => 0
  | x :: r => uptoBulkEntry x + uptoBulkEntries r
def uptoBulkEntry {H : Type} : Lit × DataW H → Nat
  | (.string bytes, d) => bytes.length + uptoBulk d + 1
  | (_, d) => uptoBulk d + 1
 end
def uptoSmall : (H : Type) → List (DataW H) → Bool := fun _ ds => decide (uptoBulkAll ds ≤ 1048576)
def OpenSpec.upto (s : _root_.Go.ChangeSpec) : _root_.Go.OpenSpec := { _root_.Go.OpenSpec.ofChange s with cond := some uptoSmall }

/-- 'newsreellaw9.DotOrder', WHERE WHAT IT READS IS OF BULK AT MOST 1048576: true; the input reads as it did. -/
def dotOrderUptoRow : OpenClaim := { program := "ytpeecgphmcihaaa", sum := "a6cc9d465c130a5198112e14a37a3470424a7e5a0be93e064cd25a004fe70d4b", func := "newsreel/newsreellaw9.DotOrder", spec := "dotOrder", unfollowed := true, recurses := true, apart := false, narrowed := true }
def DotOrderUptoSaid : Prop := dotOrderUptoRow.holds Try.pinned (OpenSpec.upto dotOrderSpec)

/-- 'newsreellaw9.DotSorts', WHERE WHAT IT READS IS OF BULK AT MOST 1048576: true; the input reads as it did. -/
def dotSortsUptoRow : OpenClaim := { program := "ytpeecgphmcihaaa", sum := "a6cc9d465c130a5198112e14a37a3470424a7e5a0be93e064cd25a004fe70d4b", func := "newsreel/newsreellaw9.DotSorts", spec := "dotSorts", unfollowed := true, recurses := true, apart := false, narrowed := true }
def DotSortsUptoSaid : Prop := dotSortsUptoRow.holds Try.pinned (OpenSpec.upto dotSortsSpec)

/-- 'newsreellaw9.DotTakes', WHERE WHAT IT READS IS OF BULK AT MOST 1048576: true; the input reads as it did. -/
def dotTakesUptoRow : OpenClaim := { program := "ytpeecgphmcihaaa", sum := "a6cc9d465c130a5198112e14a37a3470424a7e5a0be93e064cd25a004fe70d4b", func := "newsreel/newsreellaw9.DotTakes", spec := "dotTakes", unfollowed := true, recurses := true, apart := false, narrowed := true }
def DotTakesUptoSaid : Prop := dotTakesUptoRow.holds Try.pinned (OpenSpec.upto dotTakesSpec)

/-- 'newsreellaw9.DotLists', WHERE WHAT IT READS IS OF BULK AT MOST 1048576: true; the input reads as it did. -/
def dotListsUptoRow : OpenClaim := { program := "ytpeecgphmcihaaa", sum := "a6cc9d465c130a5198112e14a37a3470424a7e5a0be93e064cd25a004fe70d4b", func := "newsreel/newsreellaw9.DotLists", spec := "dotLists", unfollowed := true, recurses := true, apart := false, narrowed := true }
def DotListsUptoSaid : Prop := dotListsUptoRow.holds Try.pinned (OpenSpec.upto dotListsSpec)

/-- 'newsreellaw9.DotAll', WHERE WHAT IT READS IS OF BULK AT MOST 1048576: true; the input reads as it did. -/
def dotAllUptoRow : OpenClaim := { program := "ytpeecgphmcihaaa", sum := "a6cc9d465c130a5198112e14a37a3470424a7e5a0be93e064cd25a004fe70d4b", func := "newsreel/newsreellaw9.DotAll", spec := "dotAll", unfollowed := true, recurses := true, apart := false, narrowed := true }
def DotAllUptoSaid : Prop := dotAllUptoRow.holds Try.pinned (OpenSpec.upto dotAllSpec)

end Rows
end Go.Proofs.Ytpeecgphmcihaaa
