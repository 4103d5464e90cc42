/-
  No cell of these rows narrows 'for every input' (looked for: loops, veiled, ifaces, maps, wideKeys, modest, calm, conditions, laid).
  DERIVED. THE GIVEN ROWS OF THIS SEAT. 8 by the template 'for every input the law returns true; each argument reads behind the call as it read before'; 0 by the template 'total and deterministic' (their statements: YthpooogjlmaemaaTotals.lean).
  GIVEN WITH THE SEED: the statements are not yours to turn. If you find one false, say at which input.
  Laid BY PROGRAM, IN A SANDBOX (cutbox-rows.mjs): the forced cells as the released guide's own fill.sh prints them over the translation 23b7b1713e23186c… (all of the seat's roots in one cut). By AI agents, Wed Nov 11 2026. No macro, syntax, notation, axiom, sorry.
-/
import Derived.Test.YthpooogjlmaemaaChecked
import GoSem.Claim
import GoSem.ClaimJoined
import GoSem.ClaimMapViews
import Derived.JoinedTies
import Derived.KernelRfl
namespace Go.Proofs.Ythpooogjlmaemaa
/- THE CELL 'sum', in the pinned program and in every row, IS THE sha256 OF THE DUMP (.gsa) THAT YthpooogjlmaemaaProg.lean LOADS. Nothing in Lean hashes anything: it is a label: what it is worth is what the hold of that sum in a sandbox is worth. -/
noncomputable def Try.pinned : Pinned := { name := "ythpooogjlmaemaa", sum := "23b7b1713e23186cc25805f9f0b4c74b19d51d71f7be14f90b532a2f87fc4ff0", checked := Try.checked }
namespace Rows
def none {H : Type} : Left H := { results := [], args := [] }

/-- 'newsreellaw7.StampOrder': WHATEVER THE INPUT: true; the input reads as it did. -/
def stampOrderSpec : ChangeSpec := { name := "stampOrder", fn := fun _ => fun
  | [d1, d2, d3, d4] => { results := [.lit (.bool true)], args := [d1, d2, d3, d4] }
  | _ => none }
def stampOrderRow : OpenClaim := { program := "ythpooogjlmaemaa", sum := "23b7b1713e23186cc25805f9f0b4c74b19d51d71f7be14f90b532a2f87fc4ff0", func := "newsreel/newsreellaw7.StampOrder", spec := "stampOrder", apart := false }
def StampOrderSaid : Prop := stampOrderRow.holds Try.pinned (OpenSpec.ofChange stampOrderSpec)

/-- ITS FALSE NEIGHBOUR: 'it returns false'. Refute it at one input. -/
def stampOrderWrong : ChangeSpec := { name := "stampOrder", fn := fun _ => fun
  | [d1, d2, d3, d4] => { results := [.lit (.bool false)], args := [d1, d2, d3, d4] }
  | _ => none }
def StampOrderWrongFalsely : Prop := stampOrderRow.holds Try.pinned (OpenSpec.ofChange stampOrderWrong)

/-- 'newsreellaw7.StampBytes': WHATEVER THE INPUT: true; the input reads as it did. -/
def stampBytesSpec : ChangeSpec := { name := "stampBytes", fn := fun _ => fun
  | [d1, d2] => { results := [.lit (.bool true)], args := [d1, d2] }
  | _ => none }
def stampBytesRow : OpenClaim := { program := "ythpooogjlmaemaa", sum := "23b7b1713e23186cc25805f9f0b4c74b19d51d71f7be14f90b532a2f87fc4ff0", func := "newsreel/newsreellaw7.StampBytes", spec := "stampBytes", apart := false }
def StampBytesSaid : Prop := stampBytesRow.holds Try.pinned (OpenSpec.ofChange stampBytesSpec)

/-- ITS FALSE NEIGHBOUR: 'it returns false'. Refute it at one input. -/
def stampBytesWrong : ChangeSpec := { name := "stampBytes", fn := fun _ => fun
  | [d1, d2] => { results := [.lit (.bool false)], args := [d1, d2] }
  | _ => none }
def StampBytesWrongFalsely : Prop := stampBytesRow.holds Try.pinned (OpenSpec.ofChange stampBytesWrong)

/-- 'newsreellaw7.StampReads': WHATEVER THE INPUT: true; the input reads as it did. -/
def stampReadsSpec : ChangeSpec := { name := "stampReads", fn := fun _ => fun
  | [d1, d2] => { results := [.lit (.bool true)], args := [d1, d2] }
  | _ => none }
def stampReadsRow : OpenClaim := { program := "ythpooogjlmaemaa", sum := "23b7b1713e23186cc25805f9f0b4c74b19d51d71f7be14f90b532a2f87fc4ff0", func := "newsreel/newsreellaw7.StampReads", spec := "stampReads", apart := false }
def StampReadsSaid : Prop := stampReadsRow.holds Try.pinned (OpenSpec.ofChange stampReadsSpec)

/-- ITS FALSE NEIGHBOUR: 'it returns false'. Refute it at one input. -/
def stampReadsWrong : ChangeSpec := { name := "stampReads", fn := fun _ => fun
  | [d1, d2] => { results := [.lit (.bool false)], args := [d1, d2] }
  | _ => none }
def StampReadsWrongFalsely : Prop := stampReadsRow.holds Try.pinned (OpenSpec.ofChange stampReadsWrong)

/-- 'newsreellaw7.StampMax': WHATEVER THE INPUT: true; the input reads as it did. -/
def stampMaxSpec : ChangeSpec := { name := "stampMax", fn := fun _ => fun
  | [d] => { results := [.lit (.bool true)], args := [d] }
  | _ => none }
def stampMaxRow : OpenClaim := { program := "ythpooogjlmaemaa", sum := "23b7b1713e23186cc25805f9f0b4c74b19d51d71f7be14f90b532a2f87fc4ff0", func := "newsreel/newsreellaw7.StampMax", spec := "stampMax", apart := false }
def StampMaxSaid : Prop := stampMaxRow.holds Try.pinned (OpenSpec.ofChange stampMaxSpec)

/-- ITS FALSE NEIGHBOUR: 'it returns false'. Refute it at one input. -/
def stampMaxWrong : ChangeSpec := { name := "stampMax", fn := fun _ => fun
  | [d] => { results := [.lit (.bool false)], args := [d] }
  | _ => none }
def StampMaxWrongFalsely : Prop := stampMaxRow.holds Try.pinned (OpenSpec.ofChange stampMaxWrong)

/-- 'newsreellaw8.HlcEnd': WHATEVER THE INPUT: true; the input reads as it did. -/
def hlcEndSpec : ChangeSpec := { name := "hlcEnd", fn := fun _ => fun
  | [d1, d2, d3] => { results := [.lit (.bool true)], args := [d1, d2, d3] }
  | _ => none }
def hlcEndRow : OpenClaim := { program := "ythpooogjlmaemaa", sum := "23b7b1713e23186cc25805f9f0b4c74b19d51d71f7be14f90b532a2f87fc4ff0", func := "newsreel/newsreellaw8.HlcEnd", spec := "hlcEnd", apart := false }
def HlcEndSaid : Prop := hlcEndRow.holds Try.pinned (OpenSpec.ofChange hlcEndSpec)

/-- ITS FALSE NEIGHBOUR: 'it returns false'. Refute it at one input. -/
def hlcEndWrong : ChangeSpec := { name := "hlcEnd", fn := fun _ => fun
  | [d1, d2, d3] => { results := [.lit (.bool false)], args := [d1, d2, d3] }
  | _ => none }
def HlcEndWrongFalsely : Prop := hlcEndRow.holds Try.pinned (OpenSpec.ofChange hlcEndWrong)

/-- 'newsreellaw8.HlcDrift': WHATEVER THE INPUT: true; the input reads as it did. -/
def hlcDriftSpec : ChangeSpec := { name := "hlcDrift", fn := fun _ => fun
  | [d1, d2, d3, d4] => { results := [.lit (.bool true)], args := [d1, d2, d3, d4] }
  | _ => none }
def hlcDriftRow : OpenClaim := { program := "ythpooogjlmaemaa", sum := "23b7b1713e23186cc25805f9f0b4c74b19d51d71f7be14f90b532a2f87fc4ff0", func := "newsreel/newsreellaw8.HlcDrift", spec := "hlcDrift", apart := false }
def HlcDriftSaid : Prop := hlcDriftRow.holds Try.pinned (OpenSpec.ofChange hlcDriftSpec)

/-- ITS FALSE NEIGHBOUR: 'it returns false'. Refute it at one input. -/
def hlcDriftWrong : ChangeSpec := { name := "hlcDrift", fn := fun _ => fun
  | [d1, d2, d3, d4] => { results := [.lit (.bool false)], args := [d1, d2, d3, d4] }
  | _ => none }
def HlcDriftWrongFalsely : Prop := hlcDriftRow.holds Try.pinned (OpenSpec.ofChange hlcDriftWrong)

/-- 'newsreellaw8.HlcPlays': WHATEVER THE INPUT: true; the input reads as it did. -/
def hlcPlaysSpec : ChangeSpec := { name := "hlcPlays", fn := fun _ => fun
  | [d1, d2, d3, d4, d5] => { results := [.lit (.bool true)], args := [d1, d2, d3, d4, d5] }
  | _ => none }
def hlcPlaysRow : OpenClaim := { program := "ythpooogjlmaemaa", sum := "23b7b1713e23186cc25805f9f0b4c74b19d51d71f7be14f90b532a2f87fc4ff0", func := "newsreel/newsreellaw8.HlcPlays", spec := "hlcPlays", apart := false }
def HlcPlaysSaid : Prop := hlcPlaysRow.holds Try.pinned (OpenSpec.ofChange hlcPlaysSpec)

/-- ITS FALSE NEIGHBOUR: 'it returns false'. Refute it at one input. -/
def hlcPlaysWrong : ChangeSpec := { name := "hlcPlays", fn := fun _ => fun
  | [d1, d2, d3, d4, d5] => { results := [.lit (.bool false)], args := [d1, d2, d3, d4, d5] }
  | _ => none }
def HlcPlaysWrongFalsely : Prop := hlcPlaysRow.holds Try.pinned (OpenSpec.ofChange hlcPlaysWrong)

/-- 'newsreellaw8.HlcRises': WHATEVER THE INPUT: true; the input reads as it did. -/
def hlcRisesSpec : ChangeSpec := { name := "hlcRises", fn := fun _ => fun
  | [d1, d2] => { results := [.lit (.bool true)], args := [d1, d2] }
  | _ => none }
def hlcRisesRow : OpenClaim := { program := "ythpooogjlmaemaa", sum := "23b7b1713e23186cc25805f9f0b4c74b19d51d71f7be14f90b532a2f87fc4ff0", func := "newsreel/newsreellaw8.HlcRises", spec := "hlcRises", apart := false }
def HlcRisesSaid : Prop := hlcRisesRow.holds Try.pinned (OpenSpec.ofChange hlcRisesSpec)

/-- ITS FALSE NEIGHBOUR: 'it returns false'. Refute it at one input. -/
def hlcRisesWrong : ChangeSpec := { name := "hlcRises", fn := fun _ => fun
  | [d1, d2] => { results := [.lit (.bool false)], args := [d1, d2] }
  | _ => none }
def HlcRisesWrongFalsely : Prop := hlcRisesRow.holds Try.pinned (OpenSpec.ofChange hlcRisesWrong)

/- THE SECOND FORM. 'bulk': how many values and letters a reading holds, each counted each time it is reached (what is shared counts as often as it is met; a slice's spare places count too). A statement '..UptoSaid' is the law's where the arguments, and the package variables that the reading takes, are together of bulk at most 1048576: NARROWER than '..Said'. Prove '..Said' where nothing that the law and all that it calls make is longer than what came in: it says more and counts as full. Else prove '..UptoSaid'. A law counts once. -/
mutual
def uptoBulk {H : Type} : DataW H → Nat
  | .lit (.string bytes) => bytes.length + 1
  | .lit _ => 1
  | .nil => 1
  | .ptr d => uptoBulk d + 1
  | .slice elems spare => uptoBulkAll elems + uptoBulkAll spare + 1
  | .agg parts => uptoBulkAll parts + 1
  | .iface _ d => uptoBulk d + 1
  | .map entries => uptoBulkEntries entries + 1
  | .held _ => 1
def uptoBulkAll {H : Type} : List (DataW H) → Nat
  | [] => 0
  | d :: r => uptoBulk d + uptoBulkAll r
def uptoBulkEntries {H : Type} : List (Lit × DataW H) → Nat
  | [] => 0
  | x :: r => uptoBulkEntry x + uptoBulkEntries r
def uptoBulkEntry {H : Type} : Lit × DataW H → Nat
  | (.string bytes, d) => bytes.length + uptoBulk d + 1
  | (_, d) => uptoBulk d + 1
 end
def uptoSmall : (H : Type) → List (DataW H) → Bool := fun _ ds => decide (uptoBulkAll ds ≤ 1048576)
def OpenSpec.upto (s : _root_.Go.ChangeSpec) : _root_.Go.OpenSpec := { _root_.Go.OpenSpec.ofChange s with cond := some uptoSmall }

/-- 'newsreellaw7.StampOrder', WHERE WHAT IT READS IS OF BULK AT MOST 1048576: true; the input reads as it did. -/
def stampOrderUptoRow : OpenClaim := { program := "ythpooogjlmaemaa", sum := "23b7b1713e23186cc25805f9f0b4c74b19d51d71f7be14f90b532a2f87fc4ff0", func := "newsreel/newsreellaw7.StampOrder", spec := "stampOrder", apart := false, narrowed := true }
def StampOrderUptoSaid : Prop := stampOrderUptoRow.holds Try.pinned (OpenSpec.upto stampOrderSpec)

/-- 'newsreellaw7.StampBytes', WHERE WHAT IT READS IS OF BULK AT MOST 1048576: true; the input reads as it did. -/
def stampBytesUptoRow : OpenClaim := { program := "ythpooogjlmaemaa", sum := "23b7b1713e23186cc25805f9f0b4c74b19d51d71f7be14f90b532a2f87fc4ff0", func := "newsreel/newsreellaw7.StampBytes", spec := "stampBytes", apart := false, narrowed := true }
def StampBytesUptoSaid : Prop := stampBytesUptoRow.holds Try.pinned (OpenSpec.upto stampBytesSpec)

/-- 'newsreellaw7.StampReads', WHERE WHAT IT READS IS OF BULK AT MOST 1048576: true; the input reads as it did. -/
def stampReadsUptoRow : OpenClaim := { program := "ythpooogjlmaemaa", sum := "23b7b1713e23186cc25805f9f0b4c74b19d51d71f7be14f90b532a2f87fc4ff0", func := "newsreel/newsreellaw7.StampReads", spec := "stampReads", apart := false, narrowed := true }
def StampReadsUptoSaid : Prop := stampReadsUptoRow.holds Try.pinned (OpenSpec.upto stampReadsSpec)

/-- 'newsreellaw7.StampMax', WHERE WHAT IT READS IS OF BULK AT MOST 1048576: true; the input reads as it did. -/
def stampMaxUptoRow : OpenClaim := { program := "ythpooogjlmaemaa", sum := "23b7b1713e23186cc25805f9f0b4c74b19d51d71f7be14f90b532a2f87fc4ff0", func := "newsreel/newsreellaw7.StampMax", spec := "stampMax", apart := false, narrowed := true }
def StampMaxUptoSaid : Prop := stampMaxUptoRow.holds Try.pinned (OpenSpec.upto stampMaxSpec)

/-- 'newsreellaw8.HlcEnd', WHERE WHAT IT READS IS OF BULK AT MOST 1048576: true; the input reads as it did. -/
def hlcEndUptoRow : OpenClaim := { program := "ythpooogjlmaemaa", sum := "23b7b1713e23186cc25805f9f0b4c74b19d51d71f7be14f90b532a2f87fc4ff0", func := "newsreel/newsreellaw8.HlcEnd", spec := "hlcEnd", apart := false, narrowed := true }
def HlcEndUptoSaid : Prop := hlcEndUptoRow.holds Try.pinned (OpenSpec.upto hlcEndSpec)

/-- 'newsreellaw8.HlcDrift', WHERE WHAT IT READS IS OF BULK AT MOST 1048576: true; the input reads as it did. -/
def hlcDriftUptoRow : OpenClaim := { program := "ythpooogjlmaemaa", sum := "23b7b1713e23186cc25805f9f0b4c74b19d51d71f7be14f90b532a2f87fc4ff0", func := "newsreel/newsreellaw8.HlcDrift", spec := "hlcDrift", apart := false, narrowed := true }
def HlcDriftUptoSaid : Prop := hlcDriftUptoRow.holds Try.pinned (OpenSpec.upto hlcDriftSpec)

/-- 'newsreellaw8.HlcPlays', WHERE WHAT IT READS IS OF BULK AT MOST 1048576: true; the input reads as it did. -/
def hlcPlaysUptoRow : OpenClaim := { program := "ythpooogjlmaemaa", sum := "23b7b1713e23186cc25805f9f0b4c74b19d51d71f7be14f90b532a2f87fc4ff0", func := "newsreel/newsreellaw8.HlcPlays", spec := "hlcPlays", apart := false, narrowed := true }
def HlcPlaysUptoSaid : Prop := hlcPlaysUptoRow.holds Try.pinned (OpenSpec.upto hlcPlaysSpec)

/-- 'newsreellaw8.HlcRises', WHERE WHAT IT READS IS OF BULK AT MOST 1048576: true; the input reads as it did. -/
def hlcRisesUptoRow : OpenClaim := { program := "ythpooogjlmaemaa", sum := "23b7b1713e23186cc25805f9f0b4c74b19d51d71f7be14f90b532a2f87fc4ff0", func := "newsreel/newsreellaw8.HlcRises", spec := "hlcRises", apart := false, narrowed := true }
def HlcRisesUptoSaid : Prop := hlcRisesUptoRow.holds Try.pinned (OpenSpec.upto hlcRisesSpec)

end Rows
end Go.Proofs.Ythpooogjlmaemaa
