/-
  No cell of these rows narrows 'for every input' (looked for: loops, veiled, ifaces, maps, wideKeys, modest, calm, conditions, laid).
  DERIVED. THE GIVEN ROWS OF THIS SEAT. 4 by the template 'for every input the law returns true; each argument reads behind the call as it read before'; 0 by the template 'total and deterministic' (their statements: YtjijhmeagjhfoaaTotals.lean).
  GIVEN WITH THE SEED: the statements are not yours to turn. If you find one false, say at which input.
  Laid BY PROGRAM, IN A SANDBOX (cutbox-rows.mjs): the forced cells as the released guide's own fill.sh prints them over the translation b82db5f31dc55dd4… (all of the seat's roots in one cut). By AI agents, Wed Nov 11 2026. No macro, syntax, notation, axiom, sorry.
-/
import Derived.Test.YtjijhmeagjhfoaaChecked
import GoSem.Claim
import GoSem.ClaimJoined
import GoSem.ClaimMapViews
import Derived.JoinedTies
import Derived.KernelRfl
namespace Go.Proofs.Ytjijhmeagjhfoaa
/- THE CELL 'sum', in the pinned program and in every row, IS THE sha256 OF THE DUMP (.gsa) THAT YtjijhmeagjhfoaaProg.lean LOADS. Nothing in Lean hashes anything: it is a label: what it is worth is what the hold of that sum in a sandbox is worth. -/
noncomputable def Try.pinned : Pinned := { name := "ytjijhmeagjhfoaa", sum := "b82db5f31dc55dd4bd9798e9690fcfd5c7f4548ca7320609bfc07c2f8c82eb44", checked := Try.checked }
namespace Rows
def none {H : Type} : Left H := { results := [], args := [] }

/-- 'newsreellaw17.FlagsGreatest': WHATEVER THE INPUT: true; the input reads as it did. -/
def flagsGreatestSpec : ChangeSpec := { name := "flagsGreatest", fn := fun _ => fun
  | [d1, d2, d3, d4] => { results := [.lit (.bool true)], args := [d1, d2, d3, d4] }
  | _ => none }
def flagsGreatestRow : OpenClaim := { program := "ytjijhmeagjhfoaa", sum := "b82db5f31dc55dd4bd9798e9690fcfd5c7f4548ca7320609bfc07c2f8c82eb44", func := "newsreel/newsreellaw17.FlagsGreatest", spec := "flagsGreatest", inPlace := ["internal/bytealg.Compare"], unfollowed := true, recurses := true, plainKeys := false, apart := false }
def FlagsGreatestSaid : Prop := flagsGreatestRow.holds Try.pinned (OpenSpec.ofChange flagsGreatestSpec)

/-- ITS FALSE NEIGHBOUR: 'it returns false'. Refute it at one input. -/
def flagsGreatestWrong : ChangeSpec := { name := "flagsGreatest", fn := fun _ => fun
  | [d1, d2, d3, d4] => { results := [.lit (.bool false)], args := [d1, d2, d3, d4] }
  | _ => none }
def FlagsGreatestWrongFalsely : Prop := flagsGreatestRow.holds Try.pinned (OpenSpec.ofChange flagsGreatestWrong)

/-- 'newsreellaw17.FlagsPlays': WHATEVER THE INPUT: true; the input reads as it did. -/
def flagsPlaysSpec : ChangeSpec := { name := "flagsPlays", fn := fun _ => fun
  | [d1, d2] => { results := [.lit (.bool true)], args := [d1, d2] }
  | _ => none }
def flagsPlaysRow : OpenClaim := { program := "ytjijhmeagjhfoaa", sum := "b82db5f31dc55dd4bd9798e9690fcfd5c7f4548ca7320609bfc07c2f8c82eb44", func := "newsreel/newsreellaw17.FlagsPlays", spec := "flagsPlays", inPlace := ["internal/bytealg.Compare", "maps.clone"], unfollowed := true, recurses := true, plainKeys := false, apart := false }
def FlagsPlaysSaid : Prop := flagsPlaysRow.holds Try.pinned (OpenSpec.ofChange flagsPlaysSpec)

/-- ITS FALSE NEIGHBOUR: 'it returns false'. Refute it at one input. -/
def flagsPlaysWrong : ChangeSpec := { name := "flagsPlays", fn := fun _ => fun
  | [d1, d2] => { results := [.lit (.bool false)], args := [d1, d2] }
  | _ => none }
def FlagsPlaysWrongFalsely : Prop := flagsPlaysRow.holds Try.pinned (OpenSpec.ofChange flagsPlaysWrong)

/-- 'newsreellaw17.FlagsJoin': WHATEVER THE INPUT: true; the input reads as it did. -/
def flagsJoinSpec : ChangeSpec := { name := "flagsJoin", fn := fun _ => fun
  | [d1, d2, d3] => { results := [.lit (.bool true)], args := [d1, d2, d3] }
  | _ => none }
def flagsJoinRow : OpenClaim := { program := "ytjijhmeagjhfoaa", sum := "b82db5f31dc55dd4bd9798e9690fcfd5c7f4548ca7320609bfc07c2f8c82eb44", func := "newsreel/newsreellaw17.FlagsJoin", spec := "flagsJoin", inPlace := ["internal/bytealg.Compare", "maps.clone"], unfollowed := true, recurses := true, plainKeys := false, apart := false }
def FlagsJoinSaid : Prop := flagsJoinRow.holds Try.pinned (OpenSpec.ofChange flagsJoinSpec)

/-- ITS FALSE NEIGHBOUR: 'it returns false'. Refute it at one input. -/
def flagsJoinWrong : ChangeSpec := { name := "flagsJoin", fn := fun _ => fun
  | [d1, d2, d3] => { results := [.lit (.bool false)], args := [d1, d2, d3] }
  | _ => none }
def FlagsJoinWrongFalsely : Prop := flagsJoinRow.holds Try.pinned (OpenSpec.ofChange flagsJoinWrong)

/-- 'newsreellaw17.FlagsTell': WHATEVER THE INPUT: true; the input reads as it did. -/
def flagsTellSpec : ChangeSpec := { name := "flagsTell", fn := fun _ => fun
  | [d] => { results := [.lit (.bool true)], args := [d] }
  | _ => none }
def flagsTellRow : OpenClaim := { program := "ytjijhmeagjhfoaa", sum := "b82db5f31dc55dd4bd9798e9690fcfd5c7f4548ca7320609bfc07c2f8c82eb44", func := "newsreel/newsreellaw17.FlagsTell", spec := "flagsTell", inPlace := ["internal/bytealg.Compare", "maps.clone"], unfollowed := true, recurses := true, plainKeys := false, apart := false }
def FlagsTellSaid : Prop := flagsTellRow.holds Try.pinned (OpenSpec.ofChange flagsTellSpec)

/-- ITS FALSE NEIGHBOUR: 'it returns false'. Refute it at one input. -/
def flagsTellWrong : ChangeSpec := { name := "flagsTell", fn := fun _ => fun
  | [d] => { results := [.lit (.bool false)], args := [d] }
  | _ => none }
def FlagsTellWrongFalsely : Prop := flagsTellRow.holds Try.pinned (OpenSpec.ofChange flagsTellWrong)

/- THE SECOND FORM. 'bulk': how many values and letters a reading holds, each counted each time it is reached (what is shared counts as often as it is met; a slice's spare places count too). A statement '..UptoSaid' is the law's where the arguments, and the package variables that the reading takes, are together of bulk at most 1048576: NARROWER than '..Said'. Prove '..Said' where nothing that the law and all that it calls make is longer than what came in: it says more and counts as full. Else prove '..UptoSaid'. A law counts once. -/
mutual
def uptoBulk {H : Type} : DataW H → Nat
  | .lit (.string bytes) => bytes.length + 1
  | .lit _ => 1
  | .nil => 1
  | .ptr d => uptoBulk d + 1
  | .slice elems spare => uptoBulkAll elems + uptoBulkAll spare + 1
  | .agg parts => uptoBulkAll parts + 1
  | .iface _ d => uptoBulk d + 1
  | .map entries => uptoBulkEntries entries + 1
  | .held _ => 1
def uptoBulkAll {H : Type} : List (DataW H) → Nat
  | [] => 0
  | d :: r => uptoBulk d + uptoBulkAll r
def uptoBulkEntries {H : Type} : List (Lit × DataW H) → Nat
  | [] => 0
  | x :: r => uptoBulkEntry x + uptoBulkEntries r
def uptoBulkEntry {H : Type} : Lit × DataW H → Nat
  | (.string bytes, d) => bytes.length + uptoBulk d + 1
  | (_, d) => uptoBulk d + 1
 end
def uptoSmall : (H : Type) → List (DataW H) → Bool := fun _ ds => decide (uptoBulkAll ds ≤ 1048576)
def OpenSpec.upto (s : _root_.Go.ChangeSpec) : _root_.Go.OpenSpec := { _root_.Go.OpenSpec.ofChange s with cond := some uptoSmall }

/-- 'newsreellaw17.FlagsGreatest', WHERE WHAT IT READS IS OF BULK AT MOST 1048576: true; the input reads as it did. -/
def flagsGreatestUptoRow : OpenClaim := { program := "ytjijhmeagjhfoaa", sum := "b82db5f31dc55dd4bd9798e9690fcfd5c7f4548ca7320609bfc07c2f8c82eb44", func := "newsreel/newsreellaw17.FlagsGreatest", spec := "flagsGreatest", inPlace := ["internal/bytealg.Compare"], unfollowed := true, recurses := true, plainKeys := false, apart := false, narrowed := true }
def FlagsGreatestUptoSaid : Prop := flagsGreatestUptoRow.holds Try.pinned (OpenSpec.upto flagsGreatestSpec)

/-- 'newsreellaw17.FlagsPlays', WHERE WHAT IT READS IS OF BULK AT MOST 1048576: true; the input reads as it did. -/
def flagsPlaysUptoRow : OpenClaim := { program := "ytjijhmeagjhfoaa", sum := "b82db5f31dc55dd4bd9798e9690fcfd5c7f4548ca7320609bfc07c2f8c82eb44", func := "newsreel/newsreellaw17.FlagsPlays", spec := "flagsPlays", inPlace := ["internal/bytealg.Compare", "maps.clone"], unfollowed := true, recurses := true, plainKeys := false, apart := false, narrowed := true }
def FlagsPlaysUptoSaid : Prop := flagsPlaysUptoRow.holds Try.pinned (OpenSpec.upto flagsPlaysSpec)

/-- 'newsreellaw17.FlagsJoin', WHERE WHAT IT READS IS OF BULK AT MOST 1048576: true; the input reads as it did. -/
def flagsJoinUptoRow : OpenClaim := { program := "ytjijhmeagjhfoaa", sum := "b82db5f31dc55dd4bd9798e9690fcfd5c7f4548ca7320609bfc07c2f8c82eb44", func := "newsreel/newsreellaw17.FlagsJoin", spec := "flagsJoin", inPlace := ["internal/bytealg.Compare", "maps.clone"], unfollowed := true, recurses := true, plainKeys := false, apart := false, narrowed := true }
def FlagsJoinUptoSaid : Prop := flagsJoinUptoRow.holds Try.pinned (OpenSpec.upto flagsJoinSpec)

/-- 'newsreellaw17.FlagsTell', WHERE WHAT IT READS IS OF BULK AT MOST 1048576: true; the input reads as it did. -/
def flagsTellUptoRow : OpenClaim := { program := "ytjijhmeagjhfoaa", sum := "b82db5f31dc55dd4bd9798e9690fcfd5c7f4548ca7320609bfc07c2f8c82eb44", func := "newsreel/newsreellaw17.FlagsTell", spec := "flagsTell", inPlace := ["internal/bytealg.Compare", "maps.clone"], unfollowed := true, recurses := true, plainKeys := false, apart := false, narrowed := true }
def FlagsTellUptoSaid : Prop := flagsTellUptoRow.holds Try.pinned (OpenSpec.upto flagsTellSpec)

end Rows
end Go.Proofs.Ytjijhmeagjhfoaa
