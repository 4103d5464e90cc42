/-
  No cell of these rows narrows 'for every input' (looked for: loops, veiled, ifaces, maps, wideKeys, modest, calm, conditions, laid).
  DERIVED. THE GIVEN ROWS OF THIS SEAT. 11 by the template 'for every input the law returns true; each argument reads behind the call as it read before'; 0 by the template 'total and deterministic' (their statements: YtkgmbpbbgkjidaaTotals.lean).
  GIVEN WITH THE SEED: the statements are not yours to turn. If you find one false, say at which input.
  Laid BY PROGRAM, IN A SANDBOX (cutbox-rows.mjs): the forced cells as the released guide's own fill.sh prints them over the translation cae64a6c4bb4cd8f… (all of the seat's roots in one cut). By AI agents, Wed Nov 11 2026. No macro, syntax, notation, axiom, sorry.
-/
import Derived.Test.YtkgmbpbbgkjidaaChecked
import GoSem.Claim
import GoSem.ClaimJoined
import GoSem.ClaimMapViews
import Derived.JoinedTies
import Derived.KernelRfl
namespace Go.Proofs.Ytkgmbpbbgkjidaa
/- THE CELL 'sum', in the pinned program and in every row, IS THE sha256 OF THE DUMP (.gsa) THAT YtkgmbpbbgkjidaaProg.lean LOADS. Nothing in Lean hashes anything: it is a label: what it is worth is what the hold of that sum in a sandbox is worth. -/
noncomputable def Try.pinned : Pinned := { name := "ytkgmbpbbgkjidaa", sum := "cae64a6c4bb4cd8f9d06123ded49abc3697c3ac90267d59e4bea16e942665238", checked := Try.checked }
namespace Rows
def none {H : Type} : Left H := { results := [], args := [] }

/-- 'newsreellaw24.LogPuts': WHATEVER THE INPUT: true; the input reads as it did. -/
def logPutsSpec : ChangeSpec := { name := "logPuts", fn := fun _ => fun
  | [d1, d2] => { results := [.lit (.bool true)], args := [d1, d2] }
  | _ => none }
def logPutsRow : OpenClaim := { program := "ytkgmbpbbgkjidaa", sum := "cae64a6c4bb4cd8f9d06123ded49abc3697c3ac90267d59e4bea16e942665238", func := "newsreel/newsreellaw24.LogPuts", spec := "logPuts", unfollowed := true, recurses := true, apart := false }
def LogPutsSaid : Prop := logPutsRow.holds Try.pinned (OpenSpec.ofChange logPutsSpec)

/-- ITS FALSE NEIGHBOUR: 'it returns false'. Refute it at one input. -/
def logPutsWrong : ChangeSpec := { name := "logPuts", fn := fun _ => fun
  | [d1, d2] => { results := [.lit (.bool false)], args := [d1, d2] }
  | _ => none }
def LogPutsWrongFalsely : Prop := logPutsRow.holds Try.pinned (OpenSpec.ofChange logPutsWrong)

/-- 'newsreellaw24.LogScans': WHATEVER THE INPUT: true; the input reads as it did. -/
def logScansSpec : ChangeSpec := { name := "logScans", fn := fun _ => fun
  | [d1, d2, d3, d4, d5, d6] => { results := [.lit (.bool true)], args := [d1, d2, d3, d4, d5, d6] }
  | _ => none }
def logScansRow : OpenClaim := { program := "ytkgmbpbbgkjidaa", sum := "cae64a6c4bb4cd8f9d06123ded49abc3697c3ac90267d59e4bea16e942665238", func := "newsreel/newsreellaw24.LogScans", spec := "logScans", unfollowed := true, recurses := true, apart := false }
def LogScansSaid : Prop := logScansRow.holds Try.pinned (OpenSpec.ofChange logScansSpec)

/-- ITS FALSE NEIGHBOUR: 'it returns false'. Refute it at one input. -/
def logScansWrong : ChangeSpec := { name := "logScans", fn := fun _ => fun
  | [d1, d2, d3, d4, d5, d6] => { results := [.lit (.bool false)], args := [d1, d2, d3, d4, d5, d6] }
  | _ => none }
def LogScansWrongFalsely : Prop := logScansRow.holds Try.pinned (OpenSpec.ofChange logScansWrong)

/-- 'newsreellaw24.LogBack': WHATEVER THE INPUT: true; the input reads as it did. -/
def logBackSpec : ChangeSpec := { name := "logBack", fn := fun _ => fun
  | [d1, d2] => { results := [.lit (.bool true)], args := [d1, d2] }
  | _ => none }
def logBackRow : OpenClaim := { program := "ytkgmbpbbgkjidaa", sum := "cae64a6c4bb4cd8f9d06123ded49abc3697c3ac90267d59e4bea16e942665238", func := "newsreel/newsreellaw24.LogBack", spec := "logBack", unfollowed := true, recurses := true, apart := false }
def LogBackSaid : Prop := logBackRow.holds Try.pinned (OpenSpec.ofChange logBackSpec)

/-- ITS FALSE NEIGHBOUR: 'it returns false'. Refute it at one input. -/
def logBackWrong : ChangeSpec := { name := "logBack", fn := fun _ => fun
  | [d1, d2] => { results := [.lit (.bool false)], args := [d1, d2] }
  | _ => none }
def LogBackWrongFalsely : Prop := logBackRow.holds Try.pinned (OpenSpec.ofChange logBackWrong)

/-- 'newsreellaw24.LogTorn': WHATEVER THE INPUT: true; the input reads as it did. -/
def logTornSpec : ChangeSpec := { name := "logTorn", fn := fun _ => fun
  | [d1, d2] => { results := [.lit (.bool true)], args := [d1, d2] }
  | _ => none }
def logTornRow : OpenClaim := { program := "ytkgmbpbbgkjidaa", sum := "cae64a6c4bb4cd8f9d06123ded49abc3697c3ac90267d59e4bea16e942665238", func := "newsreel/newsreellaw24.LogTorn", spec := "logTorn", unfollowed := true, recurses := true, apart := false }
def LogTornSaid : Prop := logTornRow.holds Try.pinned (OpenSpec.ofChange logTornSpec)

/-- ITS FALSE NEIGHBOUR: 'it returns false'. Refute it at one input. -/
def logTornWrong : ChangeSpec := { name := "logTorn", fn := fun _ => fun
  | [d1, d2] => { results := [.lit (.bool false)], args := [d1, d2] }
  | _ => none }
def LogTornWrongFalsely : Prop := logTornRow.holds Try.pinned (OpenSpec.ofChange logTornWrong)

/-- 'newsreellaw24.LogSpoilt': WHATEVER THE INPUT: true; the input reads as it did. -/
def logSpoiltSpec : ChangeSpec := { name := "logSpoilt", fn := fun _ => fun
  | [d1, d2, d3, d4, d5] => { results := [.lit (.bool true)], args := [d1, d2, d3, d4, d5] }
  | _ => none }
def logSpoiltRow : OpenClaim := { program := "ytkgmbpbbgkjidaa", sum := "cae64a6c4bb4cd8f9d06123ded49abc3697c3ac90267d59e4bea16e942665238", func := "newsreel/newsreellaw24.LogSpoilt", spec := "logSpoilt", unfollowed := true, recurses := true, apart := false }
def LogSpoiltSaid : Prop := logSpoiltRow.holds Try.pinned (OpenSpec.ofChange logSpoiltSpec)

/-- ITS FALSE NEIGHBOUR: 'it returns false'. Refute it at one input. -/
def logSpoiltWrong : ChangeSpec := { name := "logSpoilt", fn := fun _ => fun
  | [d1, d2, d3, d4, d5] => { results := [.lit (.bool false)], args := [d1, d2, d3, d4, d5] }
  | _ => none }
def LogSpoiltWrongFalsely : Prop := logSpoiltRow.holds Try.pinned (OpenSpec.ofChange logSpoiltWrong)

/-- 'newsreellaw24.LogLimit': WHATEVER THE INPUT: true; the input reads as it did. -/
def logLimitSpec : ChangeSpec := { name := "logLimit", fn := fun _ => fun
  | [d1, d2] => { results := [.lit (.bool true)], args := [d1, d2] }
  | _ => none }
def logLimitRow : OpenClaim := { program := "ytkgmbpbbgkjidaa", sum := "cae64a6c4bb4cd8f9d06123ded49abc3697c3ac90267d59e4bea16e942665238", func := "newsreel/newsreellaw24.LogLimit", spec := "logLimit", unfollowed := true, recurses := true, apart := false }
def LogLimitSaid : Prop := logLimitRow.holds Try.pinned (OpenSpec.ofChange logLimitSpec)

/-- ITS FALSE NEIGHBOUR: 'it returns false'. Refute it at one input. -/
def logLimitWrong : ChangeSpec := { name := "logLimit", fn := fun _ => fun
  | [d1, d2] => { results := [.lit (.bool false)], args := [d1, d2] }
  | _ => none }
def LogLimitWrongFalsely : Prop := logLimitRow.holds Try.pinned (OpenSpec.ofChange logLimitWrong)

/-- 'newsreellaw21.FramePuts': WHATEVER THE INPUT: true; the input reads as it did. -/
def framePutsSpec : ChangeSpec := { name := "framePuts", fn := fun _ => fun
  | [d1, d2, d3, d4, d5] => { results := [.lit (.bool true)], args := [d1, d2, d3, d4, d5] }
  | _ => none }
def framePutsRow : OpenClaim := { program := "ytkgmbpbbgkjidaa", sum := "cae64a6c4bb4cd8f9d06123ded49abc3697c3ac90267d59e4bea16e942665238", func := "newsreel/newsreellaw21.FramePuts", spec := "framePuts", apart := false }
def FramePutsSaid : Prop := framePutsRow.holds Try.pinned (OpenSpec.ofChange framePutsSpec)

/-- ITS FALSE NEIGHBOUR: 'it returns false'. Refute it at one input. -/
def framePutsWrong : ChangeSpec := { name := "framePuts", fn := fun _ => fun
  | [d1, d2, d3, d4, d5] => { results := [.lit (.bool false)], args := [d1, d2, d3, d4, d5] }
  | _ => none }
def FramePutsWrongFalsely : Prop := framePutsRow.holds Try.pinned (OpenSpec.ofChange framePutsWrong)

/-- 'newsreellaw21.FrameBack': WHATEVER THE INPUT: true; the input reads as it did. -/
def frameBackSpec : ChangeSpec := { name := "frameBack", fn := fun _ => fun
  | [d1, d2, d3, d4] => { results := [.lit (.bool true)], args := [d1, d2, d3, d4] }
  | _ => none }
def frameBackRow : OpenClaim := { program := "ytkgmbpbbgkjidaa", sum := "cae64a6c4bb4cd8f9d06123ded49abc3697c3ac90267d59e4bea16e942665238", func := "newsreel/newsreellaw21.FrameBack", spec := "frameBack", apart := false }
def FrameBackSaid : Prop := frameBackRow.holds Try.pinned (OpenSpec.ofChange frameBackSpec)

/-- ITS FALSE NEIGHBOUR: 'it returns false'. Refute it at one input. -/
def frameBackWrong : ChangeSpec := { name := "frameBack", fn := fun _ => fun
  | [d1, d2, d3, d4] => { results := [.lit (.bool false)], args := [d1, d2, d3, d4] }
  | _ => none }
def FrameBackWrongFalsely : Prop := frameBackRow.holds Try.pinned (OpenSpec.ofChange frameBackWrong)

/-- 'newsreellaw21.FrameReads': WHATEVER THE INPUT: true; the input reads as it did. -/
def frameReadsSpec : ChangeSpec := { name := "frameReads", fn := fun _ => fun
  | [d1, d2, d3, d4, d5, d6, d7] => { results := [.lit (.bool true)], args := [d1, d2, d3, d4, d5, d6, d7] }
  | _ => none }
def frameReadsRow : OpenClaim := { program := "ytkgmbpbbgkjidaa", sum := "cae64a6c4bb4cd8f9d06123ded49abc3697c3ac90267d59e4bea16e942665238", func := "newsreel/newsreellaw21.FrameReads", spec := "frameReads", apart := false }
def FrameReadsSaid : Prop := frameReadsRow.holds Try.pinned (OpenSpec.ofChange frameReadsSpec)

/-- ITS FALSE NEIGHBOUR: 'it returns false'. Refute it at one input. -/
def frameReadsWrong : ChangeSpec := { name := "frameReads", fn := fun _ => fun
  | [d1, d2, d3, d4, d5, d6, d7] => { results := [.lit (.bool false)], args := [d1, d2, d3, d4, d5, d6, d7] }
  | _ => none }
def FrameReadsWrongFalsely : Prop := frameReadsRow.holds Try.pinned (OpenSpec.ofChange frameReadsWrong)

/-- 'newsreellaw21.FrameSpoilt': WHATEVER THE INPUT: true; the input reads as it did. -/
def frameSpoiltSpec : ChangeSpec := { name := "frameSpoilt", fn := fun _ => fun
  | [d1, d2, d3, d4, d5] => { results := [.lit (.bool true)], args := [d1, d2, d3, d4, d5] }
  | _ => none }
def frameSpoiltRow : OpenClaim := { program := "ytkgmbpbbgkjidaa", sum := "cae64a6c4bb4cd8f9d06123ded49abc3697c3ac90267d59e4bea16e942665238", func := "newsreel/newsreellaw21.FrameSpoilt", spec := "frameSpoilt", apart := false }
def FrameSpoiltSaid : Prop := frameSpoiltRow.holds Try.pinned (OpenSpec.ofChange frameSpoiltSpec)

/-- ITS FALSE NEIGHBOUR: 'it returns false'. Refute it at one input. -/
def frameSpoiltWrong : ChangeSpec := { name := "frameSpoilt", fn := fun _ => fun
  | [d1, d2, d3, d4, d5] => { results := [.lit (.bool false)], args := [d1, d2, d3, d4, d5] }
  | _ => none }
def FrameSpoiltWrongFalsely : Prop := frameSpoiltRow.holds Try.pinned (OpenSpec.ofChange frameSpoiltWrong)

/-- 'newsreellaw21.FrameStream': WHATEVER THE INPUT: true; the input reads as it did. -/
def frameStreamSpec : ChangeSpec := { name := "frameStream", fn := fun _ => fun
  | [d1, d2] => { results := [.lit (.bool true)], args := [d1, d2] }
  | _ => none }
def frameStreamRow : OpenClaim := { program := "ytkgmbpbbgkjidaa", sum := "cae64a6c4bb4cd8f9d06123ded49abc3697c3ac90267d59e4bea16e942665238", func := "newsreel/newsreellaw21.FrameStream", spec := "frameStream", apart := false }
def FrameStreamSaid : Prop := frameStreamRow.holds Try.pinned (OpenSpec.ofChange frameStreamSpec)

/-- ITS FALSE NEIGHBOUR: 'it returns false'. Refute it at one input. -/
def frameStreamWrong : ChangeSpec := { name := "frameStream", fn := fun _ => fun
  | [d1, d2] => { results := [.lit (.bool false)], args := [d1, d2] }
  | _ => none }
def FrameStreamWrongFalsely : Prop := frameStreamRow.holds Try.pinned (OpenSpec.ofChange frameStreamWrong)

/- THE SECOND FORM. 'bulk': how many values and letters a reading holds, each counted each time it is reached (what is shared counts as often as it is met; a slice's spare places count too). A statement '..UptoSaid' is the law's where the arguments, and the package variables that the reading takes, are together of bulk at most 1048576: NARROWER than '..Said'. Prove '..Said' where nothing that the law and all that it calls make is longer than what came in: it says more and counts as full. Else prove '..UptoSaid'. A law counts once. -/
mutual
def uptoBulk {H : Type} : DataW H → Nat
  | .lit (.string bytes) => bytes.length + 1
  | .lit _ => 1
  | .nil => 1
  | .ptr d => uptoBulk d + 1
  | .slice elems spare => uptoBulkAll elems + uptoBulkAll spare + 1
  | .agg parts => uptoBulkAll parts + 1
  | .iface _ d => uptoBulk d + 1
  | .map entries => uptoBulkEntries entries + 1
  | .held _ => 1
def uptoBulkAll {H : Type} : List (DataW H) → Nat
  | [] => 0
  | d :: r => uptoBulk d + uptoBulkAll r
def uptoBulkEntries {H : Type} : List (Lit × DataW H) → Nat
  | [] => 0
  | x :: r => uptoBulkEntry x + uptoBulkEntries r
def uptoBulkEntry {H : Type} : Lit × DataW H → Nat
  | (.string bytes, d) => bytes.length + uptoBulk d + 1
  | (_, d) => uptoBulk d + 1
 end
def uptoSmall : (H : Type) → List (DataW H) → Bool := fun _ ds => decide (uptoBulkAll ds ≤ 1048576)
def OpenSpec.upto (s : _root_.Go.ChangeSpec) : _root_.Go.OpenSpec := { _root_.Go.OpenSpec.ofChange s with cond := some uptoSmall }

/-- 'newsreellaw24.LogPuts', WHERE WHAT IT READS IS OF BULK AT MOST 1048576: true; the input reads as it did. -/
def logPutsUptoRow : OpenClaim := { program := "ytkgmbpbbgkjidaa", sum := "cae64a6c4bb4cd8f9d06123ded49abc3697c3ac90267d59e4bea16e942665238", func := "newsreel/newsreellaw24.LogPuts", spec := "logPuts", unfollowed := true, recurses := true, apart := false, narrowed := true }
def LogPutsUptoSaid : Prop := logPutsUptoRow.holds Try.pinned (OpenSpec.upto logPutsSpec)

/-- 'newsreellaw24.LogScans', WHERE WHAT IT READS IS OF BULK AT MOST 1048576: true; the input reads as it did. -/
def logScansUptoRow : OpenClaim := { program := "ytkgmbpbbgkjidaa", sum := "cae64a6c4bb4cd8f9d06123ded49abc3697c3ac90267d59e4bea16e942665238", func := "newsreel/newsreellaw24.LogScans", spec := "logScans", unfollowed := true, recurses := true, apart := false, narrowed := true }
def LogScansUptoSaid : Prop := logScansUptoRow.holds Try.pinned (OpenSpec.upto logScansSpec)

/-- 'newsreellaw24.LogBack', WHERE WHAT IT READS IS OF BULK AT MOST 1048576: true; the input reads as it did. -/
def logBackUptoRow : OpenClaim := { program := "ytkgmbpbbgkjidaa", sum := "cae64a6c4bb4cd8f9d06123ded49abc3697c3ac90267d59e4bea16e942665238", func := "newsreel/newsreellaw24.LogBack", spec := "logBack", unfollowed := true, recurses := true, apart := false, narrowed := true }
def LogBackUptoSaid : Prop := logBackUptoRow.holds Try.pinned (OpenSpec.upto logBackSpec)

/-- 'newsreellaw24.LogTorn', WHERE WHAT IT READS IS OF BULK AT MOST 1048576: true; the input reads as it did. -/
def logTornUptoRow : OpenClaim := { program := "ytkgmbpbbgkjidaa", sum := "cae64a6c4bb4cd8f9d06123ded49abc3697c3ac90267d59e4bea16e942665238", func := "newsreel/newsreellaw24.LogTorn", spec := "logTorn", unfollowed := true, recurses := true, apart := false, narrowed := true }
def LogTornUptoSaid : Prop := logTornUptoRow.holds Try.pinned (OpenSpec.upto logTornSpec)

/-- 'newsreellaw24.LogSpoilt', WHERE WHAT IT READS IS OF BULK AT MOST 1048576: true; the input reads as it did. -/
def logSpoiltUptoRow : OpenClaim := { program := "ytkgmbpbbgkjidaa", sum := "cae64a6c4bb4cd8f9d06123ded49abc3697c3ac90267d59e4bea16e942665238", func := "newsreel/newsreellaw24.LogSpoilt", spec := "logSpoilt", unfollowed := true, recurses := true, apart := false, narrowed := true }
def LogSpoiltUptoSaid : Prop := logSpoiltUptoRow.holds Try.pinned (OpenSpec.upto logSpoiltSpec)

/-- 'newsreellaw24.LogLimit', WHERE WHAT IT READS IS OF BULK AT MOST 1048576: true; the input reads as it did. -/
def logLimitUptoRow : OpenClaim := { program := "ytkgmbpbbgkjidaa", sum := "cae64a6c4bb4cd8f9d06123ded49abc3697c3ac90267d59e4bea16e942665238", func := "newsreel/newsreellaw24.LogLimit", spec := "logLimit", unfollowed := true, recurses := true, apart := false, narrowed := true }
def LogLimitUptoSaid : Prop := logLimitUptoRow.holds Try.pinned (OpenSpec.upto logLimitSpec)

/-- 'newsreellaw21.FramePuts', WHERE WHAT IT READS IS OF BULK AT MOST 1048576: true; the input reads as it did. -/
def framePutsUptoRow : OpenClaim := { program := "ytkgmbpbbgkjidaa", sum := "cae64a6c4bb4cd8f9d06123ded49abc3697c3ac90267d59e4bea16e942665238", func := "newsreel/newsreellaw21.FramePuts", spec := "framePuts", apart := false, narrowed := true }
def FramePutsUptoSaid : Prop := framePutsUptoRow.holds Try.pinned (OpenSpec.upto framePutsSpec)

/-- 'newsreellaw21.FrameBack', WHERE WHAT IT READS IS OF BULK AT MOST 1048576: true; the input reads as it did. -/
def frameBackUptoRow : OpenClaim := { program := "ytkgmbpbbgkjidaa", sum := "cae64a6c4bb4cd8f9d06123ded49abc3697c3ac90267d59e4bea16e942665238", func := "newsreel/newsreellaw21.FrameBack", spec := "frameBack", apart := false, narrowed := true }
def FrameBackUptoSaid : Prop := frameBackUptoRow.holds Try.pinned (OpenSpec.upto frameBackSpec)

/-- 'newsreellaw21.FrameReads', WHERE WHAT IT READS IS OF BULK AT MOST 1048576: true; the input reads as it did. -/
def frameReadsUptoRow : OpenClaim := { program := "ytkgmbpbbgkjidaa", sum := "cae64a6c4bb4cd8f9d06123ded49abc3697c3ac90267d59e4bea16e942665238", func := "newsreel/newsreellaw21.FrameReads", spec := "frameReads", apart := false, narrowed := true }
def FrameReadsUptoSaid : Prop := frameReadsUptoRow.holds Try.pinned (OpenSpec.upto frameReadsSpec)

/-- 'newsreellaw21.FrameSpoilt', WHERE WHAT IT READS IS OF BULK AT MOST 1048576: true; the input reads as it did. -/
def frameSpoiltUptoRow : OpenClaim := { program := "ytkgmbpbbgkjidaa", sum := "cae64a6c4bb4cd8f9d06123ded49abc3697c3ac90267d59e4bea16e942665238", func := "newsreel/newsreellaw21.FrameSpoilt", spec := "frameSpoilt", apart := false, narrowed := true }
def FrameSpoiltUptoSaid : Prop := frameSpoiltUptoRow.holds Try.pinned (OpenSpec.upto frameSpoiltSpec)

/-- 'newsreellaw21.FrameStream', WHERE WHAT IT READS IS OF BULK AT MOST 1048576: true; the input reads as it did. -/
def frameStreamUptoRow : OpenClaim := { program := "ytkgmbpbbgkjidaa", sum := "cae64a6c4bb4cd8f9d06123ded49abc3697c3ac90267d59e4bea16e942665238", func := "newsreel/newsreellaw21.FrameStream", spec := "frameStream", apart := false, narrowed := true }
def FrameStreamUptoSaid : Prop := frameStreamUptoRow.holds Try.pinned (OpenSpec.upto frameStreamSpec)

end Rows
end Go.Proofs.Ytkgmbpbbgkjidaa
