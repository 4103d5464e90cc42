/- Digests: thirty-two bytes in memory. -/
import Derived.Test.YtjbelkpmbbkhgaaShW
namespace Go.Proofs.Ytjbelkpmbbkhgaa
open Go.RowKit Go.Proofs.Ytjbelkpmbbkhgaa.Sh

section
variable {ops : Array Oper} {rest : List Oper} {o : Oper} {a : Act} {Q : Exit → Act → World → Prop} {w : World} {x y : Operand}
def z32 : List UInt8 := List.replicate 32 0
theorem agg32 (w : World) : (isAgg 23).run Try.prog w = .ok true w := by first | exact Try.isAgg23 w | go_simp
theorem size32 (w : World) : (sizeOf 23).run Try.prog w = .ok 32 w := by first | exact Try.sizeOf23 w | go_simp
theorem info32 : (Try.prog.info? 23).bind (·.zero) = some (.agg (bv z32).toArray) := by kernel_rfl
theorem zero32 (w : World) : (zeroValue 23).run Try.prog w = .ok (.agg (bv z32).toArray) w := by
  have h := info32
  cases hi : Try.prog.info? 23 with
  | none => rw [hi] at h; cases h
  | some i => rw [hi] at h; simp only [Option.bind_some] at h; simp [zeroValue, typeInfo, hi, h]
theorem ex_al32 (ho : o.op = .alloc 23) : (execOp a.eval o).run Try.prog w = .ok (.value (.pointer (some ⟨w.heap.size, 0, none⟩))) (w.alloc (.cells (bv z32).toArray 23)) := by
  have hz := zero32
  generalize (bv z32).toArray = zs at hz ⊢
  simp [execOp, ho, Instr.alloc, hz, newVar, newRow, Value.cells]
theorem ex_ld32 (ho : o.op = .load 23 x) {g : Nat} {us : List Value} (hx : a.eval x = .pointer (some ⟨g, 0, none⟩)) (hA : At w g us) (hn : us.length = 32) : (execOp a.eval o).run Try.prog w = .ok (.value (.agg us.toArray)) w := by
  have h := run_loadArr w 23 agg32 size32 hA hn
  simp [execOp, ho, hx, h]
theorem ex_st32 (ho : o.op = .store 23 x y) {g : Nat} {us old : List Value} (hx : a.eval x = .pointer (some ⟨g, 0, none⟩)) (hy : a.eval y = .agg us.toArray) (hA : At w g old) (hl : old.length = 32) (hn : us.length = 32) (h1 : ∀ u ∈ us, u.oneCell' = true) :
    (execOp a.eval o).run Try.prog w = .ok .skip (putL w g 0 us) := by
  have h := run_storeArr w 23 size32 hA hl hn h1
  simp [execOp, ho, hx, hy, h]
theorem results_arr32 {fn : Func} {t : Tmp} (h : fn.results = #[.cell t 23]) (tmps : Array Value) {g : Nat} {us : List Value} (hx : tmps.getD t undef = .pointer (some ⟨g, 0, none⟩)) (hA : At w g us) (hn : us.length = 32) :
    (results fn tmps).run Try.prog w = .ok (.agg us.toArray) w := by
  have hl := run_loadCells_list (P := Try.prog) w ⟨g, 0, none⟩ us (fun j u hu => by rw [addN]; exact hA.c j hu)
  rw [hn] at hl
  have hx' : tmps[t]?.getD undef = .pointer (some ⟨g, 0, none⟩) := by simpa using hx
  simp [results, h, hx', asAddr, loadVar, hl]
end
end Go.Proofs.Ytjbelkpmbbkhgaa

