/- Digests: what a text is read as (plain). -/
import Derived.Test.YtjbelkpmbbkhgaaShV
namespace Go.Proofs.Ytjbelkpmbbkhgaa
open Go.RowKit Go.Proofs.Ytjbelkpmbbkhgaa.Sh

/-- the bytes after k digits -/
def parK (s : List UInt8) : Nat → List UInt8
  | 0 => z32
  | k + 1 => (parK s k).set (k / 2) (UInt8.ofNat ((((parK s k)[k / 2]?.getD 0).toNat * 16 % 256) ||| (digS (s[k]?.getD 0)).toNat))
def good (s : List UInt8) (k : Nat) : Prop := ∀ i, i < k → 0 ≤ digS (s[i]?.getD 0)
def parse (s : List UInt8) : List UInt8 × Bool := if s.length = 64 ∧ s.all (fun c => decide (0 ≤ digS c)) = true then (parK s 64, true) else (z32, false)
theorem parK_len (s : List UInt8) : ∀ k, (parK s k).length = 32
  | 0 => rfl
  | k + 1 => by rw [parK, List.length_set, parK_len s k]
theorem digS_lt (c : UInt8) : digS c < 16 := by
  unfold digS
  split
  · omega
  · split <;> omega
theorem good_all {s : List UInt8} (hl : s.length = 64) (h : good s 64) : s.all (fun c => decide (0 ≤ digS c)) = true := by
  rw [List.all_eq_true]
  intro c hc
  obtain ⟨i, hi, rfl⟩ := List.getElem_of_mem hc
  have := h i (by omega)
  rw [List.getElem?_eq_getElem hi] at this
  simpa using this
theorem bad_all {s : List UInt8} {k : Nat} (hk : k < s.length) (h : digS (s[k]?.getD 0) < 0) : ¬ s.all (fun c => decide (0 ≤ digS c)) = true := by
  rw [List.all_eq_true]
  intro h2
  rw [List.getElem?_eq_getElem hk] at h
  have := h2 s[k] (List.getElem_mem hk)
  simp only [decide_eq_true_eq] at this
  simp only [Option.getD_some] at h
  omega
theorem results_idb {w : World} {fn : Func} {t u : Tmp} (h : fn.results = #[.cell t 23, .tmp u]) (tmps : Array Value) {g : Nat} {us : List Value} {v : Value} (hx : tmps.getD t undef = .pointer (some ⟨g, 0, none⟩)) (hv : tmps.getD u undef = v) (hA : At w g us) (hn : us.length = 32) :
    (results fn tmps).run Try.prog w = .ok (.tuple #[.agg us.toArray, v]) w := by
  have hl := run_loadCells_list (P := Try.prog) w ⟨g, 0, none⟩ us (fun j u hu => by rw [addN]; exact hA.c j hu)
  rw [hn] at hl
  have hx' : tmps[t]?.getD undef = .pointer (some ⟨g, 0, none⟩) := by simpa using hx
  have hv' : tmps[u]?.getD undef = v := by simpa using hv
  simp [results, h, hx', hv', asAddr, loadVar, hl]
theorem ex_sidx {o : Oper} {a : Act} {w : World} {x y : Operand} (ho : o.op = .index 9 x y) {l : List UInt8} {k : Nat} (hx : a.eval x = .string ⟨l.toArray⟩) (hy : a.eval y = .int .i64 (k : Int)) (hk : k < l.length) : (execOp a.eval o).run Try.prog w = .ok (.value (.int .u8 ((l[k]?.getD 0).toNat : Int))) w := by
  have hs : (ByteArray.mk l.toArray).size = l.length := rfl
  have hg : (ByteArray.mk l.toArray)[k]'(by rw [hs]; exact hk) = l[k]?.getD 0 := by
    rw [List.getElem?_eq_getElem hk]
    rfl
  simp [execOp, ho, hx, hy, Instr.index, asIntOf, hs, hk, hg]
theorem ex_sidx2 {o : Oper} {a : Act} {w : World} {x y : Operand} (ho : o.op = .index 9 x y) {l : List UInt8} {k : Nat} {c : UInt8} (hx : a.eval x = .string ⟨l.toArray⟩) (hy : a.eval y = .int .i64 (k : Int)) (hc : l[k]? = some c) : (execOp a.eval o).run Try.prog w = .ok (.value (.int .u8 (c.toNat : Int))) w := by
  have h := ex_sidx (w := w) ho hx hy (List.getElem?_eq_some_iff.1 hc).1
  rw [hc] at h
  exact h
theorem ex_bld32 {o : Oper} {a : Act} {w : World} (ho : o.op = .build 23 #[]) : (execOp a.eval o).run Try.prog w = .ok (.value (.agg (bv z32).toArray)) w := by
  have hz := zero32 w
  generalize (bv z32).toArray = zs at hz ⊢
  simp [execOp, ho, Instr.build, hz, Instr.fill, Value.cells]
end Go.Proofs.Ytjbelkpmbbkhgaa

