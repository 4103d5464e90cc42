/- Slices of bytes taken in a drawn region; calls that change nothing. -/
import Derived.Test.YthnbnhlfiehihaaRowS
import Derived.Test.YthnbnhlfiehihaaMem
namespace Go.Proofs.Ythnbnhlfiehihaa
open Go.RowKit
set_option maxRecDepth 20000

theorem slB (A : Option Addr) (m c j : Nat) (hj : j ≤ c) (w : World) :
    (Instr.sliceAt 22 (.slice A m c) none (some (.int .i64 (j : Int))) (some (.int .i64 (j : Int)))).run Try.prog w = .ok (.slice A j j) w := by
  obtain ⟨i, hi, hz, hz1, hz2⟩ := info_parts u8info
  have e : A.map (fun x => x.add 0) = A := by cases A <;> simp [addr_zero]
  simp [Instr.sliceAt, Instr.slice, run_underlying Try.underlying22, Instr.sliceBounds, Instr.sliceBound, asIntOf, Go.sizeOf, typeInfo, hi]
  rw [if_pos hj, e]
  simp
theorem slB1 (A : Option Addr) (m c j : Nat) (hj : j ≤ c) (w : World) :
    (Instr.sliceAt 22 (.slice A m c) none (some (.int .i64 (j : Int))) none).run Try.prog w = .ok (.slice A j c) w := by
  obtain ⟨i, hi, hz, hz1, hz2⟩ := info_parts u8info
  have e : A.map (fun x => x.add 0) = A := by cases A <;> simp [addr_zero]
  simp [Instr.sliceAt, Instr.slice, run_underlying Try.underlying22, Instr.sliceBounds, Instr.sliceBound, asIntOf, Go.sizeOf, typeInfo, hi]
  rw [if_pos hj, e]
  simp
theorem exec_preB {o : Oper} {a : Act} {x y z : Operand} (ho : o.op = .slice 22 x none (some y) (some z)) {A : Option Addr} {m c j : Nat} (hx : a.eval x = .slice A m c) (hy : a.eval y = .int .i64 (j : Int)) (hz : a.eval z = .int .i64 (j : Int)) (hj : j ≤ c) (w : World) :
    (execOp a.eval o).run Try.prog w = .ok (.value (.slice A j j)) w := by
  have h := slB A m c j hj w
  simp [execOp, ho, hx, hy, hz, h]
theorem exec_pre1B {o : Oper} {a : Act} {x y : Operand} (ho : o.op = .slice 22 x none (some y) none) {A : Option Addr} {m c j : Nat} (hx : a.eval x = .slice A m c) (hy : a.eval y = .int .i64 (j : Int)) (hj : j ≤ c) (w : World) :
    (execOp a.eval o).run Try.prog w = .ok (.value (.slice A j c)) w := by
  have h := slB1 A m c j hj w
  simp [execOp, ho, hx, hy, h]
theorem quietQ {f : Nat} {args : Array Value} {v : Value} {W : World} (h : Calls Try.prog f args W fun e w' => e = .returned v ∧ w' = W) : Calls Try.prog f args W fun e w' => e = .returned v ∧ W = w' := h.mono fun e w' h => ⟨h.1, h.2.symm⟩
end Go.Proofs.Ythnbnhlfiehihaa

