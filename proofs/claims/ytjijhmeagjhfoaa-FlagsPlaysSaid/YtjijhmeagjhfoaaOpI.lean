/- An operation of a fenced walk by its value. -/
import Derived.Test.YtjijhmeagjhfoaaRanW
namespace Go.Proofs.Ytjijhmeagjhfoaa
open Go.RowKit Go.Shelf

def plainOp : Op → Bool
  | .call _ => false
  | .defer _ => false
  | _ => true
section
variable {F : Fence} {n : Nat} {P : Program} {ops : Array Oper} {rest : List Oper} {o : Oper} {a : Act} {Q : Exit → Act → World → Prop} {w w' : World} {v : Value} {K : Act → World → Prop}
theorem plain_about (h : plainOp o.op = true) (f : FuncId) (hf : o.about P w a.eval = some f) : F.fn f := by
  unfold Oper.about at hf
  split at hf
  · rename_i c e
    rw [e] at h; cases h
  · cases hf
theorem plain_sem (F : Fence) (h : plainOp o.op = true) (ρ : Operand → Value) : o.semAt F.round ρ = execOp ρ o :=
  Oper.semAt_plain F ρ o fun c e => by rw [e] at h; cases h
theorem wpInVal (hp : plainOp o.op = true) (hv : (execOp a.eval o).run P w = .ok (.value v) w') (h : K (a.put o.dst v) w') : o.wpIn F n P a w K Q := by
  refine ⟨fun f hf => plain_about hp f hf, ?_⟩
  rw [plain_sem F hp, hv]
  exact h
theorem wpInSkip (hp : plainOp o.op = true) (hv : (execOp a.eval o).run P w = .ok .skip w') (h : K (a.put o.dst undef) w') : o.wpIn F n P a w K Q := by
  refine ⟨fun f hf => plain_about hp f hf, ?_⟩
  rw [plain_sem F hp, hv]
  exact h
theorem opValI (hg : o.guard = none) (hp : plainOp o.op = true) (hv : (execOp a.eval o).run P w = .ok (.value v) w') (h : wpListIn F n P ops Q rest (a.put o.dst v) w') : wpListIn F n P ops Q (o :: rest) a w :=
  wpListIn_plain hg fun _ hK => wpInVal hp hv (hK _ _ h)
theorem opSkipI (hg : o.guard = none) (hp : plainOp o.op = true) (hv : (execOp a.eval o).run P w = .ok .skip w') (h : wpListIn F n P ops Q rest (a.put o.dst undef) w') : wpListIn F n P ops Q (o :: rest) a w :=
  wpListIn_plain hg fun _ hK => wpInSkip hp hv (hK _ _ h)
theorem opValIV (hg : o.guard = none) (hp : plainOp o.op = true) (hv : (execOp a.eval o).run P w = .ok (.value v) w') (h : ∀ W, W = w' → wpListIn F n P ops Q rest (a.put o.dst v) W) : wpListIn F n P ops Q (o :: rest) a w :=
  opValI hg hp hv (h w' rfl)
theorem opSkipIV (hg : o.guard = none) (hp : plainOp o.op = true) (hv : (execOp a.eval o).run P w = .ok .skip w') (h : ∀ W, W = w' → wpListIn F n P ops Q rest (a.put o.dst undef) W) : wpListIn F n P ops Q (o :: rest) a w :=
  opSkipI hg hp hv (h w' rfl)
end
end Go.Proofs.Ytjijhmeagjhfoaa

