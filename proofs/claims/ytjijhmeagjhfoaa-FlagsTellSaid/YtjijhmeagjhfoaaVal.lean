/- Arrays in memory; an operation's value. -/
import Derived.Test.YtjijhmeagjhfoaaAt
import Derived.Test.YtjijhmeagjhfoaaPar
namespace Go.Proofs.Ytjijhmeagjhfoaa
open Go.RowKit

theorem addN (g j : Nat) : (⟨g, 0, none⟩ : Addr).add j = ⟨g, j, none⟩ := addr0 g j
theorem run_loadArr (w : World) (t : TypeId) {n g : Nat} {us : List Value} (hagg : ∀ w, (isAgg t).run Try.prog w = .ok true w) (hsz : ∀ w, (sizeOf t).run Try.prog w = .ok n w) (hA : At w g us) (hn : us.length = n) :
    (Instr.loadAt t (.pointer (some ⟨g, 0, none⟩))).run Try.prog w = .ok (.agg us.toArray) w := by
  have hl := run_loadCells_list (P := Try.prog) w ⟨g, 0, none⟩ us (fun j u hu => by rw [addN]; exact hA.c j hu)
  subst hn
  simp [Instr.loadAt, Instr.sureAddr, loadVar, hagg, hsz, hl]
theorem putL_setCells : ∀ (us : List Value) (w : World) (g o : Nat), putL w g o us = w.setCells g o us
  | [], _, _, _ => rfl
  | _u :: us, _w, g, o => putL_setCells us _ g (o + 1)
theorem run_storeArr (w : World) (t : TypeId) {n g : Nat} {us old : List Value} (hsz : ∀ w, (sizeOf t).run Try.prog w = .ok n w) (hA : At w g old) (ho : old.length = n) (hn : us.length = n) (h1 : ∀ u ∈ us, u.oneCell' = true) :
    (Instr.storeAt t (.pointer (some ⟨g, 0, none⟩)) (.agg us.toArray)).run Try.prog w = .ok () (putL w g 0 us) := by
  have hst := run_storeCells_cells (P := Try.prog) g 0 us 0 w (fun j hj => by rw [Nat.zero_add, hA.c j (List.getElem?_eq_getElem (by omega))]; rfl) (fun j hj => by rw [Nat.zero_add]; exact hA.f j (List.getElem?_eq_getElem (by omega))) h1
  simp only [Nat.add_zero] at hst
  rw [putL_setCells]
  subst hn
  simp [Instr.storeAt, Instr.sureAddr, storeVar, hsz, Value.cells, hst]
section
variable {ops : Array Oper} {rest : List Oper} {o : Oper} {a : Act} {Q : Exit → Act → World → Prop} {w : World} {x y : Operand}
theorem wpVal {K : Act → World → Prop} {v : Value} {w' : World} (hv : (execOp a.eval o).run Try.prog w = .ok (.value v) w') (h : K (a.put o.dst v) w') : o.wp Try.prog a w K Q := by
  unfold Oper.wp
  rw [hv]
  exact h
theorem wpSkip {K : Act → World → Prop} {w' : World} (hv : (execOp a.eval o).run Try.prog w = .ok .skip w') (h : K (a.put o.dst undef) w') : o.wp Try.prog a w K Q := by
  unfold Oper.wp
  rw [hv]
  exact h
theorem opVal (hgd : o.guard = none) {v : Value} {w' : World} (hv : (execOp a.eval o).run Try.prog w = .ok (.value v) w') (h : wpList Try.prog ops Q rest (a.put o.dst v) w') : wpList Try.prog ops Q (o :: rest) a w :=
  wpList_plain hgd fun _ hK => wpVal hv (hK _ _ h)
theorem opSkip (hgd : o.guard = none) {w' : World} (hv : (execOp a.eval o).run Try.prog w = .ok .skip w') (h : wpList Try.prog ops Q rest (a.put o.dst undef) w') : wpList Try.prog ops Q (o :: rest) a w :=
  wpList_plain hgd fun _ hK => wpSkip hv (hK _ _ h)
end
theorem opValG {ops : Array Oper} {rest : List Oper} {o : Oper} {a : Act} {Q : Exit → Act → World → Prop} {w : World} (hgd : Region.wanted o (yielded ops a.tmps) = true) {v : Value} {w' : World} (hv : (execOp a.eval o).run Try.prog w = .ok (.value v) w') (h : wpList Try.prog ops Q rest (a.put o.dst v) w') : wpList Try.prog ops Q (o :: rest) a w :=
  wpList_step fun K hK => by simp only [hgd, if_true]; exact wpVal hv (hK _ _ h)
theorem addO (g o j : Nat) : (⟨g, o, none⟩ : Addr).add j = ⟨g, o + j, none⟩ := by
  unfold Addr.add
  split
  · rename_i h; subst h; rfl
  · rfl
theorem run_loadArrO (w : World) (t : TypeId) {n g o : Nat} {us : List Value} (hagg : ∀ w, (isAgg t).run Try.prog w = .ok true w) (hsz : ∀ w, (sizeOf t).run Try.prog w = .ok n w) (hA : ∀ (j : Nat) (u : Value), us[j]? = some u → w.cell? ⟨g, o + j, none⟩ = some u) (hn : us.length = n) :
    (Instr.loadAt t (.pointer (some ⟨g, o, none⟩))).run Try.prog w = .ok (.agg us.toArray) w := by
  have hl := run_loadCells_list (P := Try.prog) w ⟨g, o, none⟩ us (fun j u hu => by rw [addO]; exact hA j u hu)
  subst hn
  simp [Instr.loadAt, Instr.sureAddr, loadVar, hagg, hsz, hl]
section
variable {ops : Array Oper} {rest : List Oper} {o : Oper} {a : Act} {Q : Exit → Act → World → Prop} {w : World} {x y : Operand} {t : TypeId}
theorem ex_alT {zs : Array Value} (hz : ∀ w, (zeroValue t).run Try.prog w = .ok (.agg zs) w) (ho : o.op = .alloc t) : (execOp a.eval o).run Try.prog w = .ok (.value (.pointer (some ⟨w.heap.size, 0, none⟩))) (w.alloc (.cells zs t)) := by
  simp [execOp, ho, Instr.alloc, hz, newVar, newRow, Value.cells]
theorem ex_ldT {n : Nat} (hagg : ∀ w, (isAgg t).run Try.prog w = .ok true w) (hsz : ∀ w, (sizeOf t).run Try.prog w = .ok n w) (ho : o.op = .load t x) {g : Nat} {us : List Value} (hx : a.eval x = .pointer (some ⟨g, 0, none⟩)) (hA : At w g us) (hn : us.length = n) : (execOp a.eval o).run Try.prog w = .ok (.value (.agg us.toArray)) w := by
  have h := run_loadArr w t hagg hsz hA hn
  simp [execOp, ho, hx, h]
theorem ex_ldTo {n : Nat} (hagg : ∀ w, (isAgg t).run Try.prog w = .ok true w) (hsz : ∀ w, (sizeOf t).run Try.prog w = .ok n w) (ho : o.op = .load t x) {g off : Nat} {us : List Value} (hx : a.eval x = .pointer (some ⟨g, off, none⟩)) (hA : ∀ (j : Nat) (u : Value), us[j]? = some u → w.cell? ⟨g, off + j, none⟩ = some u) (hn : us.length = n) : (execOp a.eval o).run Try.prog w = .ok (.value (.agg us.toArray)) w := by
  have h := run_loadArrO w t hagg hsz hA hn
  simp [execOp, ho, hx, h]
theorem ex_stT {n : Nat} (hsz : ∀ w, (sizeOf t).run Try.prog w = .ok n w) (ho : o.op = .store t x y) {g : Nat} {us old : List Value} (hx : a.eval x = .pointer (some ⟨g, 0, none⟩)) (hy : a.eval y = .agg us.toArray) (hA : At w g old) (hl : old.length = n) (hn : us.length = n) (h1 : ∀ u ∈ us, u.oneCell' = true) :
    (execOp a.eval o).run Try.prog w = .ok .skip (putL w g 0 us) := by
  have h := run_storeArr w t hsz hA hl hn h1
  simp [execOp, ho, hx, hy, h]
theorem ex_boxT (ho : o.op = .box t x) {us : List Value} (hx : a.eval x = .agg us.toArray) : (execOp a.eval o).run Try.prog w = .ok (.value (.pointer (some ⟨w.heap.size, 0, none⟩))) (w.alloc (.cells us.toArray t)) := by
  simp [execOp, ho, hx, Instr.box, newVar, newRow, Value.cells]
end
section
variable {ops : Array Oper} {rest : List Oper} {o : Oper} {a : Act} {Q : Exit → Act → World → Prop} {w : World}
/- the same, with the world behind it by name -/
theorem opValV (hgd : o.guard = none) {v : Value} {w' : World} (hv : (execOp a.eval o).run Try.prog w = .ok (.value v) w') (h : ∀ W, W = w' → wpList Try.prog ops Q rest (a.put o.dst v) W) : wpList Try.prog ops Q (o :: rest) a w :=
  opVal hgd hv (h w' rfl)
theorem opSkipV (hgd : o.guard = none) {w' : World} (hv : (execOp a.eval o).run Try.prog w = .ok .skip w') (h : ∀ W, W = w' → wpList Try.prog ops Q rest (a.put o.dst undef) W) : wpList Try.prog ops Q (o :: rest) a w :=
  opSkip hgd hv (h w' rfl)
end
end Go.Proofs.Ytjijhmeagjhfoaa

