/- Rows of elements: slices of slices (s[:j:j], s[j:]), stores of an element. -/
import Derived.Test.YthnbnhlfiehihaaBs
namespace Go.Proofs.Ythnbnhlfiehihaa
open Go.RowKit

theorem addr_zero (a : Addr) : a.add 0 = a := by
  unfold Addr.add
  split
  · rfl
  · rename_i h; exact absurd rfl h
section
variable {P : Program} {t e : TypeId} {α : Type}
theorem ET.size (E : ET P t e α) : ∃ i, P.info? e = some i ∧ i.size = E.n := by
  obtain ⟨i, hi, hz, hz1, hz2⟩ := info_parts E.info
  exact ⟨i, hi, hz1⟩
theorem ET.sizeOf (E : ET P t e α) (w : World) : (sizeOf e).run P w = .ok E.n w := by
  obtain ⟨i, hi, hs⟩ := E.size
  simp [Go.sizeOf, typeInfo, hi, hs]
/-- s[:j:j] -/
theorem ET.sl_pre (E : ET P t e α) (A : Option Addr) (m c j : Nat) (hj : j ≤ c) (w : World) :
    (Instr.sliceAt t (.slice A m c) none (some (.int .i64 (j : Int))) (some (.int .i64 (j : Int)))).run P w = .ok (.slice A j j) w := by
  obtain ⟨i, hi, hs⟩ := E.size
  have e : A.map (fun x => x.add 0) = A := by cases A <;> simp [addr_zero]
  simp [Instr.sliceAt, Instr.slice, run_underlying E.ty, Instr.sliceBounds, Instr.sliceBound, asIntOf, Go.sizeOf, typeInfo, hi]
  rw [if_pos hj, e]
  simp
/-- s[:j] -/
theorem ET.sl_pre1 (E : ET P t e α) (A : Option Addr) (m c j : Nat) (hj : j ≤ c) (w : World) :
    (Instr.sliceAt t (.slice A m c) none (some (.int .i64 (j : Int))) none).run P w = .ok (.slice A j c) w := by
  obtain ⟨i, hi, hs⟩ := E.size
  have e : A.map (fun x => x.add 0) = A := by cases A <;> simp [addr_zero]
  simp [Instr.sliceAt, Instr.slice, run_underlying E.ty, Instr.sliceBounds, Instr.sliceBound, asIntOf, Go.sizeOf, typeInfo, hi]
  rw [if_pos hj, e]
  simp
/-- s[j:] -/
theorem ET.sl_post (E : ET P t e α) (A : Option Addr) (m c j : Nat) (hj : j ≤ m) (hc : m ≤ c) :
    ∃ A2, (∀ w, (Instr.sliceAt t (.slice A m c) (some (.int .i64 (j : Int))) none none).run P w = .ok (.slice A2 (m - j) (c - j)) w) ∧ ∀ (w : World) (B : Nat) (o : List α), o.length = m → Sl w B A (E.dv o) → Sl w B A2 (E.dv (o.drop j)) := by
  obtain ⟨i, hi, hs⟩ := E.size
  refine ⟨if c = j then A else A.map (fun x => x.add (j * i.size)), fun w => ?_, fun w B o ho hS => ?_⟩
  · simp [Instr.sliceAt, Instr.slice, run_underlying E.ty, Instr.sliceBounds, Instr.sliceBound, asIntOf, Go.sizeOf, typeInfo, hi]
    intro h; omega
  · have hmul : j * E.n ≤ o.length * E.n := Nat.mul_le_mul_right _ (by omega)
    have hmul2 : o.length * E.n ≤ c * E.n := Nat.mul_le_mul_right _ (by omega)
    have h := hS.cut (j * E.n) (c * E.n) (by rw [E.dv_len]; omega)
    rw [E.dv_drop] at h
    rw [hs]
    by_cases e : c = j
    · rw [if_pos e]; rw [if_pos (by rw [e])] at h; exact h
    · have hne : ¬ c * E.n = j * E.n := fun h' => e (Nat.eq_of_mul_eq_mul_right E.pos h')
      rw [if_neg e]; rw [if_neg hne] at h; exact h
variable {a : Act} {o : Oper} {x y z : Operand}
theorem ET.exec_pre (E : ET P t e α) (ho : o.op = .slice t x none (some y) (some z)) {A : Option Addr} {m c j : Nat} (hx : a.eval x = .slice A m c) (hy : a.eval y = .int .i64 (j : Int)) (hz : a.eval z = .int .i64 (j : Int)) (hj : j ≤ c) (w : World) :
    (execOp a.eval o).run P w = .ok (.value (.slice A j j)) w := by
  have h := E.sl_pre A m c j hj w
  simp [execOp, ho, hx, hy, hz, h]
theorem ET.exec_post (_E : ET P t e α) (ho : o.op = .slice t x (some y) none none) {A A2 : Option Addr} {m c j : Nat} (hx : a.eval x = .slice A m c) (hy : a.eval y = .int .i64 (j : Int))
    (h : ∀ w, (Instr.sliceAt t (.slice A m c) (some (.int .i64 (j : Int))) none none).run P w = .ok (.slice A2 (m - j) (c - j)) w) (w : World) :
    (execOp a.eval o).run P w = .ok (.value (.slice A2 (m - j) (c - j))) w := by
  simp [execOp, ho, hx, hy, h]
theorem run_storeO (w : World) (t : TypeId) {n g o : Nat} {us : List Value} (hsz : ∀ w, (sizeOf t).run P w = .ok n w) (hc : ∀ j, j < us.length → (w.cell? ⟨g, o + j, none⟩).isSome = true) (hf : ∀ j, j < us.length → w.frozen? ⟨g, o + j, none⟩ = false) (hn : us.length = n) (h1 : ∀ u ∈ us, u.oneCell' = true) :
    (Instr.storeAt t (.pointer (some ⟨g, o, none⟩)) (.agg us.toArray)).run P w = .ok () (w.setCells g o us) := by
  have hst := run_storeCells_cells (P := P) g o us 0 w (fun j hj => by rw [Nat.add_zero]; exact hc j hj) (fun j hj => by rw [Nat.add_zero]; exact hf j hj) h1
  simp only [Nat.add_zero] at hst
  subst hn
  simp [Instr.storeAt, Instr.sureAddr, storeVar, hsz, Value.cells, hst]
/-- an element is laid into a row -/
theorem ET.ex_set (E : ET P t e α) {w : World} {g k : Nat} {l : List α} (ho : o.op = .store e x y) (h : E.Row w g l) (hk : k < l.length) (s : α) (hx : a.eval x = .pointer (some ⟨g, k * E.n, none⟩)) (hy : a.eval y = .agg (E.cells s).toArray) :
    (execOp a.eval o).run P w = .ok .skip (w.setCells g (k * E.n) (E.cells s)) := by
  have hk1 : (k + 1) * E.n ≤ l.length * E.n := Nat.mul_le_mul_right _ (by omega)
  rw [Nat.add_mul] at hk1
  have hcell : ∀ j, j < (E.cells s).length → ∃ u, w.cell? ⟨g, k * E.n + j, none⟩ = some u ∧ w.frozen? ⟨g, k * E.n + j, none⟩ = false := fun j hj => by
    rw [E.len] at hj
    have hj' : k * E.n + j < (E.dv l).length := by rw [E.dv_len]; omega
    exact ⟨_, h.2 _ _ (List.getElem?_eq_getElem hj')⟩
  have hst := run_storeO (P := P) w e (n := E.n) (g := g) (o := k * E.n) (us := E.cells s) E.sizeOf (fun j hj => by obtain ⟨u, hu, _⟩ := hcell j hj; rw [hu]; rfl) (fun j hj => by obtain ⟨u, _, hu⟩ := hcell j hj; exact hu) (E.len s) (E.one s)
  simp [execOp, ho, hx, hy, hst]
end
theorem setCells_size : ∀ (us : List Value) (o : Nat) (w : World) (g : Nat), (w.setCells g o us).heap.size = w.heap.size
  | [], _, _, _ => rfl
  | u :: us, o, w, g => by simp [World.setCells, setCells_size us]
theorem At.setCells_other : ∀ (us : List Value) (o : Nat) {w : World} {g g' : Nat} {vs : List Value}, At w g vs → g' ≠ g → At (w.setCells g' o us) g vs
  | [], _, _, _, _, _, h, _ => h
  | u :: us, o, _, _, _, _, h, hne => At.setCells_other us (o + 1) (h.set_other o u hne) hne
end Go.Proofs.Ythnbnhlfiehihaa

