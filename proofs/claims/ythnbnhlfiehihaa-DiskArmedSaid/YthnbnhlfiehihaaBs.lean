/- What is built of parts: slices of one element, structs. -/
import Derived.Test.YthnbnhlfiehihaaRow
import Derived.Laws.Tables
import Derived.Great.BuildSlice
namespace Go.Proofs.Ythnbnhlfiehihaa
open Go.RowKit

theorem fold_set (off : Nat) : ∀ (us : List Value) (k : Nat) (pre old rest : List Value), old.length = us.length → pre.length = off + k →
    (us.zipIdx k).foldl (fun (cs : Array Value) (p : Value × Nat) => cs.setIfInBounds (off + p.2) p.1) (pre ++ old ++ rest).toArray = (pre ++ us ++ rest).toArray
  | [], k, pre, old, rest, hl, hp => by
    have : old = [] := List.eq_nil_of_length_eq_zero (by simpa using hl)
    subst this
    rfl
  | u :: us, k, pre, [], rest, hl, hp => by simp at hl
  | u :: us, k, pre, o :: old, rest, hl, hp => by
    rw [List.zipIdx_cons, List.foldl_cons]
    have e : (pre ++ o :: old ++ rest).toArray.setIfInBounds (off + k) u = ((pre ++ [u]) ++ old ++ rest).toArray := by
      rw [List.setIfInBounds_toArray, ← hp]
      simp
    simp only [e]
    rw [fold_set off us (k + 1) (pre ++ [u]) old rest (by simpa using hl) (by simp; omega)]
    simp
def numbered : Nat → List (List Value) → List (Nat × Value)
  | _, [] => []
  | k, u :: us => (k, .agg u.toArray) :: numbered (k + 1) us
theorem fill_many (n : Nat) : ∀ (us : List (List Value)) (k : Nat) (pre rest : List Value), pre.length = k * n → rest.length = us.length * n → (∀ u ∈ us, u.length = n) →
    Instr.fill (fun i => some (i * n, n)) (pre ++ rest).toArray (numbered k us) = some (pre ++ us.flatten).toArray
  | [], k, pre, rest, hp, hr, hu => by
    have : rest = [] := List.eq_nil_of_length_eq_zero (by simpa using hr)
    subst this
    rfl
  | u :: us, k, pre, rest, hp, hr, hu => by
    have hun := hu u (by simp)
    have hrl : n ≤ rest.length := by rw [hr, List.length_cons, Nat.add_mul]; omega
    rw [numbered, Instr.fill]
    simp only
    have hc : (Value.agg u.toArray).cells = u.toArray := rfl
    rw [hc, if_neg (by simp [hun]; omega)]
    have e : Array.foldl (fun (cs : Array Value) (x : Value × Nat) => match x with | (c, j) => cs.setIfInBounds (k * n + j) c) (pre ++ rest).toArray u.toArray.zipIdx = ((pre ++ u) ++ rest.drop n).toArray := by
      have h := fold_set (k * n) u 0 pre (rest.take n) (rest.drop n) (by rw [List.length_take]; omega) (by omega)
      rw [List.append_assoc, List.take_append_drop] at h
      rw [← Array.foldl_toList, Array.toList_zipIdx]
      exact h
    rw [e, fill_many n us (k + 1) (pre ++ u) (rest.drop n) (by rw [List.length_append, hp, hun, Nat.add_mul]; omega) (by rw [List.length_drop, hr, List.length_cons, Nat.add_mul]; omega) (fun v hv => hu v (by simp [hv]))]
    simp
/-- a part laid where it belongs -/
theorem fill_part (place : Nat → Option (Nat × Nat)) (i : Nat) (v : Value) (us pre old rest : List Value) (parts : List (Nat × Value)) (hp : place i = some (pre.length, us.length)) (hv : v.cells = us.toArray) (ho : old.length = us.length) :
    Instr.fill place (pre ++ old ++ rest).toArray ((i, v) :: parts) = Instr.fill place (pre ++ us ++ rest).toArray parts := by
  rw [Instr.fill, hp]
  simp only
  rw [hv, if_neg (by simp; omega)]
  congr 1
  have h := fold_set pre.length us 0 pre old rest ho rfl
  rw [← Array.foldl_toList, Array.toList_zipIdx]
  exact h
section
variable {P : Program} {t e : TypeId} {α : Type}
theorem ET.run_bs1 (E : ET P t e α) (w : World) (x : α) {v : Value} (hv : v.cells = (E.cells x).toArray) :
    (Instr.buildSlice t 1 #[(0, v)]).run P w = .ok (.slice (some ⟨w.heap.size, 0, none⟩) 1 1) (w.alloc (.cells (E.cells x).toArray e)) := by
  obtain ⟨i, hi, hz, hz1, hz2⟩ := info_parts E.info
  have hp := E.pos
  have hs := E.small
  by_cases hbig : 1 * i.size > 2 ^ 24
  · exact absurd hbig (by rw [hz1]; have := E.ncap; omega)
  refine run_buildSlice w t e 1 _ _ i E.z E.ty hi hz hbig (by rw [hz1]; omega) ?_
  obtain ⟨Z, hZ⟩ : ∃ Z : List Value, Z.toArray = Array.map (fun (k : Nat) => E.z.cells[k % E.z.cells.size]!) (Array.range (1 * i.size)) := ⟨(Array.map (fun (k : Nat) => E.z.cells[k % E.z.cells.size]!) (Array.range (1 * i.size))).toList, Array.toArray_toList⟩
  have hZl : Z.length = i.size := by
    have := congrArg Array.size hZ
    simpa using this
  rw [← hZ]
  have h := fill_part (fun k => some (k * i.size, i.size)) 0 v (E.cells x) [] Z [] [] (by simp [hz1, E.len]) hv (by rw [hZl, hz1, E.len])
  simp only [List.nil_append, List.append_nil] at h
  rw [h]
  rfl
variable {o : Oper} {a : Act} {w : World} {x : Operand}
theorem ET.ex_bs1 (E : ET P t e α) (ho : o.op = .buildSlice t 1 #[(0, x)]) (c : α) (hx : (a.eval x).cells = (E.cells c).toArray) :
    (execOp a.eval o).run P w = .ok (.value (.slice (some ⟨w.heap.size, 0, none⟩) 1 1)) (w.alloc (.cells (E.cells c).toArray e)) := by
  have := E.run_bs1 w c hx
  simp [execOp, ho, this]
theorem ET.own1 (E : ET P t e α) (w : World) (c : α) : E.Own (w.alloc (.cells (E.cells c).toArray e)) w.heap.size (.slice (some ⟨w.heap.size, 0, none⟩) 1 1) [c] :=
  ET.Own.lit w [c] (by simp [maxLen]) (by simp [ET.dv])
theorem ex_bldT {parts : Array (Nat × Operand)} {cs : List Value} (ho : o.op = .build t parts) {ps : List (Nat × Value)} (hps : (parts.map fun (i, x) => (i, a.eval x)).toList = ps) (hb : P.built t ps = some cs.toArray) : (execOp a.eval o).run P w = .ok (.value (.agg cs.toArray)) w := by
  subst hps
  have := run_build w t _ _ hb
  simp [execOp, ho, this]
end
end Go.Proofs.Ythnbnhlfiehihaa

