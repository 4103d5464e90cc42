/- Digests: pairs of them, in arrays and slices. -/
import Derived.Test.YtjbelkpmbbkhgaaShC
namespace Go.Proofs.Ytjbelkpmbbkhgaa
open Go.RowKit Go.Proofs.Ytjbelkpmbbkhgaa.Sh

theorem fold_set (off : Nat) : ∀ (us : List Value) (k : Nat) (pre old rest : List Value), old.length = us.length → pre.length = off + k →
    (us.zipIdx k).foldl (fun (cs : Array Value) (p : Value × Nat) => cs.setIfInBounds (off + p.2) p.1) (pre ++ old ++ rest).toArray = (pre ++ us ++ rest).toArray
  | [], k, pre, old, rest, hl, hp => by
    have : old = [] := List.eq_nil_of_length_eq_zero (by simpa using hl)
    subst this
    rfl
  | u :: us, k, pre, [], rest, hl, hp => by simp at hl
  | u :: us, k, pre, o :: old, rest, hl, hp => by
    rw [List.zipIdx_cons, List.foldl_cons]
    have e : (pre ++ o :: old ++ rest).toArray.setIfInBounds (off + k) u = ((pre ++ [u]) ++ old ++ rest).toArray := by
      rw [List.setIfInBounds_toArray, ← hp]
      simp
    simp only [e]
    rw [fold_set off us (k + 1) (pre ++ [u]) old rest (by simpa using hl) (by simp; omega)]
    simp
def numbered : Nat → List (List Value) → List (Nat × Value)
  | _, [] => []
  | k, u :: us => (k, .agg u.toArray) :: numbered (k + 1) us
theorem fill_many (n : Nat) : ∀ (us : List (List Value)) (k : Nat) (pre rest : List Value), pre.length = k * n → rest.length = us.length * n → (∀ u ∈ us, u.length = n) →
    Instr.fill (fun i => some (i * n, n)) (pre ++ rest).toArray (numbered k us) = some (pre ++ us.flatten).toArray
  | [], k, pre, rest, hp, hr, hu => by
    have : rest = [] := List.eq_nil_of_length_eq_zero (by simpa using hr)
    subst this
    rfl
  | u :: us, k, pre, rest, hp, hr, hu => by
    have hun := hu u (by simp)
    have hrl : n ≤ rest.length := by rw [hr, List.length_cons, Nat.add_mul]; omega
    rw [numbered, Instr.fill]
    simp only
    have hc : (Value.agg u.toArray).cells = u.toArray := rfl
    rw [hc, if_neg (by simp [hun]; omega)]
    have e : Array.foldl (fun (cs : Array Value) (x : Value × Nat) => match x with | (c, j) => cs.setIfInBounds (k * n + j) c) (pre ++ rest).toArray u.toArray.zipIdx = ((pre ++ u) ++ rest.drop n).toArray := by
      have h := fold_set (k * n) u 0 pre (rest.take n) (rest.drop n) (by rw [List.length_take]; omega) (by omega)
      rw [List.append_assoc, List.take_append_drop] at h
      rw [← Array.foldl_toList, Array.toList_zipIdx]
      exact h
    rw [e, fill_many n us (k + 1) (pre ++ u) (rest.drop n) (by rw [List.length_append, hp, hun, Nat.add_mul]; omega) (by rw [List.length_drop, hr, List.length_cons, Nat.add_mul]; omega) (fun v hv => hu v (by simp [hv]))]
    simp
theorem flat_get (n : Nat) : ∀ (us : List (List Value)) (k j : Nat) {u : List Value}, (∀ u ∈ us, u.length = n) → us[k]? = some u → j < n → us.flatten[n * k + j]? = u[j]?
  | [], k, j, u, _, h, _ => by simp at h
  | v :: us, 0, j, u, hu, h, hj => by
    simp only [List.getElem?_cons_zero, Option.some.injEq] at h
    subst h
    rw [List.flatten_cons, Nat.mul_zero, Nat.zero_add, List.getElem?_append_left (by rw [hu v (by simp)]; exact hj)]
  | v :: us, k + 1, j, u, hu, h, hj => by
    have hv := hu v (by simp)
    rw [List.flatten_cons, List.getElem?_append_right (by rw [hv, Nat.mul_add]; omega), hv, show n * (k + 1) + j - n = n * k + j by rw [Nat.mul_add]; omega]
    exact flat_get n us k j (fun w hw => hu w (by simp [hw])) (by simpa using h) hj
theorem addO (g o j : Nat) : (⟨g, o, none⟩ : Addr).add j = ⟨g, o + j, none⟩ := by
  unfold Addr.add
  split
  · rename_i h; subst h; rfl
  · rfl
theorem run_loadArrO (w : World) (t : TypeId) {n g o : Nat} {us : List Value} (hagg : ∀ w, (isAgg t).run Try.prog w = .ok true w) (hsz : ∀ w, (sizeOf t).run Try.prog w = .ok n w) (hA : ∀ (j : Nat) (u : Value), us[j]? = some u → w.cell? ⟨g, o + j, none⟩ = some u) (hn : us.length = n) :
    (Instr.loadAt t (.pointer (some ⟨g, o, none⟩))).run Try.prog w = .ok (.agg us.toArray) w := by
  have hl := run_loadCells_list (P := Try.prog) w ⟨g, o, none⟩ us (fun j u hu => by rw [addO]; exact hA j u hu)
  subst hn
  simp [Instr.loadAt, Instr.sureAddr, loadVar, hagg, hsz, hl]
def z64b : List UInt8 := List.replicate 64 0
theorem agg2i (w : World) : (isAgg 31).run Try.prog w = .ok true w := by first | exact Try.isAgg31 w | go_simp
theorem size2i (w : World) : (sizeOf 31).run Try.prog w = .ok 64 w := by first | exact Try.sizeOf31 w | go_simp
theorem info2i : (Try.prog.info? 31).bind (·.zero) = some (.agg (bv z64b).toArray) := by kernel_rfl
theorem zero2i (w : World) : (zeroValue 31).run Try.prog w = .ok (.agg (bv z64b).toArray) w := by
  have h := info2i
  cases hi : Try.prog.info? 31 with
  | none => rw [hi] at h; cases h
  | some i => rw [hi] at h; simp only [Option.bind_some] at h; simp [zeroValue, typeInfo, hi, h]
section
variable {o : Oper} {a : Act} {w : World} {x y x0 x1 x2 x3 x4 : Operand}
theorem ex_al2i (ho : o.op = .alloc 31) : (execOp a.eval o).run Try.prog w = .ok (.value (.pointer (some ⟨w.heap.size, 0, none⟩))) (w.alloc (.cells (bv z64b).toArray 31)) := by
  have hz := zero2i
  generalize (bv z64b).toArray = zs at hz ⊢
  simp [execOp, ho, Instr.alloc, hz, newVar, newRow, Value.cells]
theorem ex_st2i (ho : o.op = .store 31 x y) {g : Nat} {us old : List Value} (hx : a.eval x = .pointer (some ⟨g, 0, none⟩)) (hy : a.eval y = .agg us.toArray) (hA : At w g old) (hl : old.length = 64) (hn : us.length = 64) (h1 : ∀ u ∈ us, u.oneCell' = true) :
    (execOp a.eval o).run Try.prog w = .ok .skip (putL w g 0 us) := by
  have h := run_storeArr w 31 size2i hA hl hn h1
  simp [execOp, ho, hx, hy, h]
theorem ex_ld2i (ho : o.op = .load 31 x) {g off : Nat} {us : List Value} (hx : a.eval x = .pointer (some ⟨g, off, none⟩)) (hA : ∀ (j : Nat) (u : Value), us[j]? = some u → w.cell? ⟨g, off + j, none⟩ = some u) (hn : us.length = 64) : (execOp a.eval o).run Try.prog w = .ok (.value (.agg us.toArray)) w := by
  have h := run_loadArrO w 31 agg2i size2i hA hn
  simp [execOp, ho, hx, h]
theorem ex_ld32o (ho : o.op = .load 23 x) {g off : Nat} {us : List Value} (hx : a.eval x = .pointer (some ⟨g, off, none⟩)) (hA : ∀ (j : Nat) (u : Value), us[j]? = some u → w.cell? ⟨g, off + j, none⟩ = some u) (hn : us.length = 32) : (execOp a.eval o).run Try.prog w = .ok (.value (.agg us.toArray)) w := by
  have h := run_loadArrO w 23 agg32 size32 hA hn
  simp [execOp, ho, hx, h]
theorem ex_bld2v (ho : o.op = .build 31 #[(0, x), (1, y)]) {P R : List Value} (hx : a.eval x = .agg P.toArray) (hy : a.eval y = .agg R.toArray) (hpl : P.length = 32) (hql : R.length = 32) : (execOp a.eval o).run Try.prog w = .ok (.value (.agg (P ++ R).toArray)) w := by
  have hz := zero2i w
  have hu : Try.prog.underlying 31 = some (.array 2 23) := by kernel_rfl
  have hs := size32 w
  have hzl : (bv z64b).length = 64 := by rw [bv_len, z64b, List.length_replicate]
  generalize bv z64b = zl at hz hzl
  have hf := fill_many 32 [P, R] 0 [] zl (by simp) (by simp [hzl]) (by intro u hu; simp only [List.mem_cons, List.not_mem_nil, or_false] at hu; rcases hu with rfl | rfl <;> assumption)
  have hap2 : [P, R].flatten = P ++ R := by simp
  rw [List.nil_append, List.nil_append, hap2] at hf
  simp only [numbered, Nat.zero_add] at hf
  have hc : (Value.agg zl.toArray).cells = zl.toArray := rfl
  simp only [execOp, ho, Instr.build, Sem.run_bind, hz, hc, Result.andThen_ok, run_underlying hu, hs, hx, hy, List.map_toArray, List.map_cons, List.map_nil]
  rw [hf]
  rfl
theorem ex_bsl (ho : o.op = .buildSlice 32 5 #[(0, x0), (1, x1), (2, x2), (3, x3), (4, x4)]) {u0 u1 u2 u3 u4 : List Value} (h0 : a.eval x0 = .agg u0.toArray) (h1 : a.eval x1 = .agg u1.toArray) (h2 : a.eval x2 = .agg u2.toArray) (h3 : a.eval x3 = .agg u3.toArray) (h4 : a.eval x4 = .agg u4.toArray)
    (hl : ∀ u ∈ [u0, u1, u2, u3, u4], u.length = 64) : (execOp a.eval o).run Try.prog w = .ok (.value (.slice (some ⟨w.heap.size, 0, none⟩) 5 5)) (w.alloc (.cells [u0, u1, u2, u3, u4].flatten.toArray 31)) := by
  have hz := zero2i w
  have hu : Try.prog.underlying 32 = some (.slice 31) := Try.underlying32
  have hs := size2i w
  generalize (bv z64b).toArray = zl at hz
  have hc : (Value.agg zl).cells = zl := rfl
  simp only [execOp, ho, Instr.buildSlice, Sem.run_bind, hz, hc, Result.andThen_ok, run_underlying hu, hs, h0, h1, h2, h3, h4, List.map_toArray, List.map_cons, List.map_nil]
  obtain ⟨Z, hZ⟩ : ∃ Z : List Value, Z.toArray = Array.map (fun (i : Nat) => zl[i % zl.size]!) (Array.range (5 * 64)) := ⟨(Array.map (fun (i : Nat) => zl[i % zl.size]!) (Array.range (5 * 64))).toList, Array.toArray_toList⟩
  have hZl : Z.length = 5 * 64 := by
    have := congrArg Array.size hZ
    simpa using this
  have hf := fill_many 64 [u0, u1, u2, u3, u4] 0 [] Z (by simp) (by simp [hZl]) hl
  rw [List.nil_append, List.nil_append] at hf
  simp only [numbered, Nat.zero_add] at hf
  rw [if_neg (by decide), if_neg (by decide)]
  simp only [Sem.run_bind, Sem.run_pure, Result.andThen_ok, hz, hc]
  rw [← hZ, hf]
  rfl
end
end Go.Proofs.Ytjbelkpmbbkhgaa

