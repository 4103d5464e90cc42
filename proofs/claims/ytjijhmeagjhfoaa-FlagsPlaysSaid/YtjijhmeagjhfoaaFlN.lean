/- Flags: the document's elements, equal or not; Get, SameFlags, Join. -/
import Derived.Test.YtjijhmeagjhfoaaFlQ
namespace Go.Proofs.Ytjijhmeagjhfoaa
open Go.RowKit
set_option maxRecDepth 20000

theorem flagFields : (Try.prog.fieldsOf 72).toList.map (fun f => (f.name, f.type, f.offset)) = [("X", 25, 0), ("S", 30, 32), ("On", 4, 35)] := by kernel_rfl
theorem part_id (w : World) (e : FE) : (part 25 (FE.cells e).toArray 0).run Try.prog w = .ok (.agg (bv e.1.l).toArray) w := by
  have h : ((FE.cells e).toArray.extract 0 (0 + 32)) = (bv e.1.l).toArray := by
    rw [List.extract_toArray]
    congr 1
    rw [List.extract_eq_take_drop, List.drop_zero, FE.cells, List.take_append_of_le_length (by rw [bv_len, e.1.h]; omega), List.take_of_length_le (by rw [bv_len, e.1.h]; omega)]
  simp only [part, Sem.run_bind, agg32, size32, Result.andThen_ok, if_true, Sem.run_pure, h]
theorem part_s (w : World) (e : FE) : (part 30 (FE.cells e).toArray 32).run Try.prog w = .ok (.agg #[.int .i64 e.2.s.p, .int .i64 e.2.s.l, .int .i64 e.2.s.r]) w := by
  have h : ((FE.cells e).toArray.extract 32 (32 + 3)) = #[.int .i64 e.2.s.p, .int .i64 e.2.s.l, .int .i64 e.2.s.r] := by
    rw [List.extract_toArray]
    congr 1
    have e1 : (FE.cells e).drop 32 = [.int .i64 e.2.s.p, .int .i64 e.2.s.l, .int .i64 e.2.s.r, .bool e.2.on] := by
      rw [FE.cells, List.drop_append_of_le_length (by rw [bv_len, e.1.h]; omega), List.drop_of_length_le (by rw [bv_len, e.1.h]; omega)]
      rfl
    rw [List.extract_eq_take_drop, e1]
    rfl
  have ha : (isAgg 30).run Try.prog w = .ok true w := by first | exact Try.isAgg30 w | go_simp
  have hs : (sizeOf 30).run Try.prog w = .ok 3 w := by first | exact Try.sizeOf30 w | go_simp
  simp only [part, Sem.run_bind, ha, hs, Result.andThen_ok, if_true, Sem.run_pure, h]
theorem part_on (w : World) (e : FE) : (part 4 (FE.cells e).toArray 35).run Try.prog w = .ok (.bool e.2.on) w := by
  have ha : (isAgg 4).run Try.prog w = .ok false w := by first | exact Try.isAgg4 w | go_simp
  have h : (FE.cells e).toArray[35]? = some (.bool e.2.on) := by
    rw [List.getElem?_toArray]
    exact FE.m_cell e 3
  simp [part, ha, h]
theorem eqFlag (w : World) (e f : FE) : (Op.equalIn 10000 72 (.agg (FE.cells e).toArray) (.agg (FE.cells f).toArray)).run Try.prog w = .ok (decide (e = f)) w := by
  have hm := flagFields
  rw [show (10000 : Nat) = 9999 + 1 from rfl, run_equalIn_struct w 9999 72 _ _ (by kernel_rfl) (by kernel_rfl)]
  generalize (Try.prog.fieldsOf 72).toList = fs at hm ⊢
  obtain ⟨f1, r1, rfl, e1, hm⟩ := List.map_eq_cons_iff.1 hm
  obtain ⟨f2, r2, rfl, e2, hm⟩ := List.map_eq_cons_iff.1 hm
  obtain ⟨f3, r3, rfl, e3, hm⟩ := List.map_eq_cons_iff.1 hm
  obtain rfl := List.map_eq_nil_iff.1 hm
  simp only [Prod.mk.injEq] at e1 e2 e3
  obtain ⟨n1, t1, o1⟩ := e1
  obtain ⟨n2, t2, o2⟩ := e2
  obtain ⟨n3, t3, o3⟩ := e3
  have h1 : (Op.equalIn 9999 25 (.agg (bv e.1.l).toArray) (.agg (bv f.1.l).toArray)).run Try.prog w = .ok (decide (e.1.l = f.1.l)) w := eqIn32d 9997 w e.1.l f.1.l e.1.h f.1.h
  have h2 : (Op.equalIn 9999 30 (.agg #[.int .i64 e.2.s.p, .int .i64 e.2.s.l, .int .i64 e.2.s.r]) (.agg #[.int .i64 f.2.s.p, .int .i64 f.2.s.l, .int .i64 f.2.s.r])).run Try.prog w = .ok (decide (e.2.s = f.2.s)) w := by
    obtain ⟨_, ⟨p, l, r⟩, _⟩ := e
    obtain ⟨_, ⟨p', l', r'⟩, _⟩ := f
    go_simp
    by_cases h1 : p = p' <;> by_cases h2 : l = l' <;> by_cases h3 : r = r' <;> simp [h1, h2, h3]
  have h3 : (Op.equalIn 9999 4 (.bool e.2.on) (.bool f.2.on)).run Try.prog w = .ok (e.2.on == f.2.on) w := run_equalIn_bool' w 9998 _ _ _ (by kernel_rfl)
  simp only [Op.eqFields, n1, n2, n3, t1, t2, t3, o1, o2, o3, Sem.run_bind, Sem.run_ite, part_id, part_s, part_on, Result.andThen_ok, h2, h3]
  rw [if_pos (by decide), h1]
  simp only [Result.andThen_ok]
  by_cases hi : e.1.l = f.1.l
  · rw [decide_eq_true hi]
    simp only [Bool.not_true, Bool.false_eq_true, if_false]
    rw [if_pos (by decide), h2]
    simp only [Result.andThen_ok]
    by_cases hs : e.2.s = f.2.s
    · rw [decide_eq_true hs]
      simp only [Bool.not_true, Bool.false_eq_true, if_false]
      rw [if_pos (by decide), h3]
      simp only [Result.andThen_ok]
      by_cases ho : e.2.on = f.2.on
      · have : e = f := by
          obtain ⟨x, s, o⟩ := e
          obtain ⟨y, s', o'⟩ := f
          simp only at hi hs ho
          rw [ID.ext' hi, hs, ho]
        rw [decide_eq_true this, beq_iff_eq.2 ho]
        rfl
      · rw [beq_eq_false_iff_ne.2 ho, decide_eq_false (fun h => ho (by rw [h]))]
        rfl
    · rw [decide_eq_false hs, decide_eq_false (fun h => hs (by rw [h]))]
      rfl
  · rw [decide_eq_false hi, decide_eq_false (fun h => hi (by rw [h]))]
    rfl
theorem ex_neFlag {o : Oper} {a : Act} {w : World} {x y : Operand} (ho : o.op = .binOp .neq 72 x y 72) {e f : FE} (hx : a.eval x = .agg (FE.cells e).toArray) (hy : a.eval y = .agg (FE.cells f).toArray) {q : Bool} (hq : decide (e = f) = q) : (execOp a.eval o).run Try.prog w = .ok (.value (.bool (!q))) w := by
  have h := run_neq_struct (P := Try.prog) w 72 (FE.cells e).toArray (FE.cells f).toArray
  rw [eqFlag, hq] at h
  have hg := run_eqGuard_agg (P := Try.prog) w .neq 72 x y (FE.cells e).toArray (FE.cells f).toArray (by kernel_rfl)
  simp only [execOp, ho, hx, hy, Sem.run_bind, hg, h, Result.andThen_ok]
  rfl
end Go.Proofs.Ytjijhmeagjhfoaa

