/- Digests: are two of them one? -/
import Derived.Test.YtjbelkpmbbkhgaaDoorShI
namespace Go.Proofs.YtjbelkpmbbkhgaaDoor
open Go.RowKit Go.Proofs.YtjbelkpmbbkhgaaDoor.Sh

theorem part8 (w : World) (l : List UInt8) (k : Nat) (hk : k < l.length) : (part 5 (bv l).toArray k).run Tryd.prog w = .ok (.int .u8 ((l[k]?.getD 0).toNat : Int)) w := by
  have h := bv_get l k hk
  have hk3 : (bv l).toArray[k]? = some (.int .u8 ((l[k]?.getD 0).toNat : Int)) := by simpa using h
  have ha : (isAgg 5).run Tryd.prog w = .ok false w := by first | exact Tryd.isAgg5 w | go_simp
  simp [part, h]
theorem eqIn32 (w : World) (a b : List UInt8) (ha : a.length = 32) (hb : b.length = 32) : (Op.equalIn (9998 + 1 + 1) 26 (.agg (bv a).toArray) (.agg (bv b).toArray)).run Tryd.prog w = .ok (decide (a = b)) w := by
  have hu : Tryd.prog.underlying 26 = some (.array 32 5) := by kernel_rfl
  have hs : (sizeOf 5).run Tryd.prog w = .ok 1 w := by first | exact Tryd.sizeOf5 w | go_simp
  rw [Op.equalIn]
  simp only [Sem.run_bind, run_underlying hu, Result.andThen_ok, hs]
  rw [Std.Legacy.Range.forIn_eq_forIn_range']
  have key : ∀ (n i : Nat), i + n = 32 → a.take i = b.take i →
      Sem.run Tryd.prog (forIn (List.range' i n 1) ((none, ()) : Option Bool × Unit) fun i __s => do
            let __do_lift ← part 5 (bv a).toArray (i * 1)
            let __do_lift_1 ← part 5 (bv b).toArray (i * 1)
            let __do_lift ← Op.equalIn (9998 + 1) 5 __do_lift __do_lift_1
            if (!__do_lift) = true then pure (ForInStep.done (some false, ())) else pure (ForInStep.yield (none, ()))) w = .ok (if a = b then (none, ()) else (some false, ())) w := by
    intro n
    induction n with
    | zero =>
      intro i hi he
      obtain rfl : i = 32 := by omega
      have hab : a = b := by
        have h1 := List.take_length (l := a)
        have h2 := List.take_length (l := b)
        rw [ha] at h1
        rw [hb] at h2
        rw [← h1, ← h2, he]
      simp [hab]
    | succ n ih =>
      intro i hi he
      rw [List.range'_succ, List.forIn_cons]
      simp only [Sem.run_bind, Nat.mul_one, part8 w a i (by omega), part8 w b i (by omega), Result.andThen_ok]
      rw [run_equalIn_int w 9998 5 .u8 .u8 _ _ (by kernel_rfl)]
      simp only [Result.andThen_ok]
      by_cases e : (a[i]?.getD 0).toNat = (b[i]?.getD 0).toNat
      · have e' : a[i]?.getD 0 = b[i]?.getD 0 := UInt8.toNat_inj.1 e
        rw [List.getElem?_eq_getElem (by omega), List.getElem?_eq_getElem (by omega)] at e'
        simp only [Option.getD_some] at e'
        have hn : a.take (i + 1) = b.take (i + 1) := by
          rw [List.take_add_one, List.take_add_one, he, List.getElem?_eq_getElem (by omega), List.getElem?_eq_getElem (by omega), e']
        have := ih (i + 1) (by omega) hn
        rw [e]
        simp only [beq_self_eq_true, Bool.not_true, Bool.false_eq_true, if_false, Sem.run_pure, Result.andThen_ok]
        simpa only [Nat.mul_one] using this
      · have hne : a ≠ b := fun h => e (by rw [h])
        have hb2 : ((((a[i]?.getD 0).toNat : Nat) : Int) == (((b[i]?.getD 0).toNat : Nat) : Int)) = false := by rw [beq_eq_false_iff_ne]; omega
        rw [hb2, if_neg hne]
        rfl
  have := key 32 0 rfl rfl
  rw [show ([:32] : Std.Legacy.Range).size = 32 from rfl, show ([:32] : Std.Legacy.Range).start = 0 from rfl, show ([:32] : Std.Legacy.Range).step = 1 from rfl]
  rw [this]
  by_cases h : a = b
  · simp [h]
  · simp [h]
theorem eq32 (w : World) (a b : List UInt8) (ha : a.length = 32) (hb : b.length = 32) : (binOp .eql 26 (.agg (bv a).toArray) (.agg (bv b).toArray)).run Tryd.prog w = .ok (.bool (decide (a = b))) w := by
  have h := eqIn32 w a b ha hb
  have hm : Op.maxDepth = 9998 + 1 + 1 := rfl
  generalize hA : (Value.agg (bv a).toArray) = va at *
  generalize hB : (Value.agg (bv b).toArray) = vb at *
  subst hA hB
  show Sem.run _ (do pure (Value.bool (← Op.equal _ _ _))) w = _
  rw [Op.equal, hm, Sem.run_bind, h]
  rfl
theorem ne32 (w : World) (a b : List UInt8) (ha : a.length = 32) (hb : b.length = 32) : (binOp .neq 26 (.agg (bv a).toArray) (.agg (bv b).toArray)).run Tryd.prog w = .ok (.bool (!decide (a = b))) w := by
  have h := eqIn32 w a b ha hb
  have hm : Op.maxDepth = 9998 + 1 + 1 := rfl
  show Sem.run _ (do pure (Value.bool (!(← Op.equal _ _ _)))) w = _
  rw [Op.equal, hm, Sem.run_bind, h]
  rfl
section
variable {o : Oper} {a : Act} {w : World} {x y : Operand}
theorem ex_eq32 (ho : o.op = .binOp .eql 26 x y 26) {l l' : List UInt8} (hx : a.eval x = .agg (bv l).toArray) (hy : a.eval y = .agg (bv l').toArray) (hl : l.length = 32) (hl' : l'.length = 32) : (execOp a.eval o).run Tryd.prog w = .ok (.value (.bool (decide (l = l')))) w := by
  have h := eq32 w l l' hl hl'
  have hg := run_eqGuard_agg (P := Tryd.prog) w .eql 26 x y (bv l).toArray (bv l').toArray (by kernel_rfl)
  simp only [execOp, ho, hx, hy, Sem.run_bind, hg, h, Result.andThen_ok]
  rfl
theorem ex_eq32t (ho : o.op = .binOp .eql 26 x y 26) {l : List UInt8} (hx : a.eval x = .agg (bv l).toArray) (hy : a.eval y = .agg (bv l).toArray) (hl : l.length = 32) : (execOp a.eval o).run Tryd.prog w = .ok (.value (.bool true)) w := by
  have h := ex_eq32 (w := w) ho hx hy hl hl
  rw [h]
  simp
theorem ex_ne32 (ho : o.op = .binOp .neq 26 x y 26) {l l' : List UInt8} (hx : a.eval x = .agg (bv l).toArray) (hy : a.eval y = .agg (bv l').toArray) (hl : l.length = 32) (hl' : l'.length = 32) : (execOp a.eval o).run Tryd.prog w = .ok (.value (.bool (!decide (l = l')))) w := by
  have h := ne32 w l l' hl hl'
  have hg := run_eqGuard_agg (P := Tryd.prog) w .neq 26 x y (bv l).toArray (bv l').toArray (by kernel_rfl)
  simp only [execOp, ho, hx, hy, Sem.run_bind, hg, h, Result.andThen_ok]
  rfl
theorem ex_ne32f (ho : o.op = .binOp .neq 26 x y 26) {l : List UInt8} (hx : a.eval x = .agg (bv l).toArray) (hy : a.eval y = .agg (bv l).toArray) (hl : l.length = 32) : (execOp a.eval o).run Tryd.prog w = .ok (.value (.bool false)) w := by
  have h := ex_ne32 (w := w) ho hx hy hl hl
  rw [h]
  simp
end
end Go.Proofs.YtjbelkpmbbkhgaaDoor

