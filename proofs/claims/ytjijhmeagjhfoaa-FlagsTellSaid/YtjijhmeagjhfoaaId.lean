/- Ids: thirty-two bytes in memory, equality, order. -/
import Derived.Test.YtjijhmeagjhfoaaVal
import Derived.Lib.BytesEntry
import Derived.Lib.Hide
namespace Go.Proofs.Ytjijhmeagjhfoaa
open Go.RowKit

section
variable {ops : Array Oper} {rest : List Oper} {o : Oper} {a : Act} {Q : Exit → Act → World → Prop} {w : World} {x y : Operand}
def z32 : List UInt8 := List.replicate 32 0
theorem agg32 (w : World) : (isAgg 25).run Try.prog w = .ok true w := by first | exact Try.isAgg25 w | go_simp
theorem size32 (w : World) : (sizeOf 25).run Try.prog w = .ok 32 w := by first | exact Try.sizeOf25 w | go_simp
theorem info32 : (Try.prog.info? 25).bind (·.zero) = some (.agg (bv z32).toArray) := by kernel_rfl
theorem zero32 (w : World) : (zeroValue 25).run Try.prog w = .ok (.agg (bv z32).toArray) w := by
  have h := info32
  cases hi : Try.prog.info? 25 with
  | none => rw [hi] at h; cases h
  | some i => rw [hi] at h; simp only [Option.bind_some] at h; simp [zeroValue, typeInfo, hi, h]
theorem ex_al32 (ho : o.op = .alloc 25) : (execOp a.eval o).run Try.prog w = .ok (.value (.pointer (some ⟨w.heap.size, 0, none⟩))) (w.alloc (.cells (bv z32).toArray 25)) := by
  have hz := zero32
  generalize (bv z32).toArray = zs at hz ⊢
  simp [execOp, ho, Instr.alloc, hz, newVar, newRow, Value.cells]
theorem ex_ld32 (ho : o.op = .load 25 x) {g : Nat} {us : List Value} (hx : a.eval x = .pointer (some ⟨g, 0, none⟩)) (hA : At w g us) (hn : us.length = 32) : (execOp a.eval o).run Try.prog w = .ok (.value (.agg us.toArray)) w := by
  have h := run_loadArr w 25 agg32 size32 hA hn
  simp [execOp, ho, hx, h]
theorem ex_st32 (ho : o.op = .store 25 x y) {g : Nat} {us old : List Value} (hx : a.eval x = .pointer (some ⟨g, 0, none⟩)) (hy : a.eval y = .agg us.toArray) (hA : At w g old) (hl : old.length = 32) (hn : us.length = 32) (h1 : ∀ u ∈ us, u.oneCell' = true) :
    (execOp a.eval o).run Try.prog w = .ok .skip (putL w g 0 us) := by
  have h := run_storeArr w 25 size32 hA hl hn h1
  simp [execOp, ho, hx, hy, h]
theorem results_arr32 {fn : Func} {t : Tmp} (h : fn.results = #[.cell t 25]) (tmps : Array Value) {g : Nat} {us : List Value} (hx : tmps.getD t undef = .pointer (some ⟨g, 0, none⟩)) (hA : At w g us) (hn : us.length = 32) :
    (results fn tmps).run Try.prog w = .ok (.agg us.toArray) w := by
  have hl := run_loadCells_list (P := Try.prog) w ⟨g, 0, none⟩ us (fun j u hu => by rw [addN]; exact hA.c j hu)
  rw [hn] at hl
  have hx' : tmps[t]?.getD undef = .pointer (some ⟨g, 0, none⟩) := by simpa using hx
  simp [results, h, hx', asAddr, loadVar, hl]
end
theorem part8 (w : World) (l : List UInt8) (k : Nat) (hk : k < l.length) : (part 5 (bv l).toArray k).run Try.prog w = .ok (.int .u8 ((l[k]?.getD 0).toNat : Int)) w := by
  have h := bv_get l k hk
  have hk3 : (bv l).toArray[k]? = some (.int .u8 ((l[k]?.getD 0).toNat : Int)) := by simpa using h
  have ha : (isAgg 5).run Try.prog w = .ok false w := by first | exact Try.isAgg5 w | go_simp
  simp [part, h]
theorem eqIn32d (d : Nat) (w : World) (a b : List UInt8) (ha : a.length = 32) (hb : b.length = 32) : (Op.equalIn (d + 1 + 1) 25 (.agg (bv a).toArray) (.agg (bv b).toArray)).run Try.prog w = .ok (decide (a = b)) w := by
  have hu : Try.prog.underlying 25 = some (.array 32 5) := by kernel_rfl
  have hs : (sizeOf 5).run Try.prog w = .ok 1 w := by first | exact Try.sizeOf5 w | go_simp
  rw [Op.equalIn]
  simp only [Sem.run_bind, run_underlying hu, Result.andThen_ok, hs]
  rw [Std.Legacy.Range.forIn_eq_forIn_range']
  have key : ∀ (n i : Nat), i + n = 32 → a.take i = b.take i →
      Sem.run Try.prog (forIn (List.range' i n 1) ((none, ()) : Option Bool × Unit) fun i __s => do
            let __do_lift ← part 5 (bv a).toArray (i * 1)
            let __do_lift_1 ← part 5 (bv b).toArray (i * 1)
            let __do_lift ← Op.equalIn (d + 1) 5 __do_lift __do_lift_1
            if (!__do_lift) = true then pure (ForInStep.done (some false, ())) else pure (ForInStep.yield (none, ()))) w = .ok (if a = b then (none, ()) else (some false, ())) w := by
    intro n
    induction n with
    | zero =>
      intro i hi he
      obtain rfl : i = 32 := by omega
      have hab : a = b := by
        have h1 := List.take_length (l := a)
        have h2 := List.take_length (l := b)
        rw [ha] at h1
        rw [hb] at h2
        rw [← h1, ← h2, he]
      simp [hab]
    | succ n ih =>
      intro i hi he
      rw [List.range'_succ, List.forIn_cons]
      simp only [Sem.run_bind, Nat.mul_one, part8 w a i (by omega), part8 w b i (by omega), Result.andThen_ok]
      rw [run_equalIn_int w d 5 .u8 .u8 _ _ (by kernel_rfl)]
      simp only [Result.andThen_ok]
      by_cases e : (a[i]?.getD 0).toNat = (b[i]?.getD 0).toNat
      · have e' : a[i]?.getD 0 = b[i]?.getD 0 := UInt8.toNat_inj.1 e
        rw [List.getElem?_eq_getElem (by omega), List.getElem?_eq_getElem (by omega)] at e'
        simp only [Option.getD_some] at e'
        have hn : a.take (i + 1) = b.take (i + 1) := by
          rw [List.take_add_one, List.take_add_one, he, List.getElem?_eq_getElem (by omega), List.getElem?_eq_getElem (by omega), e']
        have := ih (i + 1) (by omega) hn
        rw [e]
        simp only [beq_self_eq_true, Bool.not_true, Bool.false_eq_true, if_false, Sem.run_pure, Result.andThen_ok]
        simpa only [Nat.mul_one] using this
      · have hne : a ≠ b := fun h => e (by rw [h])
        have hb2 : ((((a[i]?.getD 0).toNat : Nat) : Int) == (((b[i]?.getD 0).toNat : Nat) : Int)) = false := by rw [beq_eq_false_iff_ne]; omega
        rw [hb2, if_neg hne]
        rfl
  have := key 32 0 rfl rfl
  rw [show ([:32] : Std.Legacy.Range).size = 32 from rfl, show ([:32] : Std.Legacy.Range).start = 0 from rfl, show ([:32] : Std.Legacy.Range).step = 1 from rfl]
  rw [this]
  by_cases h : a = b
  · simp [h]
  · simp [h]
theorem eqIn32 (w : World) (a b : List UInt8) (ha : a.length = 32) (hb : b.length = 32) : (Op.equalIn (9998 + 1 + 1) 25 (.agg (bv a).toArray) (.agg (bv b).toArray)).run Try.prog w = .ok (decide (a = b)) w := eqIn32d 9998 w a b ha hb
theorem eq32 (w : World) (a b : List UInt8) (ha : a.length = 32) (hb : b.length = 32) : (binOp .eql 25 (.agg (bv a).toArray) (.agg (bv b).toArray)).run Try.prog w = .ok (.bool (decide (a = b))) w := by
  have h := eqIn32 w a b ha hb
  have hm : Op.maxDepth = 9998 + 1 + 1 := rfl
  generalize hA : (Value.agg (bv a).toArray) = va at *
  generalize hB : (Value.agg (bv b).toArray) = vb at *
  subst hA hB
  show Sem.run _ (do pure (Value.bool (← Op.equal _ _ _))) w = _
  rw [Op.equal, hm, Sem.run_bind, h]
  rfl
theorem ne32 (w : World) (a b : List UInt8) (ha : a.length = 32) (hb : b.length = 32) : (binOp .neq 25 (.agg (bv a).toArray) (.agg (bv b).toArray)).run Try.prog w = .ok (.bool (!decide (a = b))) w := by
  have h := eqIn32 w a b ha hb
  have hm : Op.maxDepth = 9998 + 1 + 1 := rfl
  show Sem.run _ (do pure (Value.bool (!(← Op.equal _ _ _)))) w = _
  rw [Op.equal, hm, Sem.run_bind, h]
  rfl
section
variable {o : Oper} {a : Act} {w : World} {x y : Operand}
theorem ex_eq32 (ho : o.op = .binOp .eql 25 x y 25) {l l' : List UInt8} (hx : a.eval x = .agg (bv l).toArray) (hy : a.eval y = .agg (bv l').toArray) (hl : l.length = 32) (hl' : l'.length = 32) : (execOp a.eval o).run Try.prog w = .ok (.value (.bool (decide (l = l')))) w := by
  have h := eq32 w l l' hl hl'
  have hg := run_eqGuard_agg (P := Try.prog) w .eql 25 x y (bv l).toArray (bv l').toArray (by kernel_rfl)
  simp only [execOp, ho, hx, hy, Sem.run_bind, hg, h, Result.andThen_ok]
  rfl
theorem ex_eq32t (ho : o.op = .binOp .eql 25 x y 25) {l : List UInt8} (hx : a.eval x = .agg (bv l).toArray) (hy : a.eval y = .agg (bv l).toArray) (hl : l.length = 32) : (execOp a.eval o).run Try.prog w = .ok (.value (.bool true)) w := by
  have h := ex_eq32 (w := w) ho hx hy hl hl
  rw [h]
  simp
theorem ex_ne32 (ho : o.op = .binOp .neq 25 x y 25) {l l' : List UInt8} (hx : a.eval x = .agg (bv l).toArray) (hy : a.eval y = .agg (bv l').toArray) (hl : l.length = 32) (hl' : l'.length = 32) : (execOp a.eval o).run Try.prog w = .ok (.value (.bool (!decide (l = l')))) w := by
  have h := ne32 w l l' hl hl'
  have hg := run_eqGuard_agg (P := Try.prog) w .neq 25 x y (bv l).toArray (bv l').toArray (by kernel_rfl)
  simp only [execOp, ho, hx, hy, Sem.run_bind, hg, h, Result.andThen_ok]
  rfl
theorem ex_ne32f (ho : o.op = .binOp .neq 25 x y 25) {l : List UInt8} (hx : a.eval x = .agg (bv l).toArray) (hy : a.eval y = .agg (bv l).toArray) (hl : l.length = 32) : (execOp a.eval o).run Try.prog w = .ok (.value (.bool false)) w := by
  have h := ex_ne32 (w := w) ho hx hy hl hl
  rw [h]
  simp
end
section
variable {ops : Array Oper} {rest : List Oper} {o : Oper} {a : Act} {Q : Exit → Act → World → Prop} {w : World} {x y : Operand}
theorem ex_ld32o (ho : o.op = .load 25 x) {g off : Nat} {us : List Value} (hx : a.eval x = .pointer (some ⟨g, off, none⟩)) (hA : ∀ (j : Nat) (u : Value), us[j]? = some u → w.cell? ⟨g, off + j, none⟩ = some u) (hn : us.length = 32) : (execOp a.eval o).run Try.prog w = .ok (.value (.agg us.toArray)) w := by
  have h := run_loadArrO w 25 agg32 size32 hA hn
  simp [execOp, ho, hx, h]
end
def cmpB : List UInt8 → List UInt8 → Int := Lib.compareBytes
def ltB (a b : List UInt8) : Bool := decide (cmpB a b < 0)
theorem bytesOf_at {P : Program} {w : World} {g : Nat} {l : List UInt8} (h : At w g (bv l)) (n c : Nat) (hn : n = l.length) :
    (Extern.Bytes.bytesOf (.slice (some ⟨g, 0, none⟩) n c)).run P w = .ok ⟨l.toArray⟩ w := by
  subst hn
  have hl := Lib.run_loadBytesX (P := P) w (l.map (fun u => (u.toNat : Int))) ⟨g, 0, none⟩ .empty (fun j x hj => by
    rw [addr0]
    refine h.c j ?_
    rw [List.getElem?_map] at hj
    cases hu : l[j]? with
    | none => rw [hu] at hj; cases hj
    | some u =>
      rw [hu] at hj
      injection hj with hj
      subst hj
      simp [bv, u8v, hu])
  have e : Lib.bytesOf (l.map (fun u => (u.toNat : Int))) = l := by
    simp only [Lib.bytesOf, List.map_map]
    rw [show ((fun (n : Int) => UInt8.ofNat n.toNat) ∘ fun (u : UInt8) => (u.toNat : Int)) = id by funext u; simp]
    exact List.map_id l
  rw [List.length_map, e] at hl
  simp only [Extern.Bytes.bytesOf]
  rw [hl]
  congr 1
  apply ByteArray.ext
  show (#[] : Array UInt8) ++ l.toArray = l.toArray
  simp
theorem run_compare {P : Program} {w : World} {g g' : Nat} {l l' : List UInt8} (h : At w g (bv l)) (h' : At w g' (bv l')) (n c n' c' : Nat) (hn : n = l.length) (hn' : n' = l'.length) :
    (Extern.BytealgCompare.compare #[.slice (some ⟨g, 0, none⟩) n c, .slice (some ⟨g', 0, none⟩) n' c']).run P w = .ok (.int .i64 (cmpB l l')) w := by
  change Sem.run P (do pure (goInt (Extern.BytealgCompare.cmp (← Extern.Bytes.bytesOf (.slice (some ⟨g, 0, none⟩) n c)) (← Extern.Bytes.bytesOf (.slice (some ⟨g', 0, none⟩) n' c'))))) w = _
  simp only [Sem.run_bind, bytesOf_at h n c hn, bytesOf_at h' n' c' hn', Sem.run_pure, Result.andThen]
  rw [Lib.cmp_eq]
  rfl
set_option maxRecDepth 100000 in
theorem Compare_any (w : World) (g g' : Nat) (l l' : List UInt8) (h : At w g (bv l)) (h' : At w g' (bv l')) (n c n' c' : Nat) (hn : n = l.length) (hn' : n' = l'.length) :
    Calls Try.prog 47 #[.slice (some ⟨g, 0, none⟩) n c, .slice (some ⟨g', 0, none⟩) n' c'] w fun e w' => e = .returned (.int .i64 (cmpB l l')) ∧ w = w' := by
  have HC := Lib.hid (run_compare (P := Try.prog) h h' n c n' c' hn hn')
  clear hn hn'
  go_enter Try.func47, Try.ntmps47
  go_wp2_with fail
  rw [run_callFunc_extern Try.func58 (by kernel_rfl) (by kernel_rfl) (by kernel_rfl) (e := Extern.BytealgCompare.compare) (by kernel_rfl), HC.out]
  simp only [Result.andThen]
  rw [Oper.upon_value]
  go_wp2_with fail
  go_ret
  exact ⟨rfl, rfl⟩
section
variable {o : Oper} {a : Act} {w : World} {x : Operand}
theorem ex_box32 (ho : o.op = .box 25 x) {us : List Value} (hx : a.eval x = .agg us.toArray) : (execOp a.eval o).run Try.prog w = .ok (.value (.pointer (some ⟨w.heap.size, 0, none⟩))) (w.alloc (.cells us.toArray 25)) := by
  simp [execOp, ho, hx, Instr.box, newVar, newRow, Value.cells]
end
theorem cmpB_self_lt (l : List UInt8) : ltB l l = false := by
  unfold ltB cmpB
  rw [decide_eq_false_iff_not]
  induction l with
  | nil => simp [Lib.compareBytes]
  | cons a l ih => simpa [Lib.compareBytes] using ih
set_option maxRecDepth 100000 in
theorem IdLt_ex (w : World) (a b : List UInt8) (ha : a.length = 32) (hb : b.length = 32) :
    Calls Try.prog 41 #[.agg (bv a).toArray, .agg (bv b).toArray] w fun e w' => e = .returned (.bool (ltB a b)) ∧ w' = ((w.alloc (.cells (bv a).toArray 25)).alloc (.cells (bv b).toArray 25)).drew := by
  have hA := At.new w 25 (bv a).toArray
  have hb1 := balloc (Below.refl w.heap.size w) (.cells (bv a).toArray 25)
  have HL := Lib.hid (And.intro ha.symm hb.symm)
  clear ha hb
  go_enter Try.func41, Try.ntmps41
  go_wp2_with (refine opVal rfl (ex_box32 rfl rfl) ?_)
  have hA2 := hA.alloc (.cells (bv b).toArray 25)
  have hB2 := At.new (w.alloc (.cells (bv a).toArray 25)) 25 (bv b).toArray
  have hb2 := hb1.alloc hb1.size (.cells (bv b).toArray 25)
  replace hB2 : At ((w.alloc (.cells (bv a).toArray 25)).alloc (.cells (bv b).toArray 25)) (w.heap.size + 1) (bv b) := by have h := hB2; simpa using h
  replace hA2 : At ((w.alloc (.cells (bv a).toArray 25)).alloc (.cells (bv b).toArray 25)) w.heap.size (bv a) := hA2
  generalize hw2 : (w.alloc (.cells (bv a).toArray 25)).alloc (.cells (bv b).toArray 25) = w2 at hA2 hB2 hb2 ⊢
  have HW2 := Lib.hid hw2
  clear hA hb1 hw2
  obtain ⟨C, hC⟩ : ∃ C, C = cmpB a b := ⟨_, rfl⟩
  have HC := Lib.hid hC
  have hCmp := Lib.hid (Compare_any w2.drew w.heap.size (w.heap.size + 1) a b hA2.drew hB2.drew 32 32 32 32 HL.out.1 HL.out.2)
  rw [← hC] at hCmp
  clear hC hA2 hB2
  refine bstart (by kernel_rfl) ?_
  refine btake 0 (oi := _) (v := ?_) (by simp only [List.getElem?_toArray, List.getElem?_cons_zero]; rfl) (by kernel_rfl) (by exact fun _ _ _ h => h) (by first | assumption | exact KB.refl _) (.inl ⟨by rfl, fun W hW => ?_⟩) ?_; rotate_left
  · (go_simp; first | done | with_reducible rfl)
  try simp only [Act.put, List.setIfInBounds_toArray, List.set_cons_zero, List.set_cons_succ]
  refine btake 1 (oi := _) (v := ?_) (by simp only [List.getElem?_toArray, List.getElem?_cons_succ, List.getElem?_cons_zero]; rfl) (by kernel_rfl) (by exact fun _ _ _ h => h) (by first | assumption | exact KB.refl _) (.inl ⟨by rfl, fun W hW => ?_⟩) ?_; rotate_left
  · (go_simp; first | done | with_reducible rfl)
  try simp only [Act.put, List.setIfInBounds_toArray, List.set_cons_zero, List.set_cons_succ]
  -- 2: bytes.Compare
  refine bop 2 (o := _) (by simp only [List.getElem?_toArray, List.getElem?_cons_succ, List.getElem?_cons_zero]; rfl) (by kernel_rfl) (by first | assumption | exact KB.refl _) (by rfl) (fun K hK => ?_)
  go_simp
  refine hCmp.out.mono ?_
  rintro e w5 ⟨rfl, rfl⟩
  have hkb := KB.of (Below.refl w2.drew.heap.size w2.drew)
  refine hK.out _ _ hkb ?_; clear hK K
  try simp only [Act.put, List.setIfInBounds_toArray, List.set_cons_zero, List.set_cons_succ]
  refine btake 3 (oi := _) (v := ?_) (by simp only [List.getElem?_toArray, List.getElem?_cons_succ, List.getElem?_cons_zero]; rfl) (by kernel_rfl) (by exact fun _ _ _ h => h) (by first | assumption | exact KB.refl _) (.inl ⟨by rfl, fun W hW => ?_⟩) ?_; rotate_left
  · (go_simp; first | done | with_reducible rfl)
  try simp only [Act.put, List.setIfInBounds_toArray, List.set_cons_zero, List.set_cons_succ]
  refine btake 4 (oi := _) (v := ?_) (by simp only [List.getElem?_toArray, List.getElem?_cons_succ, List.getElem?_cons_zero]; rfl) (by kernel_rfl) (by exact fun _ _ _ h => h) (by first | assumption | exact KB.refl _) (.inl ⟨by rfl, fun W hW => ?_⟩) ?_; rotate_left
  · (go_simp; first | done | with_reducible rfl)
  try simp only [Act.put, List.setIfInBounds_toArray, List.set_cons_zero, List.set_cons_succ]
  refine bdone (by kernel_rfl) ?_
  go_wp2_with fail
  go_ret
  exact ⟨by unfold ltB; rw [← HC.out]; rfl, by rw [HW2.out]⟩
theorem IdLt_any (w : World) (a b : List UInt8) (ha : a.length = 32) (hb : b.length = 32) :
    Calls Try.prog 41 #[.agg (bv a).toArray, .agg (bv b).toArray] w fun e w' => e = .returned (.bool (ltB a b)) ∧ Below w.heap.size w w' :=
  (IdLt_ex w a b ha hb).mono fun e w' ⟨h1, h2⟩ => ⟨h1, by subst h2; exact (((Below.refl _ w).alloc (Nat.le_refl _) _).alloc (by simp) _).drew⟩
theorem cmpB_skip (p : List UInt8) (x y : UInt8) (us bs : List UInt8) : cmpB (p ++ x :: us) (p ++ y :: bs) = cmpB (x :: us) (y :: bs) := by
  induction p with
  | nil => rfl
  | cons c p ih =>
    unfold cmpB at ih ⊢
    rw [List.cons_append, List.cons_append]
    rw [Lib.compareBytes, if_neg (UInt8.lt_irrefl c), if_neg (UInt8.lt_irrefl c)]
    exact ih
theorem ltB_at {a b : List UInt8} {k : Nat} (ha : k < a.length) (hb : k < b.length) (hp : a.take k = b.take k) (hne : (a[k]?.getD 0).toNat ≠ (b[k]?.getD 0).toNat) : ltB a b = decide ((a[k]?.getD 0).toNat < (b[k]?.getD 0).toNat) := by
  have e1 : a = a.take k ++ a[k] :: a.drop (k + 1) := by simp
  have e2 : b = a.take k ++ b[k] :: b.drop (k + 1) := by rw [hp]; simp
  rw [List.getElem?_eq_getElem ha, List.getElem?_eq_getElem hb] at hne ⊢
  simp only [Option.getD_some] at hne ⊢
  generalize a[k] = x at *
  generalize b[k] = y at *
  unfold ltB
  rw [e1, e2, cmpB_skip]
  unfold cmpB Lib.compareBytes
  have h1 : x < y ↔ x.toNat < y.toNat := Iff.rfl
  have h2 : y < x ↔ y.toNat < x.toNat := Iff.rfl
  by_cases hlt : x.toNat < y.toNat
  · simp [h1, hlt]
  · simp [h1, h2, hlt, show y.toNat < x.toNat by omega]
set_option maxRecDepth 100000 in
set_option maxHeartbeats 1600000 in
theorem IdLess_any (w : World) (a b : List UInt8) (ha : a.length = 32) (hb : b.length = 32) :
    Calls Try.prog 37 #[.agg (bv a).toArray, .agg (bv b).toArray] w fun e w' => e = .returned (.bool (ltB a b)) ∧ Below w.heap.size w w' := by
  have hA := At.new w 25 (bv a).toArray
  have hb1 := balloc (Below.refl w.heap.size w) (.cells (bv a).toArray 25)
  have HL := Lib.hid (And.intro ha hb)
  clear ha hb
  obtain ⟨lt, hlt⟩ : ∃ lt, lt = ltB a b := ⟨_, rfl⟩
  have HLT := Lib.hid hlt
  rw [← hlt]
  clear hlt
  go_enter Try.func37, Try.ntmps37
  go_wp2_with (refine opVal rfl (ex_box32 rfl rfl) ?_)
  have hA2 := hA.alloc (.cells (bv b).toArray 25)
  have hB2 := At.new (w.alloc (.cells (bv a).toArray 25)) 25 (bv b).toArray
  have hb2 := hb1.alloc hb1.size (.cells (bv b).toArray 25)
  replace hB2 : At ((w.alloc (.cells (bv a).toArray 25)).alloc (.cells (bv b).toArray 25)) (w.heap.size + 1) (bv b) := by have h := hB2; simpa using h
  replace hA2 : At ((w.alloc (.cells (bv a).toArray 25)).alloc (.cells (bv b).toArray 25)) w.heap.size (bv a) := hA2
  generalize (w.alloc (.cells (bv a).toArray 25)).alloc (.cells (bv b).toArray 25) = w2 at hA2 hB2 hb2 ⊢
  clear hA hb1
  go_loopw [5] (fun x5 wr => ∃ k : Nat, k ≤ 32 ∧ x5 = .int .i64 (k : Int) ∧ a.take k = b.take k ∧ At wr w.heap.size (bv a) ∧ At wr (w.heap.size + 1) (bv b) ∧ Below w.heap.size w wr) (fun x5 _ => 32 - (intOf x5).toNat)
  case atStart => exact ⟨0, by omega, rfl, by simp, hA2, hB2, hb2⟩
  case round =>
    clear hA2 hB2 hb2
    obtain ⟨k, hk, rfl, hp, hA, hB, hbel⟩ := hrel
    by_cases hlt : k < 32
    · have hd1 : decide ((k : Int) < 32) = true := by rw [decide_eq_true_eq]; omega
      have hk0 : (0 : Int) ≤ (k : Int) := by omega
      have hk1 : (k : Int) < 32 := by omega
      have i8 : IntKind.i64.wrap (k : Int) = (k : Int) := by rw [IntKind.wrap_i64]; omega
      have y0 := hA.c k (bv_get a k (by rw [HL.out.1]; exact hlt))
      have y1 := hB.c k (bv_get b k (by rw [HL.out.2]; exact hlt))
      have hat := fun hne => ltB_at (a := a) (b := b) (k := k) (by rw [HL.out.1]; exact hlt) (by rw [HL.out.2]; exact hlt) hp hne
      have hsucc : (a[k]?.getD 0).toNat = (b[k]?.getD 0).toNat → a.take (k + 1) = b.take (k + 1) := by
        intro e
        have e' : a[k]?.getD 0 = b[k]?.getD 0 := UInt8.toNat_inj.1 e
        rw [List.getElem?_eq_getElem (by rw [HL.out.1]; exact hlt), List.getElem?_eq_getElem (by rw [HL.out.2]; exact hlt)] at e'
        simp only [Option.getD_some] at e'
        rw [List.take_add_one, List.take_add_one, hp, List.getElem?_eq_getElem (by rw [HL.out.1]; exact hlt), List.getElem?_eq_getElem (by rw [HL.out.2]; exact hlt), e']
      generalize (a[k]?.getD 0).toNat = x at *
      generalize (b[k]?.getD 0).toNat = y at *
      have e0 := cellB y0
      have e1 := cellB y1
      have HS := Lib.hid (And.intro hat (And.intro hsucc hp))
      clear hat hsucc hp
      by_cases hxy : x = y
      · subst hxy
        go_wp2_with fail
        refine bstart (by kernel_rfl) ?_
        refine btake 0 (oi := _) (v := ?_) (by simp only [List.getElem?_toArray, List.getElem?_cons_zero]; rfl) (by kernel_rfl) (by exact fun _ _ _ h => h) (by first | assumption | exact KB.refl _) (.inl ⟨by rfl, fun W hW => ?_⟩) ?_; rotate_left
        · (go_simp; first | done | with_reducible rfl)
        try simp only [Act.put, List.setIfInBounds_toArray, List.set_cons_zero, List.set_cons_succ]
        refine btake 1 (oi := _) (v := ?_) (by simp only [List.getElem?_toArray, List.getElem?_cons_succ, List.getElem?_cons_zero]; rfl) (by kernel_rfl) (by exact fun _ _ _ h => h) (by first | assumption | exact KB.refl _) (.inl ⟨by rfl, fun W hW => ?_⟩) ?_; rotate_left
        · (go_simp; first | done | with_reducible rfl)
        try simp only [Act.put, List.setIfInBounds_toArray, List.set_cons_zero, List.set_cons_succ]
        refine btake 2 (oi := _) (v := ?_) (by simp only [List.getElem?_toArray, List.getElem?_cons_succ, List.getElem?_cons_zero]; rfl) (by kernel_rfl) (by exact fun _ _ _ h => h) (by first | assumption | exact KB.refl _) (.inl ⟨by rfl, fun W hW => ?_⟩) ?_; rotate_left
        · (go_simp; first | done | with_reducible rfl)
        try simp only [Act.put, List.setIfInBounds_toArray, List.set_cons_zero, List.set_cons_succ]
        refine btake 3 (oi := _) (v := ?_) (by simp only [List.getElem?_toArray, List.getElem?_cons_succ, List.getElem?_cons_zero]; rfl) (by kernel_rfl) (by exact fun _ _ _ h => h) (by first | assumption | exact KB.refl _) (.inl ⟨by rfl, fun W hW => ?_⟩) ?_; rotate_left
        · (go_simp; first | done | with_reducible rfl)
        try simp only [Act.put, List.setIfInBounds_toArray, List.set_cons_zero, List.set_cons_succ]
        refine btake 4 (oi := _) (v := ?_) (by simp only [List.getElem?_toArray, List.getElem?_cons_succ, List.getElem?_cons_zero]; rfl) (by kernel_rfl) (by exact fun _ _ _ h => h) (by first | assumption | exact KB.refl _) (.inl ⟨by rfl, fun W hW => ?_⟩) ?_; rotate_left
        · (go_simp; first | done | with_reducible rfl)
        try simp only [Act.put, List.setIfInBounds_toArray, List.set_cons_zero, List.set_cons_succ]
        refine btake 5 (oi := _) (v := ?_) (by simp only [List.getElem?_toArray, List.getElem?_cons_succ, List.getElem?_cons_zero]; rfl) (by kernel_rfl) (by exact fun _ _ _ h => h) (by first | assumption | exact KB.refl _) (.inl ⟨by rfl, fun W hW => ?_⟩) ?_; rotate_left
        · (go_simp; first | done | with_reducible rfl)
        try simp only [Act.put, List.setIfInBounds_toArray, List.set_cons_zero, List.set_cons_succ]
        refine btake 6 (oi := _) (v := ?_) (by simp only [List.getElem?_toArray, List.getElem?_cons_succ, List.getElem?_cons_zero]; rfl) (by kernel_rfl) (by exact fun _ _ _ h => h) (by first | assumption | exact KB.refl _) (.inl ⟨by rfl, fun W hW => ?_⟩) ?_; rotate_left
        · (go_simp; first | done | with_reducible rfl)
        try simp only [Act.put, List.setIfInBounds_toArray, List.set_cons_zero, List.set_cons_succ]
        refine bdone (by kernel_rfl) ?_
        go_wp2_with fail
        go_roundw
        case rel => exact ⟨k + 1, by omega, by go_num, by first | exact HS.out.2.1 trivial | exact HS.out.2.1 rfl, hA.drew, hB.drew, hbel.drew⟩
        case measure => simp [intOf] <;> omega
      · have hne : ((x : Int) != (y : Int)) = true := by rw [bne_iff_ne]; omega
        have hres := HS.out.1 hxy
        go_wp2_with fail
        refine bstart (by kernel_rfl) ?_
        refine btake 0 (oi := _) (v := ?_) (by simp only [List.getElem?_toArray, List.getElem?_cons_zero]; rfl) (by kernel_rfl) (by exact fun _ _ _ h => h) (by first | assumption | exact KB.refl _) (.inl ⟨by rfl, fun W hW => ?_⟩) ?_; rotate_left
        · (go_simp; first | done | with_reducible rfl)
        try simp only [Act.put, List.setIfInBounds_toArray, List.set_cons_zero, List.set_cons_succ]
        refine btake 1 (oi := _) (v := ?_) (by simp only [List.getElem?_toArray, List.getElem?_cons_succ, List.getElem?_cons_zero]; rfl) (by kernel_rfl) (by exact fun _ _ _ h => h) (by first | assumption | exact KB.refl _) (.inl ⟨by rfl, fun W hW => ?_⟩) ?_; rotate_left
        · (go_simp; first | done | with_reducible rfl)
        try simp only [Act.put, List.setIfInBounds_toArray, List.set_cons_zero, List.set_cons_succ]
        refine btake 2 (oi := _) (v := ?_) (by simp only [List.getElem?_toArray, List.getElem?_cons_succ, List.getElem?_cons_zero]; rfl) (by kernel_rfl) (by exact fun _ _ _ h => h) (by first | assumption | exact KB.refl _) (.inl ⟨by rfl, fun W hW => ?_⟩) ?_; rotate_left
        · (go_simp; first | done | with_reducible rfl)
        try simp only [Act.put, List.setIfInBounds_toArray, List.set_cons_zero, List.set_cons_succ]
        refine btake 3 (oi := _) (v := ?_) (by simp only [List.getElem?_toArray, List.getElem?_cons_succ, List.getElem?_cons_zero]; rfl) (by kernel_rfl) (by exact fun _ _ _ h => h) (by first | assumption | exact KB.refl _) (.inl ⟨by rfl, fun W hW => ?_⟩) ?_; rotate_left
        · (go_simp; first | done | with_reducible rfl)
        try simp only [Act.put, List.setIfInBounds_toArray, List.set_cons_zero, List.set_cons_succ]
        refine btake 4 (oi := _) (v := ?_) (by simp only [List.getElem?_toArray, List.getElem?_cons_succ, List.getElem?_cons_zero]; rfl) (by kernel_rfl) (by exact fun _ _ _ h => h) (by first | assumption | exact KB.refl _) (.inl ⟨by rfl, fun W hW => ?_⟩) ?_; rotate_left
        · (go_simp; first | done | with_reducible rfl)
        try simp only [Act.put, List.setIfInBounds_toArray, List.set_cons_zero, List.set_cons_succ]
        refine btake 5 (oi := _) (v := ?_) (by simp only [List.getElem?_toArray, List.getElem?_cons_succ, List.getElem?_cons_zero]; rfl) (by kernel_rfl) (by exact fun _ _ _ h => h) (by first | assumption | exact KB.refl _) (.inl ⟨by rfl, fun W hW => ?_⟩) ?_; rotate_left
        · (go_simp; first | done | with_reducible rfl)
        try simp only [Act.put, List.setIfInBounds_toArray, List.set_cons_zero, List.set_cons_succ]
        refine btake 6 (oi := _) (v := ?_) (by simp only [List.getElem?_toArray, List.getElem?_cons_succ, List.getElem?_cons_zero]; rfl) (by kernel_rfl) (by exact fun _ _ _ h => h) (by first | assumption | exact KB.refl _) (.inl ⟨by rfl, fun W hW => ?_⟩) ?_; rotate_left
        · (go_simp; first | done | with_reducible rfl)
        try simp only [Act.put, List.setIfInBounds_toArray, List.set_cons_zero, List.set_cons_succ]
        refine bdone (by kernel_rfl) ?_
        have f0 : ∀ W, KB wr.drew.heap W → W.cell? ⟨w.heap.size, k, none⟩ = some (.int .u8 (x : Int)) := e0
        have f1 : ∀ W, KB wr.drew.heap W → W.cell? ⟨w.heap.size + 1, k, none⟩ = some (.int .u8 (y : Int)) := e1
        have hb3 := hbel.drew
        clear e0 e1 y0 y1 hA hB hbel
        generalize wr.drew = wq at f0 f1 hb3 ⊢
        have hv : lt = decide (x < y) := by rw [HLT.out, hres]
        have HV := Lib.hid hv
        clear hv hres
        go_wp2_with fail
        refine bstart (by kernel_rfl) ?_
        refine btake 0 (oi := _) (v := ?_) (by simp only [List.getElem?_toArray, List.getElem?_cons_zero]; rfl) (by kernel_rfl) (by exact fun _ _ _ h => h) (by first | assumption | exact KB.refl _) (.inl ⟨by rfl, fun W hW => ?_⟩) ?_; rotate_left
        · (go_simp; first | done | with_reducible rfl)
        try simp only [Act.put, List.setIfInBounds_toArray, List.set_cons_zero, List.set_cons_succ]
        refine btake 1 (oi := _) (v := ?_) (by simp only [List.getElem?_toArray, List.getElem?_cons_succ, List.getElem?_cons_zero]; rfl) (by kernel_rfl) (by exact fun _ _ _ h => h) (by first | assumption | exact KB.refl _) (.inl ⟨by rfl, fun W hW => ?_⟩) ?_; rotate_left
        · (go_simp; first | done | with_reducible rfl)
        try simp only [Act.put, List.setIfInBounds_toArray, List.set_cons_zero, List.set_cons_succ]
        refine btake 2 (oi := _) (v := ?_) (by simp only [List.getElem?_toArray, List.getElem?_cons_succ, List.getElem?_cons_zero]; rfl) (by kernel_rfl) (by exact fun _ _ _ h => h) (by first | assumption | exact KB.refl _) (.inl ⟨by rfl, fun W hW => ?_⟩) ?_; rotate_left
        · (go_simp; first | done | with_reducible rfl)
        try simp only [Act.put, List.setIfInBounds_toArray, List.set_cons_zero, List.set_cons_succ]
        refine btake 3 (oi := _) (v := ?_) (by simp only [List.getElem?_toArray, List.getElem?_cons_succ, List.getElem?_cons_zero]; rfl) (by kernel_rfl) (by exact fun _ _ _ h => h) (by first | assumption | exact KB.refl _) (.inl ⟨by rfl, fun W hW => ?_⟩) ?_; rotate_left
        · (go_simp; first | done | with_reducible rfl)
        try simp only [Act.put, List.setIfInBounds_toArray, List.set_cons_zero, List.set_cons_succ]
        refine btake 4 (oi := _) (v := ?_) (by simp only [List.getElem?_toArray, List.getElem?_cons_succ, List.getElem?_cons_zero]; rfl) (by kernel_rfl) (by exact fun _ _ _ h => h) (by first | assumption | exact KB.refl _) (.inl ⟨by rfl, fun W hW => ?_⟩) ?_; rotate_left
        · (go_simp; first | done | with_reducible rfl)
        try simp only [Act.put, List.setIfInBounds_toArray, List.set_cons_zero, List.set_cons_succ]
        refine btake 5 (oi := _) (v := ?_) (by simp only [List.getElem?_toArray, List.getElem?_cons_succ, List.getElem?_cons_zero]; rfl) (by kernel_rfl) (by exact fun _ _ _ h => h) (by first | assumption | exact KB.refl _) (.inl ⟨by rfl, fun W hW => ?_⟩) ?_; rotate_left
        · (go_simp; first | done | with_reducible rfl)
        try simp only [Act.put, List.setIfInBounds_toArray, List.set_cons_zero, List.set_cons_succ]
        refine btake 6 (oi := _) (v := ?_) (by simp only [List.getElem?_toArray, List.getElem?_cons_succ, List.getElem?_cons_zero]; rfl) (by kernel_rfl) (by exact fun _ _ _ h => h) (by first | assumption | exact KB.refl _) (.inl ⟨by rfl, fun W hW => ?_⟩) ?_; rotate_left
        · (go_simp; first | done | with_reducible rfl)
        try simp only [Act.put, List.setIfInBounds_toArray, List.set_cons_zero, List.set_cons_succ]
        refine btake 7 (oi := _) (v := ?_) (by simp only [List.getElem?_toArray, List.getElem?_cons_succ, List.getElem?_cons_zero]; rfl) (by kernel_rfl) (by exact fun _ _ _ h => h) (by first | assumption | exact KB.refl _) (.inl ⟨by rfl, fun W hW => ?_⟩) ?_; rotate_left
        · (go_simp; first | done | with_reducible rfl)
        try simp only [Act.put, List.setIfInBounds_toArray, List.set_cons_zero, List.set_cons_succ]
        refine bdone (by kernel_rfl) ?_
        go_wp2_with fail
        go_ret
        exact ⟨by rw [HV.out]; simp, hb3.drew⟩
    · obtain rfl : k = 32 := by omega
      have hab : a = b := by
        have h1 := List.take_length (l := a)
        have h2 := List.take_length (l := b)
        rw [HL.out.1] at h1
        rw [HL.out.2] at h2
        rw [← h1, ← h2, hp]
      have hv : lt = false := by rw [HLT.out, hab]; exact cmpB_self_lt b
      have HV := Lib.hid hv
      clear hv hab hp
      rw [show (((32 : Nat)) : Int) = (32 : Int) from rfl]
      go_wp2_with fail
      go_ret
      exact ⟨by rw [HV.out]; rfl, hbel⟩
theorem ltB_cons (x y : UInt8) (a b : List UInt8) : ltB (x :: a) (y :: b) = (decide (x.toNat < y.toNat) || (decide (x.toNat = y.toNat) && ltB a b)) := by
  have h1 : x < y ↔ x.toNat < y.toNat := Iff.rfl
  have h2 : y < x ↔ y.toNat < x.toNat := Iff.rfl
  unfold ltB cmpB
  rw [Lib.compareBytes]
  by_cases hlt : x.toNat < y.toNat
  · simp [h1, hlt]
  · by_cases hgt : y.toNat < x.toNat
    · simp [h1, h2, hlt, hgt, show ¬ x.toNat = y.toNat by omega]
    · simp [h1, h2, show x.toNat = y.toNat by omega]
theorem ltB_nil : ltB [] [] = false := rfl
theorem ltB_trans : ∀ (a b c : List UInt8), a.length = b.length → b.length = c.length → ltB a b = true → ltB b c = true → ltB a c = true
  | [], [], [], _, _, h, _ => by rw [ltB_nil] at h; cases h
  | x :: a, y :: b, z :: c, h1, h2, h3, h4 => by
    have ih := ltB_trans a b c (by simpa using h1) (by simpa using h2)
    rw [ltB_cons] at h3 h4 ⊢
    simp only [Bool.or_eq_true, Bool.and_eq_true, decide_eq_true_eq] at h3 h4 ⊢
    rcases h3 with h3 | ⟨h3, h3'⟩
    · rcases h4 with h4 | ⟨h4, h4'⟩
      · left; omega
      · left; omega
    · rcases h4 with h4 | ⟨h4, h4'⟩
      · left; omega
      · right; exact ⟨by omega, ih h3' h4'⟩
  | [], _ :: _, _, h, _, _, _ => by simp at h
  | _ :: _, [], _, h, _, _, _ => by simp at h
  | [], [], _ :: _, _, h, _, _ => by simp at h
  | _ :: _, _ :: _, [], _, h, _, _ => by simp at h
theorem ex_eq32q {o : Oper} {a : Act} {w : World} {x y : Operand} (ho : o.op = .binOp .eql 25 x y 25) {l l' : List UInt8} (hx : a.eval x = .agg (bv l).toArray) (hy : a.eval y = .agg (bv l').toArray) (hl : l.length = 32) (hl' : l'.length = 32) {q : Bool} (hq : decide (l = l') = q) : (execOp a.eval o).run Try.prog w = .ok (.value (.bool q)) w := by
  rw [ex_eq32 ho hx hy hl hl', hq]
end Go.Proofs.Ytjijhmeagjhfoaa

