/- Digests: RotateLeft32; arrays in memory. -/
import Derived.Test.YtjbelkpmbbkhgaaAt
import Derived.Test.YtjbelkpmbbkhgaaPSha
import Derived.Laws.BitsAllLaws
namespace Go.Proofs.Ytjbelkpmbbkhgaa
open Go.RowKit Go.Proofs.Ytjbelkpmbbkhgaa.Sh

theorem rl_lt {x s : Nat} (hx : x < 4294967296) : rl x s < 4294967296 := by
  unfold rl
  have h1 : x * 2 ^ s % 4294967296 < 2 ^ 32 := Nat.mod_lt _ (by omega)
  have h2 : x / 2 ^ (32 - s) < 2 ^ 32 := Nat.lt_of_le_of_lt (Nat.div_le_self _ _) hx
  exact Nat.or_lt_two_pow h1 h2
set_option maxRecDepth 100000 in
theorem RotL_any (w : World) (x k s : Nat) (hx : x < 4294967296) (hk : 0 < k) (hk2 : k < 32) (hs : s = 32 - k) (a : Int) (ha : a = -(k : Int)) :
    Calls Try.prog 25 #[.int .u32 (x : Int), .int .i64 a] w fun e w' => e = .returned (.int .u32 (rl x s : Nat)) ∧ w = w' := by
  have f1 : IntKind.u64.wrap a = ((18446744073709551616 - k : Nat) : Int) := by rw [IntKind.wrap_u64]; omega
  have f2 : bits .and .u64 ((18446744073709551616 - k : Nat) : Int) 31 = (s : Int) := by
    have h := u64_and_nat (18446744073709551616 - k) 31 (by omega) (by omega)
    have h2 : (18446744073709551616 - k) &&& 31 = (18446744073709551616 - k) % 32 := Nat.and_two_pow_sub_one_eq_mod _ 5
    rw [h2] at h
    exact h.trans (by omega)
  have f3 : Op.shift .shl .u32 (x : Int) .u64 (s : Int) = pure (.int .u32 ((x * 2 ^ s % 4294967296 : Nat) : Int)) := by
    rw [shift_shl_any _ _ _ _ (by omega)]
    have e1 : min ((s : Int)).toNat IntKind.u32.bits = s := by simp only [IntKind.bits, Int.toNat_natCast]; omega
    rw [e1, IntKind.wrap_u32]
    congr 2
  have f4 : IntKind.u64.wrap (32 - (s : Int)) = (k : Int) := by rw [IntKind.wrap_u64]; omega
  have f5 : Op.shift .shr .u32 (x : Int) .u64 (k : Int) = pure (.int .u32 ((x / 2 ^ k : Nat) : Int)) := by
    rw [shift_shr_any _ _ _ _ (by omega)]
    have e1 : min ((k : Int)).toNat IntKind.u32.bits = k := by simp only [IntKind.bits, Int.toNat_natCast]; omega
    rw [e1]
    congr 2
  have f6 : bits .or .u32 ((x * 2 ^ s % 4294967296 : Nat) : Int) ((x : Int) / 2 ^ k) = ((x * 2 ^ s % 4294967296 ||| x / 2 ^ k : Nat) : Int) := by
    rw [show (x : Int) / 2 ^ k = ((x / 2 ^ k : Nat) : Int) by push_cast; rfl]
    exact u32_or_nat (x * 2 ^ s % 4294967296) (x / 2 ^ k) (Nat.mod_lt _ (by omega)) (Nat.lt_of_le_of_lt (Nat.div_le_self _ _) hx)
  clear f5
  have HR := Lib.hid (show (x * 2 ^ s % 4294967296 ||| x / 2 ^ k) = rl x s by unfold rl; rw [show 32 - s = k by omega])
  generalize x * 2 ^ s % 4294967296 = y at *
  generalize x / 2 ^ k = z at *
  clear ha hs hx
  generalize 18446744073709551616 - k = t at *
  go_enter Try.func25, Try.ntmps25
  go_wp2_with fail
  go_ret
  exact ⟨by rw [← HR.out]; rfl, rfl⟩
/-! ### arrays -/
def u32s (l : List Nat) : List Value := l.map (fun (x : Nat) => Value.int .u32 (x : Int))
theorem u32s_len (l : List Nat) : (u32s l).length = l.length := by simp [u32s]
theorem u32s_get (l : List Nat) (i : Nat) (h : i < l.length) : (u32s l)[i]? = some (.int .u32 ((at' l i : Nat) : Int)) := by
  simp [u32s, at', List.getElem?_map, List.getElem?_eq_getElem h]
theorem u32s_one (l : List Nat) : ∀ u ∈ u32s l, u.oneCell' = true := by
  intro u hu
  simp only [u32s, List.mem_map] at hu
  obtain ⟨c, _, rfl⟩ := hu
  rfl
theorem addN (g j : Nat) : (⟨g, 0, none⟩ : Addr).add j = ⟨g, j, none⟩ := addr0 g j
theorem run_loadArr (w : World) (t : TypeId) {n g : Nat} {us : List Value} (hagg : ∀ w, (isAgg t).run Try.prog w = .ok true w) (hsz : ∀ w, (sizeOf t).run Try.prog w = .ok n w) (hA : At w g us) (hn : us.length = n) :
    (Instr.loadAt t (.pointer (some ⟨g, 0, none⟩))).run Try.prog w = .ok (.agg us.toArray) w := by
  have hl := run_loadCells_list (P := Try.prog) w ⟨g, 0, none⟩ us (fun j u hu => by rw [addN]; exact hA.c j hu)
  subst hn
  simp [Instr.loadAt, Instr.sureAddr, loadVar, hagg, hsz, hl]
theorem putL_setCells : ∀ (us : List Value) (w : World) (g o : Nat), putL w g o us = w.setCells g o us
  | [], _, _, _ => rfl
  | _u :: us, _w, g, o => putL_setCells us _ g (o + 1)
theorem run_storeArr (w : World) (t : TypeId) {n g : Nat} {us old : List Value} (hsz : ∀ w, (sizeOf t).run Try.prog w = .ok n w) (hA : At w g old) (ho : old.length = n) (hn : us.length = n) (h1 : ∀ u ∈ us, u.oneCell' = true) :
    (Instr.storeAt t (.pointer (some ⟨g, 0, none⟩)) (.agg us.toArray)).run Try.prog w = .ok () (putL w g 0 us) := by
  have hst := run_storeCells_cells (P := Try.prog) g 0 us 0 w (fun j hj => by rw [Nat.zero_add, hA.c j (List.getElem?_eq_getElem (by omega))]; rfl) (fun j hj => by rw [Nat.zero_add]; exact hA.f j (List.getElem?_eq_getElem (by omega))) h1
  simp only [Nat.add_zero] at hst
  rw [putL_setCells]
  subst hn
  simp [Instr.storeAt, Instr.sureAddr, storeVar, hsz, Value.cells, hst]
section
variable {ops : Array Oper} {rest : List Oper} {o : Oper} {a : Act} {Q : Exit → Act → World → Prop} {w : World} {x y : Operand}
theorem wpVal {K : Act → World → Prop} {v : Value} {w' : World} (hv : (execOp a.eval o).run Try.prog w = .ok (.value v) w') (h : K (a.put o.dst v) w') : o.wp Try.prog a w K Q := by
  unfold Oper.wp
  rw [hv]
  exact h
theorem wpSkip {K : Act → World → Prop} {w' : World} (hv : (execOp a.eval o).run Try.prog w = .ok .skip w') (h : K (a.put o.dst undef) w') : o.wp Try.prog a w K Q := by
  unfold Oper.wp
  rw [hv]
  exact h
theorem opVal (hgd : o.guard = none) {v : Value} {w' : World} (hv : (execOp a.eval o).run Try.prog w = .ok (.value v) w') (h : wpList Try.prog ops Q rest (a.put o.dst v) w') : wpList Try.prog ops Q (o :: rest) a w :=
  wpList_plain hgd fun _ hK => wpVal hv (hK _ _ h)
theorem opSkip (hgd : o.guard = none) {w' : World} (hv : (execOp a.eval o).run Try.prog w = .ok .skip w') (h : wpList Try.prog ops Q rest (a.put o.dst undef) w') : wpList Try.prog ops Q (o :: rest) a w :=
  wpList_plain hgd fun _ hK => wpSkip hv (hK _ _ h)
def z64 : List Nat := List.replicate 64 0
theorem agg64 (w : World) : (isAgg 52).run Try.prog w = .ok true w := by first | exact Try.isAgg52 w | go_simp
theorem size64 (w : World) : (sizeOf 52).run Try.prog w = .ok 64 w := by first | exact Try.sizeOf52 w | go_simp
theorem info64 : (Try.prog.info? 52).bind (·.zero) = some (.agg (u32s z64).toArray) := by kernel_rfl
theorem zero64 (w : World) : (zeroValue 52).run Try.prog w = .ok (.agg (u32s z64).toArray) w := by
  have h := info64
  cases hi : Try.prog.info? 52 with
  | none => rw [hi] at h; cases h
  | some i => rw [hi] at h; simp only [Option.bind_some] at h; simp [zeroValue, typeInfo, hi, h]
theorem ex_al64 (ho : o.op = .alloc 52) : (execOp a.eval o).run Try.prog w = .ok (.value (.pointer (some ⟨w.heap.size, 0, none⟩))) (w.alloc (.cells (u32s z64).toArray 52)) := by
  have hz := zero64
  generalize (u32s z64).toArray = zs at hz ⊢
  simp [execOp, ho, Instr.alloc, hz, newVar, newRow, Value.cells]
theorem ex_ld64 (ho : o.op = .load 52 x) {g : Nat} {us : List Value} (hx : a.eval x = .pointer (some ⟨g, 0, none⟩)) (hA : At w g us) (hn : us.length = 64) : (execOp a.eval o).run Try.prog w = .ok (.value (.agg us.toArray)) w := by
  have h := run_loadArr w 52 agg64 size64 hA hn
  simp [execOp, ho, hx, h]
theorem ex_st64 (ho : o.op = .store 52 x y) {g : Nat} {us old : List Value} (hx : a.eval x = .pointer (some ⟨g, 0, none⟩)) (hy : a.eval y = .agg us.toArray) (hA : At w g old) (hl : old.length = 64) (hn : us.length = 64) (h1 : ∀ u ∈ us, u.oneCell' = true) :
    (execOp a.eval o).run Try.prog w = .ok .skip (putL w g 0 us) := by
  have h := run_storeArr w 52 size64 hA hl hn h1
  simp [execOp, ho, hx, hy, h]
theorem opBuild (t : TypeId) (v : Value) (hgd : o.guard = none) (_ : ∃ xs, o.op = .build t xs) (hv : (execOp a.eval o).run Try.prog w = .ok (.value v) w) (h : wpList Try.prog ops Q rest (a.put o.dst v) w) : wpList Try.prog ops Q (o :: rest) a w := opVal hgd hv h
theorem results_arr {fn : Func} {t : Tmp} (h : fn.results = #[.cell t 52]) (tmps : Array Value) {g : Nat} {us : List Value} (hx : tmps.getD t undef = .pointer (some ⟨g, 0, none⟩)) (hA : At w g us) (hn : us.length = 64) :
    (results fn tmps).run Try.prog w = .ok (.agg us.toArray) w := by
  have hl := run_loadCells_list (P := Try.prog) w ⟨g, 0, none⟩ us (fun j u hu => by rw [addN]; exact hA.c j hu)
  rw [hn] at hl
  have hx' : tmps[t]?.getD undef = .pointer (some ⟨g, 0, none⟩) := by simpa using hx
  simp [results, h, hx', asAddr, loadVar, hl]
end
theorem keysLen : (u32s keys).length = 64 := rfl
set_option maxRecDepth 100000 in
set_option maxHeartbeats 4000000 in
theorem table_any (w : World) : Calls Try.prog 23 #[] w fun e w' => e = .returned (.agg (u32s keys).toArray) ∧ Below w.heap.size w w' := by
  have hA := At.new w 52 (u32s z64).toArray
  have hb := balloc (Below.refl w.heap.size w) (.cells (u32s z64).toArray 52)
  go_enter Try.func23, Try.ntmps23
  go_wp2_with (first
    | (refine opVal rfl (ex_al64 rfl) ?_)
    | (refine opBuild 52 (.agg (u32s keys).toArray) rfl ⟨_, rfl⟩ (by kernel_rfl) ?_)
    | (refine opSkip rfl (ex_st64 rfl rfl rfl hA rfl rfl (u32s_one keys)) ?_))
  exact bodyPost_ret (results_arr rfl _ rfl (hA.putL (u32s keys) rfl) rfl) rfl ⟨rfl, below_putL _ _ hb (Nat.le_refl _)⟩
end Go.Proofs.Ytjbelkpmbbkhgaa

