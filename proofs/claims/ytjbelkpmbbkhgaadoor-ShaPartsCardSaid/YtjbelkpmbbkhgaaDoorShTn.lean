/- Digests: the document's turn; a word of four bytes. -/
import Derived.Test.YtjbelkpmbbkhgaaDoorShN
import Derived.Test.YtjbelkpmbbkhgaaDoorNumFix
namespace Go.Proofs.YtjbelkpmbbkhgaaDoor
open Go.RowKit Go.Proofs.YtjbelkpmbbkhgaaDoor.Sh Go.Proofs.YtjbelkpmbbkhgaaDoor.Pl

set_option maxRecDepth 100000 in
theorem turn_any (w : World) (x k s : Nat) (hx : x < 4294967296) (hk : 0 < k) (hk2 : k < 32) (hs : s = 32 - k) (a : Int) (ha : a = (k : Int)) :
    Calls Tryd.prog 22 #[.int .u32 (x : Int), .int .i64 a] w fun e w' => e = .returned (.int .u32 (rl x s : Nat)) ∧ w' = w.drew := by
  subst ha
  have f2 : IntKind.i64.wrap (32 - (k : Int)) = (s : Int) := by rw [IntKind.wrap_i64]; omega
  have f3 : Op.shift .shl .u32 (x : Int) .i64 (s : Int) = pure (.int .u32 ((x * 2 ^ s % 4294967296 : Nat) : Int)) := by
    rw [shift_shl_any _ _ _ _ (by omega)]
    have e1 : min ((s : Int)).toNat IntKind.u32.bits = s := by simp only [IntKind.bits, Int.toNat_natCast]; omega
    rw [e1, IntKind.wrap_u32]
    congr 2
  have f5 : Op.shift .shr .u32 (x : Int) .i64 (k : Int) = pure (.int .u32 ((x / 2 ^ k : Nat) : Int)) := by
    rw [shift_shr_any _ _ _ _ (by omega)]
    have e1 : min ((k : Int)).toNat IntKind.u32.bits = k := by simp only [IntKind.bits, Int.toNat_natCast]; omega
    rw [e1]
    congr 2
  have f6 : bits .or .u32 ((x : Int) / 2 ^ k) ((x * 2 ^ s % 4294967296 : Nat) : Int) = ((x / 2 ^ k ||| x * 2 ^ s % 4294967296 : Nat) : Int) := by
    rw [show (x : Int) / 2 ^ k = ((x / 2 ^ k : Nat) : Int) by push_cast; rfl]
    exact u32_or_nat (x / 2 ^ k) (x * 2 ^ s % 4294967296) (Nat.lt_of_le_of_lt (Nat.div_le_self _ _) hx) (Nat.mod_lt _ (by omega))
  clear f5
  have HR := Lib.hid (show (x / 2 ^ k ||| x * 2 ^ s % 4294967296) = rl x s by unfold rl; rw [show 32 - s = k by omega, Nat.or_comm])
  generalize x * 2 ^ s % 4294967296 = y at *
  generalize hz : x / 2 ^ k = z at *
  have hs0 : (0 : Int) ≤ (s : Int) := by omega
  have hk0 : (0 : Int) ≤ (k : Int) := by omega
  clear hs hx hz
  go_enter Tryd.func22, Tryd.ntmps22
  go_wp2_with fail
  refine bstart (by kernel_rfl) ?_
  refine btake 0 (oi := _) (v := ?_) (by simp only [List.getElem?_toArray, List.getElem?_cons_zero]; rfl) (by kernel_rfl) (by exact fun _ _ _ h => h) (by first | assumption | exact KB.refl _) (.inl ⟨by rfl, fun W hW => ?_⟩) ?_; rotate_left
  · (go_simp; first | done | with_reducible rfl)
  try simp only [Act.put, List.setIfInBounds_toArray, List.set_cons_zero, List.set_cons_succ]
  refine btake 1 (oi := _) (v := ?_) (by simp only [List.getElem?_toArray, List.getElem?_cons_succ, List.getElem?_cons_zero]; rfl) (by kernel_rfl) (by exact fun _ _ _ h => h) (by first | assumption | exact KB.refl _) (.inl ⟨by rfl, fun W hW => ?_⟩) ?_; rotate_left
  · (go_simp; first | done | with_reducible rfl)
  try simp only [Act.put, List.setIfInBounds_toArray, List.set_cons_zero, List.set_cons_succ]
  refine btake 2 (oi := _) (v := ?_) (by simp only [List.getElem?_toArray, List.getElem?_cons_succ, List.getElem?_cons_zero]; rfl) (by kernel_rfl) (by exact fun _ _ _ h => h) (by first | assumption | exact KB.refl _) (.inl ⟨by rfl, fun W hW => ?_⟩) ?_; rotate_left
  · (go_simp; first | done | with_reducible rfl)
  try simp only [Act.put, List.setIfInBounds_toArray, List.set_cons_zero, List.set_cons_succ]
  refine btake 3 (oi := _) (v := ?_) (by simp only [List.getElem?_toArray, List.getElem?_cons_succ, List.getElem?_cons_zero]; rfl) (by kernel_rfl) (by exact fun _ _ _ h => h) (by first | assumption | exact KB.refl _) (.inl ⟨by rfl, fun W hW => ?_⟩) ?_; rotate_left
  · (go_simp; first | done | with_reducible rfl)
  try simp only [Act.put, List.setIfInBounds_toArray, List.set_cons_zero, List.set_cons_succ]
  refine btake 4 (oi := _) (v := ?_) (by simp only [List.getElem?_toArray, List.getElem?_cons_succ, List.getElem?_cons_zero]; rfl) (by kernel_rfl) (by exact fun _ _ _ h => h) (by first | assumption | exact KB.refl _) (.inl ⟨by rfl, fun W hW => ?_⟩) ?_; rotate_left
  · (go_simp; first | done | with_reducible rfl)
  try simp only [Act.put, List.setIfInBounds_toArray, List.set_cons_zero, List.set_cons_succ]
  refine btake 5 (oi := _) (v := ?_) (by simp only [List.getElem?_toArray, List.getElem?_cons_succ, List.getElem?_cons_zero]; rfl) (by kernel_rfl) (by exact fun _ _ _ h => h) (by first | assumption | exact KB.refl _) (.inl ⟨by rfl, fun W hW => ?_⟩) ?_; rotate_left
  · (go_simp; first | done | with_reducible rfl)
  try simp only [Act.put, List.setIfInBounds_toArray, List.set_cons_zero, List.set_cons_succ]
  refine btake 6 (oi := _) (v := ?_) (by simp only [List.getElem?_toArray, List.getElem?_cons_succ, List.getElem?_cons_zero]; rfl) (by kernel_rfl) (by exact fun _ _ _ h => h) (by first | assumption | exact KB.refl _) (.inl ⟨by rfl, fun W hW => ?_⟩) ?_; rotate_left
  · (go_simp; first | done | with_reducible rfl)
  try simp only [Act.put, List.setIfInBounds_toArray, List.set_cons_zero, List.set_cons_succ]
  refine btake 7 (oi := _) (v := ?_) (by simp only [List.getElem?_toArray, List.getElem?_cons_succ, List.getElem?_cons_zero]; rfl) (by kernel_rfl) (by exact fun _ _ _ h => h) (by first | assumption | exact KB.refl _) (.inl ⟨by rfl, fun W hW => ?_⟩) ?_; rotate_left
  · (go_simp; first | done | with_reducible rfl)
  try simp only [Act.put, List.setIfInBounds_toArray, List.set_cons_zero, List.set_cons_succ]
  refine btake 8 (oi := _) (v := ?_) (by simp only [List.getElem?_toArray, List.getElem?_cons_succ, List.getElem?_cons_zero]; rfl) (by kernel_rfl) (by exact fun _ _ _ h => h) (by first | assumption | exact KB.refl _) (.inl ⟨by rfl, fun W hW => ?_⟩) ?_; rotate_left
  · (go_simp; first | done | with_reducible rfl)
  try simp only [Act.put, List.setIfInBounds_toArray, List.set_cons_zero, List.set_cons_succ]
  refine bdone (by kernel_rfl) ?_
  go_wp2_with fail
  go_ret
  exact ⟨by rw [← HR.out]; rfl, rfl⟩
theorem word_big (b : List UInt8) (i : Nat) (h : 4 * i + 4 ≤ b.length) : big ((b.drop (4 * i)).take 4) = word b i := by
  have e0 := bt_lt b (4 * i)
  have e1 := bt_lt b (4 * i + 1)
  have e2 := bt_lt b (4 * i + 2)
  have e3 := bt_lt b (4 * i + 3)
  have hw : word b i = ((bt b (4 * i) * 256 + bt b (4 * i + 1)) * 256 + bt b (4 * i + 2)) * 256 + bt b (4 * i + 3) := by
    unfold word
    generalize bt b (4 * i) = z0 at *
    generalize bt b (4 * i + 1) = z1 at *
    generalize bt b (4 * i + 2) = z2 at *
    generalize bt b (4 * i + 3) = z3 at *
    have a1 : z0 * 16777216 ||| z1 * 65536 = z0 * 16777216 + z1 * 65536 := by
      have := Nat.two_pow_add_eq_or_of_lt (i := 24) (b := z1 * 65536) (by omega) z0
      rw [Nat.mul_comm z0]; exact this.symm
    have a2 : (z0 * 16777216 + z1 * 65536) ||| z2 * 256 = z0 * 16777216 + z1 * 65536 + z2 * 256 := by
      have := Nat.two_pow_add_eq_or_of_lt (i := 16) (b := z2 * 256) (by omega) (z0 * 256 + z1)
      rw [show z0 * 16777216 + z1 * 65536 = 2 ^ 16 * (z0 * 256 + z1) by omega]; exact this.symm
    have a3 : (z0 * 16777216 + z1 * 65536 + z2 * 256) ||| z3 = z0 * 16777216 + z1 * 65536 + z2 * 256 + z3 := by
      have := Nat.two_pow_add_eq_or_of_lt (i := 8) (b := z3) (by omega) (z0 * 65536 + z1 * 256 + z2)
      rw [show z0 * 16777216 + z1 * 65536 + z2 * 256 = 2 ^ 8 * (z0 * 65536 + z1 * 256 + z2) by omega]; exact this.symm
    rw [a1, a2, a3]
    omega
  rw [hw]
  have h0 : (b.drop (4 * i)).take 4 = [b[4 * i]'(by omega), b[4 * i + 1]'(by omega), b[4 * i + 2]'(by omega), b[4 * i + 3]'(by omega)] := by
    rw [List.drop_eq_getElem_cons (by omega), List.drop_eq_getElem_cons (by omega), List.drop_eq_getElem_cons (by omega), List.drop_eq_getElem_cons (by omega)]
    rfl
  rw [h0]
  unfold big bt
  rw [List.getElem?_eq_getElem (by omega), List.getElem?_eq_getElem (by omega), List.getElem?_eq_getElem (by omega), List.getElem?_eq_getElem (by omega)]
  simp [bigF]
/-- the variable keys, as it lies -/
def GK (w : World) : Prop := 0 < w.heap.size ∧ ∀ i, i < 64 → w.cell? ⟨0, i, none⟩ = some (.int .u32 ((at' keys i : Nat) : Int))
theorem GK.below {w w' : World} (h : GK w) (hb : Below w.heap.size w w') : GK w' := ⟨Nat.lt_of_lt_of_le h.1 hb.size, fun i hi => (hb.cell (p := ⟨0, i, none⟩) h.1).trans (h.2 i hi)⟩
section
variable {o : Oper} {a : Act} {w : World} {x : Operand}
theorem zero8 (w : World) : (zeroValue 42).run Tryd.prog w = .ok (.agg (u32s z8).toArray) w := by
  have h := info8
  cases hi : Tryd.prog.info? 42 with
  | none => rw [hi] at h; cases h
  | some i => rw [hi] at h; simp only [Option.bind_some] at h; simp [zeroValue, typeInfo, hi, h]
theorem ex_box8 (ho : o.op = .box 42 x) {us : List Value} (hx : a.eval x = .agg us.toArray) : (execOp a.eval o).run Tryd.prog w = .ok (.value (.pointer (some ⟨w.heap.size, 0, none⟩))) (w.alloc (.cells us.toArray 42)) := by
  simp [execOp, ho, hx, Instr.box, newVar, newRow, Value.cells]
theorem ex_al8 (ho : o.op = .alloc 42) : (execOp a.eval o).run Tryd.prog w = .ok (.value (.pointer (some ⟨w.heap.size, 0, none⟩))) (w.alloc (.cells (u32s z8).toArray 42)) := by
  have hz := zero8
  generalize (u32s z8).toArray = zs at hz ⊢
  simp [execOp, ho, Instr.alloc, hz, newVar, newRow, Value.cells]
end
end Go.Proofs.YtjbelkpmbbkhgaaDoor

