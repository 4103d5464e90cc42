/- Digests: bytes.Compare, Less. -/
import Derived.Test.YtjbelkpmbbkhgaaDoorShX
import Derived.Lib.BytesEntry
namespace Go.Proofs.YtjbelkpmbbkhgaaDoor
open Go.RowKit Go.Proofs.YtjbelkpmbbkhgaaDoor.Sh

def cmpB : List UInt8 → List UInt8 → Int := Lib.compareBytes
def ltB (a b : List UInt8) : Bool := decide (cmpB a b < 0)
theorem bytesOf_at {P : Program} {w : World} {g : Nat} {l : List UInt8} (h : At w g (bv l)) (n c : Nat) (hn : n = l.length) :
    (Extern.Bytes.bytesOf (.slice (some ⟨g, 0, none⟩) n c)).run P w = .ok ⟨l.toArray⟩ w := by
  subst hn
  have hl := Lib.run_loadBytesX (P := P) w (l.map (fun u => (u.toNat : Int))) ⟨g, 0, none⟩ .empty (fun j x hj => by
    rw [addr0]
    refine h.c j ?_
    rw [List.getElem?_map] at hj
    cases hu : l[j]? with
    | none => rw [hu] at hj; cases hj
    | some u =>
      rw [hu] at hj
      injection hj with hj
      subst hj
      simp [bv, u8v, hu])
  have e : Lib.bytesOf (l.map (fun u => (u.toNat : Int))) = l := by
    simp only [Lib.bytesOf, List.map_map]
    rw [show ((fun (n : Int) => UInt8.ofNat n.toNat) ∘ fun (u : UInt8) => (u.toNat : Int)) = id by funext u; simp]
    exact List.map_id l
  rw [List.length_map, e] at hl
  simp only [Extern.Bytes.bytesOf]
  rw [hl]
  congr 1
  apply ByteArray.ext
  show (#[] : Array UInt8) ++ l.toArray = l.toArray
  simp
theorem run_compare {P : Program} {w : World} {g g' : Nat} {l l' : List UInt8} (h : At w g (bv l)) (h' : At w g' (bv l')) (n c n' c' : Nat) (hn : n = l.length) (hn' : n' = l'.length) :
    (Extern.BytealgCompare.compare #[.slice (some ⟨g, 0, none⟩) n c, .slice (some ⟨g', 0, none⟩) n' c']).run P w = .ok (.int .i64 (cmpB l l')) w := by
  change Sem.run P (do pure (goInt (Extern.BytealgCompare.cmp (← Extern.Bytes.bytesOf (.slice (some ⟨g, 0, none⟩) n c)) (← Extern.Bytes.bytesOf (.slice (some ⟨g', 0, none⟩) n' c'))))) w = _
  simp only [Sem.run_bind, bytesOf_at h n c hn, bytesOf_at h' n' c' hn', Sem.run_pure, Result.andThen]
  rw [Lib.cmp_eq]
  rfl
set_option maxRecDepth 100000 in
theorem Compare_any (w : World) (g g' : Nat) (l l' : List UInt8) (h : At w g (bv l)) (h' : At w g' (bv l')) (n c n' c' : Nat) (hn : n = l.length) (hn' : n' = l'.length) :
    Calls Tryd.prog 20 #[.slice (some ⟨g, 0, none⟩) n c, .slice (some ⟨g', 0, none⟩) n' c'] w fun e w' => e = .returned (.int .i64 (cmpB l l')) ∧ w = w' := by
  have HC := Lib.hid (run_compare (P := Tryd.prog) h h' n c n' c' hn hn')
  clear hn hn'
  go_enter Tryd.func20, Tryd.ntmps20
  go_wp2_with fail
  rw [run_callFunc_extern Tryd.func27 (by kernel_rfl) (by kernel_rfl) (by kernel_rfl) (e := Extern.BytealgCompare.compare) (by kernel_rfl), HC.out]
  simp only [Result.andThen]
  rw [Oper.upon_value]
  go_wp2_with fail
  go_ret
  exact ⟨rfl, rfl⟩
section
variable {o : Oper} {a : Act} {w : World} {x : Operand}
theorem ex_box32 (ho : o.op = .box 26 x) {us : List Value} (hx : a.eval x = .agg us.toArray) : (execOp a.eval o).run Tryd.prog w = .ok (.value (.pointer (some ⟨w.heap.size, 0, none⟩))) (w.alloc (.cells us.toArray 26)) := by
  simp [execOp, ho, hx, Instr.box, newVar, newRow, Value.cells]
end
theorem cmpB_self_lt (l : List UInt8) : ltB l l = false := by
  unfold ltB cmpB
  rw [decide_eq_false_iff_not]
  induction l with
  | nil => simp [Lib.compareBytes]
  | cons a l ih => simpa [Lib.compareBytes] using ih
set_option maxRecDepth 100000 in
theorem Less_any (w : World) (a b : List UInt8) (ha : a.length = 32) (hb : b.length = 32) :
    Calls Tryd.prog 14 #[.agg (bv a).toArray, .agg (bv b).toArray] w fun e w' => e = .returned (.bool (ltB a b)) ∧ Below w.heap.size w w' := by
  have hA := At.new w 26 (bv a).toArray
  have hb1 := balloc (Below.refl w.heap.size w) (.cells (bv a).toArray 26)
  have HL := Lib.hid (And.intro ha.symm hb.symm)
  clear ha hb
  go_enter Tryd.func14, Tryd.ntmps14
  go_wp2_with (refine opVal rfl (ex_box32 rfl rfl) ?_)
  have hA2 := hA.alloc (.cells (bv b).toArray 26)
  have hB2 := At.new (w.alloc (.cells (bv a).toArray 26)) 26 (bv b).toArray
  have hb2 := hb1.alloc hb1.size (.cells (bv b).toArray 26)
  replace hB2 : At ((w.alloc (.cells (bv a).toArray 26)).alloc (.cells (bv b).toArray 26)) (w.heap.size + 1) (bv b) := by have h := hB2; simpa using h
  replace hA2 : At ((w.alloc (.cells (bv a).toArray 26)).alloc (.cells (bv b).toArray 26)) w.heap.size (bv a) := hA2
  generalize (w.alloc (.cells (bv a).toArray 26)).alloc (.cells (bv b).toArray 26) = w2 at hA2 hB2 hb2 ⊢
  clear hA hb1
  obtain ⟨C, hC⟩ : ∃ C, C = cmpB a b := ⟨_, rfl⟩
  have HC := Lib.hid hC
  have hCmp := Lib.hid (Compare_any w2.drew w.heap.size (w.heap.size + 1) a b hA2.drew hB2.drew 32 32 32 32 HL.out.1 HL.out.2)
  rw [← hC] at hCmp
  clear hC hA2 hB2
  refine bstart (by kernel_rfl) ?_
  refine btake 0 (oi := _) (v := ?_) (by simp only [List.getElem?_toArray, List.getElem?_cons_zero]; rfl) (by kernel_rfl) (by exact fun _ _ _ h => h) (by first | assumption | exact KB.refl _) (.inl ⟨by rfl, fun W hW => ?_⟩) ?_; rotate_left
  · (go_simp; first | done | with_reducible rfl)
  try simp only [Act.put, List.setIfInBounds_toArray, List.set_cons_zero, List.set_cons_succ]
  refine btake 1 (oi := _) (v := ?_) (by simp only [List.getElem?_toArray, List.getElem?_cons_succ, List.getElem?_cons_zero]; rfl) (by kernel_rfl) (by exact fun _ _ _ h => h) (by first | assumption | exact KB.refl _) (.inl ⟨by rfl, fun W hW => ?_⟩) ?_; rotate_left
  · (go_simp; first | done | with_reducible rfl)
  try simp only [Act.put, List.setIfInBounds_toArray, List.set_cons_zero, List.set_cons_succ]
  -- 2: bytes.Compare
  refine bop 2 (o := _) (by simp only [List.getElem?_toArray, List.getElem?_cons_succ, List.getElem?_cons_zero]; rfl) (by kernel_rfl) (by first | assumption | exact KB.refl _) (by rfl) (fun K hK => ?_)
  go_simp
  refine hCmp.out.mono ?_
  rintro e w5 ⟨rfl, rfl⟩
  have hkb := KB.of (Below.refl w2.drew.heap.size w2.drew)
  refine hK.out _ _ hkb ?_; clear hK K
  try simp only [Act.put, List.setIfInBounds_toArray, List.set_cons_zero, List.set_cons_succ]
  refine btake 3 (oi := _) (v := ?_) (by simp only [List.getElem?_toArray, List.getElem?_cons_succ, List.getElem?_cons_zero]; rfl) (by kernel_rfl) (by exact fun _ _ _ h => h) (by first | assumption | exact KB.refl _) (.inl ⟨by rfl, fun W hW => ?_⟩) ?_; rotate_left
  · (go_simp; first | done | with_reducible rfl)
  try simp only [Act.put, List.setIfInBounds_toArray, List.set_cons_zero, List.set_cons_succ]
  refine btake 4 (oi := _) (v := ?_) (by simp only [List.getElem?_toArray, List.getElem?_cons_succ, List.getElem?_cons_zero]; rfl) (by kernel_rfl) (by exact fun _ _ _ h => h) (by first | assumption | exact KB.refl _) (.inl ⟨by rfl, fun W hW => ?_⟩) ?_; rotate_left
  · (go_simp; first | done | with_reducible rfl)
  try simp only [Act.put, List.setIfInBounds_toArray, List.set_cons_zero, List.set_cons_succ]
  refine bdone (by kernel_rfl) ?_
  go_wp2_with fail
  go_ret
  exact ⟨by unfold ltB; rw [← HC.out]; rfl, hb2.drew⟩
theorem cmpB_skip (p : List UInt8) (x y : UInt8) (us bs : List UInt8) : cmpB (p ++ x :: us) (p ++ y :: bs) = cmpB (x :: us) (y :: bs) := by
  induction p with
  | nil => rfl
  | cons c p ih =>
    unfold cmpB at ih ⊢
    rw [List.cons_append, List.cons_append]
    rw [Lib.compareBytes, if_neg (UInt8.lt_irrefl c), if_neg (UInt8.lt_irrefl c)]
    exact ih
theorem ltB_at {a b : List UInt8} {k : Nat} (ha : k < a.length) (hb : k < b.length) (hp : a.take k = b.take k) (hne : (a[k]?.getD 0).toNat ≠ (b[k]?.getD 0).toNat) : ltB a b = decide ((a[k]?.getD 0).toNat < (b[k]?.getD 0).toNat) := by
  have e1 : a = a.take k ++ a[k] :: a.drop (k + 1) := by simp
  have e2 : b = a.take k ++ b[k] :: b.drop (k + 1) := by rw [hp]; simp
  rw [List.getElem?_eq_getElem ha, List.getElem?_eq_getElem hb] at hne ⊢
  simp only [Option.getD_some] at hne ⊢
  generalize a[k] = x at *
  generalize b[k] = y at *
  unfold ltB
  rw [e1, e2, cmpB_skip]
  unfold cmpB Lib.compareBytes
  have h1 : x < y ↔ x.toNat < y.toNat := Iff.rfl
  have h2 : y < x ↔ y.toNat < x.toNat := Iff.rfl
  by_cases hlt : x.toNat < y.toNat
  · simp [h1, hlt]
  · simp [h1, h2, hlt, show y.toNat < x.toNat by omega]
end Go.Proofs.YtjbelkpmbbkhgaaDoor

