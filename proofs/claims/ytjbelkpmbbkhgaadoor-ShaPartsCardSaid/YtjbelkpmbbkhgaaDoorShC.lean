/- Digests: a string's bytes in a row of their own; strings compared. -/
import Derived.Test.YtjbelkpmbbkhgaaDoorShZ
import Derived.Test.YtjbelkpmbbkhgaaDoorPShb
namespace Go.Proofs.YtjbelkpmbbkhgaaDoor
open Go.RowKit Go.Proofs.YtjbelkpmbbkhgaaDoor.Sh

theorem At.newF (w : World) (t : TypeId) (cs : Array Value) (lo hi : Nat) (vs : List Value) (hp : ∀ (i : Nat) (v : Value), vs[i]? = some v → cs.toList[i]? = some v) (hfr : vs.length ≤ lo) : At (w.alloc (.cells cs t (lo, hi))) w.heap.size vs := by
  refine ⟨by simp, fun i v hv => ⟨new_cells w t cs (lo, hi) i v (hp i v hv), ?_⟩⟩
  have hi := (List.getElem?_eq_some_iff.1 hv).1
  rw [World.frozen?_alloc_mark, decide_eq_false (by omega)]
  rfl
theorem str_bytes (w : World) (l : List UInt8) : ∃ c w', (convert 9 24 (str l)).run Tryd.prog w = .ok (.slice (some ⟨w.heap.size, 0, none⟩) l.length c) w' ∧ At w' w.heap.size (bv l) ∧ Below w.heap.size w w' ∧ l.length ≤ c := by
  have h := run_bytes_of_string (P := Tryd.prog) w 9 24 5 ⟨l.toArray⟩ Tryd.underlying9 Tryd.underlying24 Tryd.underlying5
  have hs : (ByteArray.mk l.toArray).size = l.length := rfl
  rw [hs] at h
  refine ⟨_, _, h, ?_, ?_, ?_⟩
  · refine At.newF w.drew _ _ _ _ _ (fun i v hv => ?_) ?_
    · have hi : i < l.length := by have := (List.getElem?_eq_some_iff.1 hv).1; rwa [bv_len] at this
      have h2 := bytesRow_at ⟨l.toArray⟩ (grownCap w l.length 0 5) i (by simpa using hi)
      rw [bv_get l i hi] at hv
      rw [Array.getElem?_toList, h2, ← hv, List.getElem?_eq_getElem hi]
      rfl
    · rw [bv_len]
      simp [bytesRow]
  · exact ((Below.refl _ w).drew).alloc (Nat.le_refl _) _
  · exact grownCap_ge w l.length 0 5
theorem len_str (w : World) (l : List UInt8) (n : Nat) (h : l.length = n) : (Builtin.len_ #[9] 3 #[str l]).run Tryd.prog w = .ok (.int .i64 (n : Int)) w := by
  subst h
  unfold str
  go_simp
theorem opValG {ops : Array Oper} {rest : List Oper} {o : Oper} {a : Act} {Q : Exit → Act → World → Prop} {w : World} (hgd : Region.wanted o (yielded ops a.tmps) = true) {v : Value} {w' : World} (hv : (execOp a.eval o).run Tryd.prog w = .ok (.value v) w') (h : wpList Tryd.prog ops Q rest (a.put o.dst v) w') : wpList Tryd.prog ops Q (o :: rest) a w :=
  wpList_step fun K hK => by simp only [hgd, if_true]; exact wpVal hv (hK _ _ h)
section
variable {o : Oper} {a : Act} {w w' : World} {x y : Operand}
theorem ex_conv {s t : TypeId} (ho : o.op = .convert s t x) {u v : Value} (hx : a.eval x = v) (h : (convert s t v).run Tryd.prog w = .ok u w') : (execOp a.eval o).run Tryd.prog w = .ok (.value u) w' := by
  simp only [execOp, ho, hx, Sem.run_bind, h, Result.andThen_ok]
  rfl
theorem ex_nes (ho : o.op = .binOp .neq 9 x y 9) {l : List UInt8} (hx : a.eval x = str l) (hy : a.eval y = str l) : (execOp a.eval o).run Tryd.prog w = .ok (.value (.bool false)) w := by
  unfold str at hx hy
  generalize (ByteArray.mk l.toArray) = s at *
  have h : (binOp .neq 9 (.string s) (.string s)).run Tryd.prog w = .ok (.bool false) w := by
    go_simp
  simp only [execOp, ho, hx, hy, Sem.run_bind, eqGuard_at_string, Sem.run_pure, h, Result.andThen_ok]
theorem ex_adds (ho : o.op = .binOp .add 9 x y 9) {l l' : List UInt8} (hx : a.eval x = str l) (hy : a.eval y = str l') (h : l.length + l'.length ≤ 9223372036854775807) : (execOp a.eval o).run Tryd.prog w = .ok (.value (str (l ++ l'))) w := by
  have hb : (binOp .add 9 (str l) (str l')).run Tryd.prog w = .ok (str (l ++ l')) w := by
    unfold str
    go_simp
    rw [if_neg (by omega)]
    congr 2
    first | done | (apply ByteArray.ext; simp)
  simp only [execOp, ho, hx, hy, Sem.run_bind, eqGuard_add, Sem.run_pure, hb, Result.andThen_ok]
theorem ex_take (ho : o.op = .slice 9 x none (some y) none) {l : List UInt8} {k : Nat} (hx : a.eval x = str l) (hy : a.eval y = .int .u8 (k : Int)) (hk : k ≤ l.length) : (execOp a.eval o).run Tryd.prog w = .ok (.value (str (l.take k))) w := by
  have hs : (ByteArray.mk l.toArray).size = l.length := rfl
  have he : (ByteArray.mk l.toArray).extract 0 k = ⟨(l.take k).toArray⟩ := by
    apply ByteArray.ext
    simp
  have hk2 : (k : Int) ≤ (l.length : Int) := by omega
  unfold str at hx ⊢
  simp only [execOp, ho, hx, hy, Option.map]
  go_simp
def TxS (gc : Nat) (C : List UInt8) (w W : World) : Prop := At W gc (bv C) ∧ Below w.heap.size w W
end
end Go.Proofs.YtjbelkpmbbkhgaaDoor

