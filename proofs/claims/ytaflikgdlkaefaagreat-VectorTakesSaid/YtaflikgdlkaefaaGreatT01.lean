/- Rows of dots of the call's own: append, stores, clear. -/
import Derived.Maps.AppendAt
import Derived.Lib.SliceRun
import Derived.Laws.IdiomCopy
import Derived.ArgAppend
import Derived.Deep.Upon
import Derived.Sort.Grow
import Derived.Shelf.SlSortCmp.WholeK
import Derived.Shelf.SlSortCmp.NoneTotal
import Derived.Shelf.Abstract
import Derived.Ground.SlsfProg
import Derived.Ground.NamesProg
import Derived.Laws.CopyRow
import Derived.Test.YtaflikgdlkaefaaGreatT00
open List (getElem?_toArray getElem?_cons_succ getElem?_cons_zero)
namespace Go.Proofs.YtaflikgdlkaefaaGreat
open Go.RowKit Go.Proofs.YtaflikgdlkaefaaGreat.Pl Go.Proofs.YtaflikgdlkaefaaGreat.Sp
set_option maxRecDepth 20000

abbrev OwnR (w : World) (base : Nat) (v : Value) (l : List Rg) : Prop := w.ownsRow base 58 2 v l.length (rv l)
theorem rginfo : (Tryz.prog.info? 58).map (fun i => (i.zero, i.size, i.bytes)) = some (some (.agg #[.int .i64 0, .int .i64 0]), 2, 16) := by kernel_rfl
theorem OwnR.nil (w : World) (base : Nat) : OwnR w base (.slice none 0 0) [] := World.ownsRow_nil w base _ 2
theorem OwnR.form {w : World} {base : Nat} {v : Value} {l : List Rg} (h : OwnR w base v l) : ∃ A c, v = .slice A l.length c ∧ l.length ≤ c ∧ c ≤ maxLen ∧ Sl w w.heap.size A (rv l) ∧ (A = none → l = []) ∧ (∀ a, A = some a → base ≤ a.block ∧ a.off = 0 ∧ a.spot = none) := by
 rcases h.2 with ⟨rfl, hn⟩ | ⟨g, cap, cur, rfl, hb, hg, hn, hm, hcs, ht⟩
 ·have := List.eq_nil_of_length_eq_zero hn
  subst this
  exact ⟨none, 0, rfl, by simp, by simp [maxLen], .inl rfl, (fun _ => rfl), (fun a h => (by cases h))⟩
 ·have hlt : g < w.heap.size := (Array.getElem?_eq_some_iff.1 hg).1
  refine ⟨_, cap, rfl, hn, hm, .inr ⟨g, 0, rfl, hlt, hlt, fun j u hu => ?_⟩, (fun h => (by cases h)), (fun a h => by cases h; exact ⟨hb, rfl, rfl⟩)⟩
  have := h.cells (g := g) rfl j u hu
  rw [Nat.zero_add]
  rw [addr0] at this
  exact this
theorem OwnR.below {w w' : World} {base : Nat} {v : Value} {l : List Rg} (h : OwnR w base v l) (hb : Below w.heap.size w w') : OwnR w' base v l :=
 h.kept (row := none) ⟨hb.os, hb.tape, hb.output, hb.size, fun k hk _ => hb.block k hk⟩ (by cases hv : v.ownBlock <;> simp)
theorem OwnR.head {w : World} {base : Nat} {v : Value} {l : List Rg} (h : OwnR w base v l) (hn : 0 < l.length) : ∃ g cap, v = .slice (some ⟨g, 0, none⟩) l.length cap ∧ base ≤ g ∧ g < w.heap.size ∧ l.length ≤ cap ∧ cap ≤ maxLen := by
 rcases h.2 with ⟨_, h0⟩ | ⟨g, cap, cur, rfl, hb, hg, h1, h2, _⟩
 ·omega
 ·exact ⟨g, cap, rfl, hb, (Array.getElem?_eq_some_iff.1 hg).1, h1, h2⟩
theorem own_belowR {w wr w1 : World} {x : Value} {B : Nat} {l : List Rg} (hb : Below B w wr) (hB : B ≤ wr.heap.size) (hown : OwnR wr B x l) (hg : wr.grownBy w1 x.ownBlock) : Below B w w1 :=
 hb.trans (below_of_grown hg (fun g e => (hown.lt g e).1) hB)
theorem rv_one (l : List Rg) : ∀ u ∈ rv l, u.oneCell' = true := by
 intro u hu
 obtain ⟨d, _, h⟩ := List.mem_flatMap.1 hu
 simp [Rg.cells] at h
 rcases h with rfl | rfl <;> rfl
theorem run_appR (w : World) (ty : TypeId) {base : Nat} {v : Value} {l : List Rg} (hown : OwnR w base v l) {B : Nat} {A : Option Addr} {m c : Nat} {k : List Rg} (hr : Sl w B A (rv k)) (hm : m = k.length)
  (hl : l.length + k.length ≤ 1000000000) (hbase : base ≤ w.heap.size) :
  ∃ v' w', (Builtin.append_ #[35, 35] ty #[v, .slice A m c]).run Tryz.prog w = .ok v' w' ∧ OwnR w' base v' (l ++ k) ∧ w.grownBy w' v.ownBlock ∧ (v'.ownBlock = v.ownBlock ∨ v'.ownBlock = some w.heap.size) := by
 subst hm
 obtain ⟨i, hi, hz, hz1, hz2⟩ := info_parts rginfo
 rcases A with _ | ad
 ·have hk : k = [] := by
   rcases hr with h | ⟨b, o, h, _⟩
   ·have := rv_len k
    rw [h] at this
    exact List.eq_nil_of_length_eq_zero (by simp at this; omega)
   ·cases h
  subst hk
  refine ⟨v, w, ?_, by simpa using hown, World.grownBy.refl w _, .inl rfl⟩
  rcases hown.2 with ⟨e, h0⟩ | ⟨g, cap', cur, e, hb0, hg0, hnc0, _⟩
  ·subst e
   simp [Builtin.append_, run_underlying Tryz.underlying35, sizeOf, typeInfo, hi, Builtin.lenOf, Builtin.firstCells, loadCells, loadCellsFrom]
  ·subst e
   simp [Builtin.append_, run_underlying Tryz.underlying35, sizeOf, typeInfo, hi, Builtin.lenOf, Builtin.firstCells, loadCells, loadCellsFrom, hnc0, storeCells]
 ·obtain ⟨v', w', hrun, h2, h3, _, h5⟩ := run_append_own_at (P := Tryz.prog) w base 35 ty 58 i (.agg #[.int .i64 0, .int .i64 0]) 2 16 Tryz.underlying35 hi hz hz1 hz2 rfl (by omega) v l.length (rv l) hown ad k.length c (rv k)
   (rv_len k) (fun j u hu => by
    rcases hr with h | ⟨b, o, h, _, _, hc⟩
    ·rw [h] at hu; simp at hu
    ·injection h with h
     subst h
     have : (⟨b, o, none⟩ : Addr).add j = ⟨b, o + j, none⟩ := by
      unfold Addr.add
      split
      ·rename_i h0; subst h0; rfl
      ·rfl
     rw [this]; exact hc j u hu) (rv_one k) (by simp only [maxLen]; omega) (by omega) hbase
  exact ⟨v', w', hrun, by rw [OwnR, rv_append, List.length_append]; exact h2, h3, h5⟩
section
variable {ops : Array Oper} {rest : List Oper} {o : Oper} {a : Act} {Q : Exit → Act → World → Prop} {w : World} {s x : Operand}
theorem wp_appR {K : Act → World → Prop} (ho : o.op = .call { callee := .builtin .append, args := #[s, x], argTypes := #[35, 35] })
  {base : Nat} {v : Value} {l : List Rg} (hown : OwnR w base v l) {B : Nat} {A : Option Addr} {m c : Nat} {k : List Rg} (hr : Sl w B A (rv k)) (hm : m = k.length)
  (hs : a.eval s = v) (hx : a.eval x = .slice A m c) (hl : l.length + k.length ≤ 1000000000) (hbase : base ≤ w.heap.size)
  (h : ∀ v' w', OwnR w' base v' (l ++ k) → w.grownBy w' v.ownBlock → (v'.ownBlock = v.ownBlock ∨ v'.ownBlock = some w.heap.size) → K (a.put o.dst v') w') : o.wp Tryz.prog a w K Q := by
 obtain ⟨v', w', hrun, h2, h3, h4⟩ := run_appR w o.type hown hr hm hl hbase (c := c)
 unfold Oper.wp execOp
 simp only [ho, resolve, invoke, builtin, Sem.run_bind, Sem.run_pure, Result.andThen_ok, List.map_toArray, List.map_cons, List.map_nil, hs, hx, hrun]
 exact h v' w' h2 h3 h4
theorem appRG (hgd : Region.wanted o (yielded ops a.tmps) = true) (ho : o.op = .call { callee := .builtin .append, args := #[s, x], argTypes := #[35, 35] })
  {base : Nat} {v : Value} {l : List Rg} (hown : OwnR w base v l) {B : Nat} {A : Option Addr} {m c : Nat} {k : List Rg} (hr : Sl w B A (rv k)) (hm : m = k.length)
  (hs : a.eval s = v) (hx : a.eval x = .slice A m c) (hl : l.length + k.length ≤ 1000000000) (hbase : base ≤ w.heap.size)
  (h : ∀ v' w', OwnR w' base v' (l ++ k) → w.grownBy w' v.ownBlock → (v'.ownBlock = v.ownBlock ∨ v'.ownBlock = some w.heap.size) → wpList Tryz.prog ops Q rest (a.put o.dst v') w') : wpList Tryz.prog ops Q (o :: rest) a w :=
 BigFrame.wpList_want hgd fun _ hK => wp_appR ho hown hr hm hs hx hl hbase fun v' w' h2 h3 h4 => hK _ _ (h v' w' h2 h3 h4)
end
/-! ### a row of dots that may be turned where it lies -/
def RowR (w : World) (g : Nat) (l : List Rg) : Prop := g < w.heap.size ∧ ∀ k, k < l.length → w.cell? ⟨g, k * 2, none⟩ = some (.int .i64 (l[k]?.getD ⟨0, 0⟩).a) ∧ w.cell? ⟨g, k * 2 + 1, none⟩ = some (.int .i64 (l[k]?.getD ⟨0, 0⟩).b) ∧ w.frozen? ⟨g, k * 2, none⟩ = false ∧ w.frozen? ⟨g, k * 2 + 1, none⟩ = false
theorem RowR.below {w w' : World} {g : Nat} {l : List Rg} (h : RowR w g l) (hb : Below w.heap.size w w') : RowR w' g l :=
 ⟨Nat.lt_of_lt_of_le h.1 hb.size, fun k hk => by
  obtain ⟨h1, h2, h3, h4⟩ := h.2 k hk
  exact ⟨(hb.cell h.1).trans h1, (hb.cell h.1).trans h2, (hb.frozen h.1).trans h3, (hb.frozen h.1).trans h4⟩⟩
theorem put2R_cell (w : World) (g i : Nat) (s : Rg) (h0 : (w.cell? ⟨g, i * 2, none⟩).isSome = true) (h1 : (w.cell? ⟨g, i * 2 + 1, none⟩).isSome = true) (k j : Nat) (hj : j < 2) :
  (((w.setCell ⟨g, i * 2, none⟩ (.int .i64 s.a)).setCell ⟨g, i * 2 + 1, none⟩ (.int .i64 s.b))).cell? ⟨g, k * 2 + j, none⟩ = if k = i then s.cells[j]? else w.cell? ⟨g, k * 2 + j, none⟩ := by
 obtain ⟨u0, e0⟩ := Option.isSome_iff_exists.1 h0
 obtain ⟨u1, e1⟩ := Option.isSome_iff_exists.1 h1
 by_cases hk : k = i
 ·subst hk
  rw [if_pos rfl]
  rcases (by omega : j = 0 ∨ j = 1) with rfl | rfl
  ·rw [setCell_other _ _ _ _ _ _ (.inr (by omega)), Nat.add_zero, World.cell?_setCell_same _ _ _ e0]; rfl
  ·rw [World.cell?_setCell_same _ _ _ (u := u1) (by rw [setCell_other _ _ _ _ _ _ (.inr (by omega))]; exact e1)]; rfl
 ·rw [if_neg hk, setCell_other _ _ _ _ _ _ (.inr (by omega)), setCell_other _ _ _ _ _ _ (.inr (by omega))]
def put2AtR (w : World) (g i : Nat) (s : Rg) : World := (w.setCell ⟨g, i * 2, none⟩ (.int .i64 s.a)).setCell ⟨g, i * 2 + 1, none⟩ (.int .i64 s.b)
theorem RowR.put {w : World} {g : Nat} {l : List Rg} (h : RowR w g l) {i : Nat} (hi : i < l.length) (s : Rg) : RowR (put2AtR w g i s) g (l.set i s) := by
 obtain ⟨q0, q1, _, _⟩ := h.2 i hi
 have hc := put2R_cell w g i s (by rw [q0]; rfl) (by rw [q1]; rfl)
 refine ⟨by unfold put2AtR; simpa using h.1, fun k hk => ?_⟩
 rw [List.length_set] at hk
 obtain ⟨h1, h2, h3, h4⟩ := h.2 k hk
 have c0 := hc k 0 (by omega)
 have c1 := hc k 1 (by omega)
 rw [Nat.add_zero] at c0
 unfold put2AtR
 refine ⟨c0.trans ?_, c1.trans ?_, by simp only [setCell_frozen]; exact h3, by simp only [setCell_frozen]; exact h4⟩
 ·by_cases e : k = i
  ·subst e; rw [if_pos rfl, List.getElem?_set_self hk]; rfl
  ·rw [if_neg e, List.getElem?_set_ne (fun h => e h.symm)]; exact h1
 ·by_cases e : k = i
  ·subst e; rw [if_pos rfl, List.getElem?_set_self hk]; rfl
  ·rw [if_neg e, List.getElem?_set_ne (fun h => e h.symm)]; exact h2
theorem RowR.sl {w : World} {g : Nat} {l : List Rg} (h : RowR w g l) : Sl w w.heap.size (some ⟨g, 0, none⟩) (rv l) := by
 refine .inr ⟨g, 0, rfl, h.1, h.1, fun j u hu => ?_⟩
 have hj : j < (rv l).length := by
  rcases Nat.lt_or_ge j (rv l).length with h | h
  ·exact h
  ·rw [List.getElem?_eq_none h] at hu; cases hu
 rw [rv_len] at hj
 have hk : j / 2 < l.length := by omega
 have hs : l[j / 2]? = some (l[j / 2]'hk) := List.getElem?_eq_getElem hk
 have hg := rv_get l (j / 2) (j % 2) _ hs (by omega)
 rw [show j / 2 * 2 + j % 2 = j by omega, hu] at hg
 obtain ⟨h1, h2, _, _⟩ := h.2 (j / 2) hk
 rw [hs, Option.getD_some] at h1 h2
 rw [Nat.zero_add]
 rcases (by omega : j % 2 = 0 ∨ j % 2 = 1) with e | e
 ·rw [e] at hg
  rw [show j = j / 2 * 2 by omega, h1]; exact hg.symm
 ·rw [e] at hg
  rw [show j = j / 2 * 2 + 1 by omega, h2]; exact hg.symm
theorem RowR.take {w : World} {g : Nat} {l : List Rg} (h : RowR w g l) (n : Nat) : RowR w g (l.take n) := by
 refine ⟨h.1, fun k hk => ?_⟩
 rw [List.length_take] at hk
 rw [List.getElem?_take, if_pos (by omega)]
 exact h.2 k (by omega)
theorem OwnR.row2 {w : World} {base g c : Nat} {l : List Rg} (h : OwnR w base (.slice (some ⟨g, 0, none⟩) l.length c) l) : RowR w g l := by
 refine ⟨(h.lt g rfl).2, fun k hk => ?_⟩
 have hs : l[k]? = some (l[k]'hk) := List.getElem?_eq_getElem hk
 have g0 := rv_get l k 0 _ hs (by omega)
 have g1 := rv_get l k 1 _ hs (by omega)
 rw [Nat.add_zero] at g0
 have c0 := h.cellAt (k * 2) (by omega)
 have c1 := h.cellAt (k * 2 + 1) (by omega)
 rw [hs]
 exact ⟨c0.trans g0, c1.trans g1, h.frozenAt _, h.frozenAt _⟩
/-! ### clear -/
section
variable {ops : Array Oper} {rest : List Oper} {o : Oper} {a : Act} {Q : Exit → Act → World → Prop} {w : World} {s x : Operand}
theorem appR (hgd : o.guard = none) (ho : o.op = .call { callee := .builtin .append, args := #[s, x], argTypes := #[35, 35] })
  {base : Nat} {v : Value} {l : List Rg} (hown : OwnR w base v l) {B : Nat} {A : Option Addr} {m c : Nat} {k : List Rg} (hr : Sl w B A (rv k)) (hm : m = k.length)
  (hs : a.eval s = v) (hx : a.eval x = .slice A m c) (hl : l.length + k.length ≤ 1000000000) (hbase : base ≤ w.heap.size)
  (h : ∀ v' w', OwnR w' base v' (l ++ k) → w.grownBy w' v.ownBlock → (v'.ownBlock = v.ownBlock ∨ v'.ownBlock = some w.heap.size) → wpList Tryz.prog ops Q rest (a.put o.dst v') w') : wpList Tryz.prog ops Q (o :: rest) a w :=
 wpList_plain hgd fun _ hK => wp_appR ho hown hr hm hs hx hl hbase fun v' w' h2 h3 h4 => hK _ _ (h v' w' h2 h3 h4)
end
theorem OwnR.lower {w : World} {base base' : Nat} {v : Value} {l : List Rg} (h : OwnR w base v l) (hb : base' ≤ base) : OwnR w base' v l := by
 refine ⟨h.1, ?_⟩
 rcases h.2 with h' | ⟨g, cap, cur, e, hg, h'⟩
 ·exact .inl h'
 ·exact .inr ⟨g, cap, cur, e, Nat.le_trans hb hg, h'⟩
theorem OwnR.lit (w : World) (_ : TypeId) (x : Rg) : OwnR (w.alloc (.cells #[.int .i64 x.a, .int .i64 x.b] 58)) w.heap.size (.slice (some ⟨w.heap.size, 0, none⟩) 1 1) [x] :=
 World.ownsRow_lit (base := w.heap.size) (e := 58) (size := 2) w #[.int .i64 x.a, .int .i64 x.b] 1 (Nat.le_refl _) (by simp [maxLen]) rfl
theorem rgsize : ∃ i, Tryz.prog.info? 58 = some i ∧ i.size = 2 := by
 obtain ⟨i, hi, hz, hz1, hz2⟩ := info_parts rginfo
 exact ⟨i, hi, hz1⟩
theorem rv_drop (ls : List Rg) (k : Nat) : (rv ls).drop (k * 2) = rv (ls.drop k) := by
 induction ls generalizing k with
 | nil => simp [rv]
 | cons x t ih =>
  cases k with
  | zero => simp [rv]
  | succ k =>
   show (x.cells ++ rv t).drop ((k + 1) * 2) = rv (t.drop k)
   rw [← ih k, show (k + 1) * 2 = x.cells.length + k * 2 by simp [Rg.cells]; omega, List.drop_length_add_append]
/-- s[j:] -/
theorem sl_postR (A : Option Addr) (m c j : Nat) (hj : j ≤ m) (hc : m ≤ c) :
  ∃ A2, (∀ w, (Instr.sliceAt 35 (.slice A m c) (some (.int .i64 (j : Int))) none none).run Tryz.prog w = .ok (.slice A2 (m - j) (c - j)) w) ∧ ∀ (w : World) (B : Nat) (o : List Rg), o.length = m → Sl w B A (rv o) → Sl w B A2 (rv (o.drop j)) := by
 obtain ⟨i, hi, hs⟩ := rgsize
 refine ⟨if c = j then A else A.map (fun x => x.add (j * i.size)), fun w => ?_, fun w B o ho hS => ?_⟩
 ·simp [Instr.sliceAt, Instr.slice, run_underlying Tryz.underlying35, Instr.sliceBounds, Instr.sliceBound, asIntOf, sizeOf, typeInfo, hi]
  intro h; omega
 ·have h := hS.cut (j * 2) (c * 2) (by rw [rv_len]; omega)
  rw [rv_drop] at h
  rw [hs]
  by_cases e : c = j
  ·rw [if_pos e]; rw [if_pos (by omega)] at h; exact h
  ·rw [if_neg e]; rw [if_neg (by omega)] at h; exact h
theorem exec_postR {a : Act} {o : Oper} {x y : Operand} (ho : o.op = .slice 35 x (some y) none none) {A A2 : Option Addr} {m c j : Nat} (hx : a.eval x = .slice A m c) (hy : a.eval y = .int .i64 (j : Int))
  (h : ∀ w, (Instr.sliceAt 35 (.slice A m c) (some (.int .i64 (j : Int))) none none).run Tryz.prog w = .ok (.slice A2 (m - j) (c - j)) w) (w : World) :
  (execOp a.eval o).run Tryz.prog w = .ok (.value (.slice A2 (m - j) (c - j))) w := by
 simp [execOp, ho, hx, hy, h]
end Go.Proofs.YtaflikgdlkaefaaGreat
/- A block whose cells are known, one by one. -/
namespace Go.Proofs.YtaflikgdlkaefaaGreat
open Go.RowKit

def At (w : World) (g : Nat) (vs : List Value) : Prop := g < w.heap.size ∧ ∀ i v, vs[i]? = some v → w.cell? ⟨g, i, none⟩ = some v ∧ w.frozen? ⟨g, i, none⟩ = false
section
variable {w w' : World} {g g' : Nat} {vs us : List Value}
theorem At.lt (h : At w g vs) : g < w.heap.size := h.1
theorem At.c (h : At w g vs) (i : Nat) {v : Value} (hv : vs[i]? = some v) : w.cell? ⟨g, i, none⟩ = some v := (h.2 i v hv).1
theorem At.f (h : At w g vs) (i : Nat) {v : Value} (hv : vs[i]? = some v) : w.frozen? ⟨g, i, none⟩ = false := (h.2 i v hv).2
theorem At.e (h : At w g vs) (i : Nat) {v : Value} (hv : vs[i]? = some v) : ∀ W, KB w.heap W → W.cell? ⟨g, i, none⟩ = some v := cellB (h.c i hv)
theorem At.belowB {B : Nat} (h : At w g vs) (hg : g < B) (hb : Below B w w') (hs : w.heap.size ≤ w'.heap.size) : At w' g vs :=
 ⟨Nat.lt_of_lt_of_le h.1 hs, fun i v hv => ⟨(hb.cell hg).trans (h.c i hv), (hb.frozen hg).trans (h.f i hv)⟩⟩
theorem At.below (h : At w g vs) (hb : Below w.heap.size w w') : At w' g vs := h.belowB h.1 hb hb.size
theorem At.drew (h : At w g vs) : At w.drew g vs := h
theorem At.alloc (h : At w g vs) (o : Obj) : At (w.alloc o) g vs := h.below (balloc (Below.refl _ _) o)
theorem At.new (w : World) (t : TypeId) (cs : Array Value) : At (w.alloc (.cells cs t)) w.heap.size cs.toList := by
 refine ⟨by simp, fun i v hv => ?_⟩
 obtain ⟨b, o, e, _, _, h⟩ := (Sl.new w t cs (0, 0)).at_ (k := i) (List.getElem?_eq_some_iff.1 hv).1
 cases e
 have := h i v hv
 rw [Nat.zero_add] at this
 exact ⟨this, by rw [frozen?_alloc_cells]; simp [World.frozen?]⟩
theorem At.set_other (h : At w g vs) (o : Nat) (v : Value) (hne : g' ≠ g) : At (w.setCell ⟨g', o, none⟩ v) g vs := by
 refine ⟨by simpa using h.1, fun i u hu => ⟨?_, ?_⟩⟩
 ·rw [World.cell?_setCell_other _ _ _ _ (by intro e; injection e with e1 _; exact hne e1)]
  exact h.c i hu
 ·have : (w.setCell ⟨g', o, none⟩ v).frozen? ⟨g, i, none⟩ = w.frozen? ⟨g, i, none⟩ := World.frozen?_setCells g' [v] o w _
  rw [this]; exact h.f i hu
theorem At.set (h : At w g vs) (o : Nat) (v : Value) (ho : o < vs.length) : At (w.setCell ⟨g, o, none⟩ v) g (vs.set o v) := by
 have hf : ∀ x, (w.setCell ⟨g, o, none⟩ v).frozen? x = w.frozen? x := fun x => World.frozen?_setCells g [v] o w x
 refine ⟨by simpa using h.1, fun i u hu => ?_⟩
 by_cases hi : o = i
 ·subst hi
  rw [List.getElem?_set_self ho] at hu
  cases hu
  refine ⟨World.cell?_setCell_same _ _ _ (h.c o (List.getElem?_eq_getElem ho)), ?_⟩
  rw [hf]; exact h.f o (List.getElem?_eq_getElem ho)
 ·rw [List.getElem?_set_ne hi] at hu
  refine ⟨?_, by rw [hf]; exact h.f i hu⟩
  rw [World.cell?_setCell_other _ _ _ _ (by intro e; injection e with _ e2; exact hi e2)]
  exact h.c i hu
/-- cells stored one behind another -/
def putL (w : World) (g : Nat) : Nat → List Value → World
 | _, [] => w
 | i, v :: vs => putL (w.setCell ⟨g, i, none⟩ v) g (i + 1) vs
theorem At.grown (h : At w g vs) {row : Option Nat} (hg : w.grownBy w' row) (hne : row ≠ some g) : At w' g vs := by
 have hb := hg.block g h.1 (fun e => hne e.symm)
 exact ⟨Nat.lt_of_lt_of_le h.1 hg.size, fun i v hv => ⟨(World.cell?_of_block (w := w) hb).trans (h.c i hv), (World.frozen?_of_block (w := w) hb).trans (h.f i hv)⟩⟩
end
theorem At.sl {w : World} {g : Nat} {vs : List Value} (h : At w g vs) : Sl w w.heap.size (some ⟨g, 0, none⟩) vs := by
 refine .inr ⟨g, 0, rfl, h.1, h.1, fun j u hu => ?_⟩
 rw [Nat.zero_add]
 exact h.c j hu
end Go.Proofs.YtaflikgdlkaefaaGreat
/- A region that draws its order, held by whatever is said of memory. -/
namespace Go.Proofs.YtaflikgdlkaefaaGreat
open Go.RowKit

def AtS (g : Nat) (vs : List Value) (W : World) : Prop := At W g vs
theorem AtS.e {g : Nat} {vs : List Value} (i : Nat) {v : Value} (hv : vs[i]? = some v) : ∀ W, AtS g vs W → W.cell? ⟨g, i, none⟩ = some v := fun _ h => h.c i hv
def wpS (P : Program) (ops : Array Oper) (Q : Exit → Act → World → Prop) (S : World → Prop) (fuel : Nat) (listed : Array Bool) (a : Act) (w : World) : Prop := wpAnyH P .any ops Q S fuel listed a w
section
variable {P : Program} {ops : Array Oper} {Q : Exit → Act → World → Prop}
theorem bstartS (S : World → Prop) {id : Nat} {a : Act} {w : World} (hm : P.follows .mixedOrders = true) (hh : wpS P ops Q S ops.size (Array.replicate ops.size false) a w.drew) : (Code.region id ops true).wp P Q a w := wp_region_held hm hh
theorem btakeS (i : Nat) {oi : Oper} {v : Value} {S : World → Prop} {fuel : Nat} {listed : Array Bool} {a : Act} {w : World} (hi : ops[i]? = some oi) (hok : okTake ops listed i = true)
  (hQ : ∀ c a w, Q (.panic c) (a.put oi.dst v) w → Q (.panic c) a w) (hS : S w)
  (hy : (Region.wanted oi (yielded ops a.tmps) = true ∧ ∀ W, S W → (execOp a.eval oi).run P W = .ok (.value v) W) ∨ (Region.wanted oi (yielded ops a.tmps) = false ∧ v = undef))
  (hr : wpS P ops Q S fuel (listed.setIfInBounds i true) (a.put oi.dst v) w) : wpS P ops Q S (fuel + 1) listed a w := by
 simp only [okTake, Bool.and_eq_true] at hok
 exact wpAnyH_take hi hok.1.1 hok.1.2 hok.2 hQ hy hS hr
theorem bopS (i : Nat) {o : Oper} {S : World → Prop} {fuel : Nat} {listed : Array Bool} {a : Act} {w : World} (hi : ops[i]? = some o) (hok : okOp ops listed i = true)
  (hw : Region.wanted o (yielded ops a.tmps) = true)
  (hr : ∀ K : Act → World → Prop, Shut (∀ a' w', S w' → wpS P ops Q S fuel (listed.setIfInBounds i true) a' w' → K a' w') → o.wp P a w K Q) : wpS P ops Q S (fuel + 1) listed a w := by
 have hok' : Region.ready .any ops listed = [i] := by simpa [okOp] using hok
 refine wpAnyH_all hok' (by simp) fun j hj => ?_
 obtain rfl : j = i := by simpa using hj
 unfold wpOp
 simp only [hi, hw, if_true]
 exact .inl (hr _ (fun a' w' hk hb => ⟨hk, hb⟩))
theorem bdoneS {S : World → Prop} {fuel : Nat} {listed : Array Bool} {a : Act} {w : World} (hr : Region.ready .any ops listed = []) (hq : Q .normal a w) : wpS P ops Q S fuel listed a w := wpAnyH_done hr hq fuel
end
end Go.Proofs.YtaflikgdlkaefaaGreat
/- Ranges: put, a range behind others. -/
namespace Go.Proofs.YtaflikgdlkaefaaGreat
open Go.RowKit Go.Proofs.YtaflikgdlkaefaaGreat.Pl Go.Proofs.YtaflikgdlkaefaaGreat.Sp
set_option maxRecDepth 20000

theorem rv_set_last (p : List Rg) (x : Rg) (z : Int) : (rv (p ++ [x])).set (p.length * 2 + 1) (.int .i64 z) = rv (p ++ [⟨x.a, z⟩]) := by
 rw [rv_append, rv_append, List.set_append, if_neg (by rw [rv_len]; omega), rv_len, show p.length * 2 + 1 - p.length * 2 = 1 by omega]
 rfl
theorem OwnR.setLast {w : World} {base g n cap : Nat} {p : List Rg} {x : Rg} (h : OwnR w base (.slice (some ⟨g, 0, none⟩) n cap) (p ++ [x])) (z : Int) :
  OwnR (w.setCell ⟨g, p.length * 2 + 1, none⟩ (.int .i64 z)) base (.slice (some ⟨g, 0, none⟩) n cap) (p ++ [⟨x.a, z⟩]) ∧ w.grownBy (w.setCell ⟨g, p.length * 2 + 1, none⟩ (.int .i64 z)) (some g) := by
 have hn : n = (p ++ [x]).length := by
  rcases h.2 with ⟨h', _⟩ | ⟨_, _, _, h', _⟩
  ·simp at h'
  ·simp only [Value.slice.injEq] at h'; exact h'.2.1
 subst hn
 have := h.stored (p.length * 2 + 1) (.int .i64 z)
 rw [rv_set_last] at this
 have e : (p ++ [x]).length = (p ++ [(⟨x.a, z⟩ : Rg)]).length := by simp
 refine ⟨?_, this.2⟩
 have h1 := this.1
 simp only [OwnR, ← e]
 exact h1
theorem OwnR.row2n {w : World} {base g c n : Nat} {l : List Rg} (h : OwnR w base (.slice (some ⟨g, 0, none⟩) n c) l) : RowR w g l := by
 have hn : n = l.length := by
  rcases h.2 with ⟨h', _⟩ | ⟨_, _, _, h', _⟩
  ·simp at h'
  ·simp only [Value.slice.injEq] at h'; exact h'.2.1
 subst hn
 exact h.row2
theorem putR_snoc (p : List Rg) (x r : Rg) : putR (p ++ [x]) r = if r.a ≤ x.b + 1 then p ++ [⟨x.a, max x.b r.b⟩] else (p ++ [x]) ++ [r] := by
 unfold putR
 simp
theorem putR_nil (r : Rg) : putR [] r = [r] := rfl
theorem boxR (w : World) (r : Rg) : Below w.heap.size w (w.alloc (.cells #[.int .i64 r.a, .int .i64 r.b] 58)) := balloc (Below.refl _ _) _
set_option maxRecDepth 100000 in
set_option maxHeartbeats 3200000 in
theorem RgPut_any (W0 w : World) (v : Value) (o : List Rg) (r : Rg) (hown : OwnR w W0.heap.size v o) (hW : Below W0.heap.size W0 w) (ho : ∀ x, o.getLast? = some x → 1 ≤ x.b ∧ x.b ≤ 1099511627775) (hl : o.length < 1000000000) :
  Calls Tryz.prog 85 #[v, r.v] w fun e w' => ∃ v', e = .returned v' ∧ OwnR w' W0.heap.size v' (putR o r) ∧ Below W0.heap.size W0 w' := by
 unfold Rg.v
 have hbw := hW.size
 have hsp : o = [] ∨ ∃ p x, o = p ++ [x] := by
  rcases List.eq_nil_or_concat o with h | ⟨p, x, h⟩
  ·exact .inl h
  ·exact .inr ⟨p, x, by rw [h, List.concat_eq_append]⟩
 rcases hsp with rfl | ⟨p, x, rfl⟩
 ·have hq := putR_nil r
  generalize putR [] r = q at *
  subst hq
  obtain ⟨A, c, rfl, h1, h2, h3, _⟩ := hown.form
  have HQ := Lib.hid (putR_nil r)
  have hown1 := hown.below (boxR w r)
  have hbox := StandsR.new w 58 r
  have hW1 := balloc hW (.cells #[.int .i64 r.a, .int .i64 r.b] 58)
  go_enter Tryz.func85, Tryz.ntmps85
  go_wp2_with fail
  refine bstart (by kernel_rfl) ?_
  refine btake 0 (oi := _) (v := ?_) (by simp only [List.getElem?_toArray, List.getElem?_cons_zero]; rfl) (by kernel_rfl) (by exact fun _ _ _ h => h) (by first | assumption | exact KB.refl _) (.inl ⟨by rfl, fun W hW => ?_⟩) ?_; rotate_left
  ·(go_simp; first | done | with_reducible rfl)
  try simp only [Act.put, List.setIfInBounds_toArray, List.set_cons_zero, List.set_cons_succ]
  refine btake 1 (oi := _) (v := ?_) (by simp only [getElem?_toArray, getElem?_cons_succ, getElem?_cons_zero]; rfl) (by kernel_rfl) (by exact fun _ _ _ h => h) (by first | assumption | exact KB.refl _) (.inl ⟨by rfl, fun W hW => ?_⟩) ?_; rotate_left
  ·(go_simp; first | done | with_reducible rfl)
  try simp only [Act.put, List.setIfInBounds_toArray, List.set_cons_zero, List.set_cons_succ]
  refine btake 2 (oi := _) (v := ?_) (by simp only [getElem?_toArray, getElem?_cons_succ, getElem?_cons_zero]; rfl) (by kernel_rfl) (by exact fun _ _ _ h => h) (by first | assumption | exact KB.refl _) (.inl ⟨by rfl, fun W hW => ?_⟩) ?_; rotate_left
  ·(go_simp; first | done | with_reducible rfl)
  try simp only [Act.put, List.setIfInBounds_toArray, List.set_cons_zero, List.set_cons_succ]
  refine btake 3 (oi := _) (v := undef) (by simp only [getElem?_toArray, getElem?_cons_succ, getElem?_cons_zero]; rfl) (by kernel_rfl) (by exact fun _ _ _ h => h) (by first | assumption | exact KB.refl _) (.inr ⟨by rfl, rfl⟩) ?_
  try simp only [Act.put, List.setIfInBounds_toArray, List.set_cons_zero, List.set_cons_succ]
  refine btake 4 (oi := _) (v := undef) (by simp only [getElem?_toArray, getElem?_cons_succ, getElem?_cons_zero]; rfl) (by kernel_rfl) (by exact fun _ _ _ h => h) (by first | assumption | exact KB.refl _) (.inr ⟨by rfl, rfl⟩) ?_
  try simp only [Act.put, List.setIfInBounds_toArray, List.set_cons_zero, List.set_cons_succ]
  refine btake 5 (oi := _) (v := undef) (by simp only [getElem?_toArray, getElem?_cons_succ, getElem?_cons_zero]; rfl) (by kernel_rfl) (by exact fun _ _ _ h => h) (by first | assumption | exact KB.refl _) (.inr ⟨by rfl, rfl⟩) ?_
  try simp only [Act.put, List.setIfInBounds_toArray, List.set_cons_zero, List.set_cons_succ]
  refine btake 6 (oi := _) (v := undef) (by simp only [getElem?_toArray, getElem?_cons_succ, getElem?_cons_zero]; rfl) (by kernel_rfl) (by exact fun _ _ _ h => h) (by first | assumption | exact KB.refl _) (.inr ⟨by rfl, rfl⟩) ?_
  try simp only [Act.put, List.setIfInBounds_toArray, List.set_cons_zero, List.set_cons_succ]
  refine btake 7 (oi := _) (v := undef) (by simp only [getElem?_toArray, getElem?_cons_succ, getElem?_cons_zero]; rfl) (by kernel_rfl) (by exact fun _ _ _ h => h) (by first | assumption | exact KB.refl _) (.inr ⟨by rfl, rfl⟩) ?_
  try simp only [Act.put, List.setIfInBounds_toArray, List.set_cons_zero, List.set_cons_succ]
  refine btake 8 (oi := _) (v := undef) (by simp only [getElem?_toArray, getElem?_cons_succ, getElem?_cons_zero]; rfl) (by kernel_rfl) (by exact fun _ _ _ h => h) (by first | assumption | exact KB.refl _) (.inr ⟨by rfl, rfl⟩) ?_
  try simp only [Act.put, List.setIfInBounds_toArray, List.set_cons_zero, List.set_cons_succ]
  refine btake 9 (oi := _) (v := undef) (by simp only [getElem?_toArray, getElem?_cons_succ, getElem?_cons_zero]; rfl) (by kernel_rfl) (by exact fun _ _ _ h => h) (by first | assumption | exact KB.refl _) (.inr ⟨by rfl, rfl⟩) ?_
  try simp only [Act.put, List.setIfInBounds_toArray, List.set_cons_zero, List.set_cons_succ]
  refine btake 10 (oi := _) (v := undef) (by simp only [getElem?_toArray, getElem?_cons_succ, getElem?_cons_zero]; rfl) (by kernel_rfl) (by exact fun _ _ _ h => h) (by first | assumption | exact KB.refl _) (.inr ⟨by rfl, rfl⟩) ?_
  try simp only [Act.put, List.setIfInBounds_toArray, List.set_cons_zero, List.set_cons_succ]
  refine btake 11 (oi := _) (v := undef) (by simp only [getElem?_toArray, getElem?_cons_succ, getElem?_cons_zero]; rfl) (by kernel_rfl) (by exact fun _ _ _ h => h) (by first | assumption | exact KB.refl _) (.inr ⟨by rfl, rfl⟩) ?_
  try simp only [Act.put, List.setIfInBounds_toArray, List.set_cons_zero, List.set_cons_succ]
  refine btake 12 (oi := _) (v := undef) (by simp only [getElem?_toArray, getElem?_cons_succ, getElem?_cons_zero]; rfl) (by kernel_rfl) (by exact fun _ _ _ h => h) (by first | assumption | exact KB.refl _) (.inr ⟨by rfl, rfl⟩) ?_
  try simp only [Act.put, List.setIfInBounds_toArray, List.set_cons_zero, List.set_cons_succ]
  refine btake 13 (oi := _) (v := ?_) (by simp only [getElem?_toArray, getElem?_cons_succ, getElem?_cons_zero]; rfl) (by kernel_rfl) (by exact fun _ _ _ h => h) (by first | assumption | exact KB.refl _) (.inl ⟨by rfl, fun W hW => ?_⟩) ?_; rotate_left
  ·(go_simp; first | done | with_reducible rfl)
  try simp only [Act.put, List.setIfInBounds_toArray, List.set_cons_zero, List.set_cons_succ]
  refine bdone (by kernel_rfl) ?_
  have hst2 := hbox.below (Below.refl _ _).drew
  have how2 := hown1.below (Below.refl _ _).drew
  have hbz := hW1.drew
  generalize (w.alloc (.cells #[.int .i64 r.a, .int .i64 r.b] 58)).drew = wz at hst2 how2 hbz ⊢
  clear hown hown1 hbox hW1
  have m0 := hst2.2.1
  have m1 := hst2.2.2.1
  have how3 := how2.below (balloc (Below.refl _ _) (.cells #[.int .i64 r.a, .int .i64 r.b] 58))
  have hbz3 := hbz.alloc hbz.size (.cells #[.int .i64 r.a, .int .i64 r.b] 58)
  have hSl : Sl (wz.alloc (.cells #[.int .i64 r.a, .int .i64 r.b] 58)) (wz.heap.size + 1) (some ⟨wz.heap.size, 0, none⟩) (rv [r]) := Sl.new wz 58 #[.int .i64 r.a, .int .i64 r.b] (0, 0)
  clear hst2 how2
  go_wp2_with (at_builtin; refine appR rfl rfl how3 hSl rfl rfl rfl (by first | (have := HL.out; rw [this.2, List.length_singleton]; omega) | simp) hbz3.size ?_; intro v7 w7 h7 hg7 hat7)
  go_ret
  exact ⟨v7, rfl, by first | exact h7 | (rw [HQ.out]; exact h7), own_belowR hbz3 hbz3.size how3 hg7⟩
 ·obtain ⟨hx1, hx2⟩ := ho x (by simp)
  obtain ⟨g, cap, hv, hg1, hg2, hcp, hcm⟩ := hown.head (by simp)
  have hnl : (p ++ [x]).length = p.length + 1 := by simp
  rw [hnl] at hv hcp
  subst hv
  have hown1 := hown.below (boxR w r)
  have hbox := StandsR.new w 58 r
  have hW1 := balloc hW (.cells #[.int .i64 r.a, .int .i64 r.b] 58)
  have hq := putR_snoc p x r
  obtain ⟨c0, c1, f0, f1⟩ := hown1.row2n.2 p.length (by simp)
  rw [show (p ++ [x])[p.length]?.getD ⟨0, 0⟩ = x by simp] at c0 c1
  have m0 := hbox.2.1
  have m1 := hbox.2.2.1
  have w1' : IntKind.i64.wrap (x.b + 1) = x.b + 1 := by rw [IntKind.wrap_i64]; omega
  have w2' : IntKind.i64.wrap (p.length : Int) = (p.length : Int) := by rw [IntKind.wrap_i64]; simp at hl; omega
  have d1 : decide ((0 : Int) < (p.length : Int) + 1) = true := by rw [decide_eq_true_eq]; omega
  have n0 : (0 : Int) ≤ (p.length : Int) := by omega
  have n1 : (p.length : Int) < (p.length : Int) + 1 := by omega
  have HL := Lib.hid (And.intro hl hnl)
  clear hl hnl
  have q0 := cellB m0
  have q1 := cellB m1
  have q2 := cellB c1
  by_cases hc : r.a ≤ x.b + 1
  ·have d2 : decide (r.a ≤ x.b + 1) = true := by rw [decide_eq_true_eq]; exact hc
   rw [if_pos hc] at hq
   have HQ := Lib.hid hq
   clear hq hc ho
   go_enter Tryz.func85, Tryz.ntmps85
   go_wp2_with fail
   refine bstart (by kernel_rfl) ?_
   refine btake 0 (oi := _) (v := ?_) (by simp only [List.getElem?_toArray, List.getElem?_cons_zero]; rfl) (by kernel_rfl) (by exact fun _ _ _ h => h) (by first | assumption | exact KB.refl _) (.inl ⟨by rfl, fun W hW => ?_⟩) ?_; rotate_left
   ·(go_simp; first | done | with_reducible rfl)
   try simp only [Act.put, List.setIfInBounds_toArray, List.set_cons_zero, List.set_cons_succ]
   refine btake 1 (oi := _) (v := ?_) (by simp only [getElem?_toArray, getElem?_cons_succ, getElem?_cons_zero]; rfl) (by kernel_rfl) (by exact fun _ _ _ h => h) (by first | assumption | exact KB.refl _) (.inl ⟨by rfl, fun W hW => ?_⟩) ?_; rotate_left
   ·(go_simp; first | done | with_reducible rfl)
   try simp only [Act.put, List.setIfInBounds_toArray, List.set_cons_zero, List.set_cons_succ]
   refine btake 2 (oi := _) (v := ?_) (by simp only [getElem?_toArray, getElem?_cons_succ, getElem?_cons_zero]; rfl) (by kernel_rfl) (by exact fun _ _ _ h => h) (by first | assumption | exact KB.refl _) (.inl ⟨by rfl, fun W hW => ?_⟩) ?_; rotate_left
   ·(go_simp; first | done | with_reducible rfl)
   try simp only [Act.put, List.setIfInBounds_toArray, List.set_cons_zero, List.set_cons_succ]
   refine btake 3 (oi := _) (v := ?_) (by simp only [getElem?_toArray, getElem?_cons_succ, getElem?_cons_zero]; rfl) (by kernel_rfl) (by exact fun _ _ _ h => h) (by first | assumption | exact KB.refl _) (.inl ⟨by rfl, fun W hW => ?_⟩) ?_; rotate_left
   ·(go_simp; first | done | with_reducible rfl)
   try simp only [Act.put, List.setIfInBounds_toArray, List.set_cons_zero, List.set_cons_succ]
   refine btake 4 (oi := _) (v := ?_) (by simp only [getElem?_toArray, getElem?_cons_succ, getElem?_cons_zero]; rfl) (by kernel_rfl) (by exact fun _ _ _ h => h) (by first | assumption | exact KB.refl _) (.inl ⟨by rfl, fun W hW => ?_⟩) ?_; rotate_left
   ·(go_simp; first | done | with_reducible rfl)
   try simp only [Act.put, List.setIfInBounds_toArray, List.set_cons_zero, List.set_cons_succ]
   refine btake 5 (oi := _) (v := ?_) (by simp only [getElem?_toArray, getElem?_cons_succ, getElem?_cons_zero]; rfl) (by kernel_rfl) (by exact fun _ _ _ h => h) (by first | assumption | exact KB.refl _) (.inl ⟨by rfl, fun W hW => ?_⟩) ?_; rotate_left
   ·(go_simp; first | done | with_reducible rfl)
   try simp only [Act.put, List.setIfInBounds_toArray, List.set_cons_zero, List.set_cons_succ]
   refine btake 6 (oi := _) (v := ?_) (by simp only [getElem?_toArray, getElem?_cons_succ, getElem?_cons_zero]; rfl) (by kernel_rfl) (by exact fun _ _ _ h => h) (by first | assumption | exact KB.refl _) (.inl ⟨by rfl, fun W hW => ?_⟩) ?_; rotate_left
   ·(go_simp; first | done | with_reducible rfl)
   try simp only [Act.put, List.setIfInBounds_toArray, List.set_cons_zero, List.set_cons_succ]
   refine btake 7 (oi := _) (v := ?_) (by simp only [getElem?_toArray, getElem?_cons_succ, getElem?_cons_zero]; rfl) (by kernel_rfl) (by exact fun _ _ _ h => h) (by first | assumption | exact KB.refl _) (.inl ⟨by rfl, fun W hW => ?_⟩) ?_; rotate_left
   ·(go_simp; first | done | with_reducible rfl)
   try simp only [Act.put, List.setIfInBounds_toArray, List.set_cons_zero, List.set_cons_succ]
   refine btake 8 (oi := _) (v := ?_) (by simp only [getElem?_toArray, getElem?_cons_succ, getElem?_cons_zero]; rfl) (by kernel_rfl) (by exact fun _ _ _ h => h) (by first | assumption | exact KB.refl _) (.inl ⟨by rfl, fun W hW => ?_⟩) ?_; rotate_left
   ·(go_simp; first | done | with_reducible rfl)
   try simp only [Act.put, List.setIfInBounds_toArray, List.set_cons_zero, List.set_cons_succ]
   refine btake 9 (oi := _) (v := ?_) (by simp only [getElem?_toArray, getElem?_cons_succ, getElem?_cons_zero]; rfl) (by kernel_rfl) (by exact fun _ _ _ h => h) (by first | assumption | exact KB.refl _) (.inl ⟨by rfl, fun W hW => ?_⟩) ?_; rotate_left
   ·(go_simp; first | done | with_reducible rfl)
   try simp only [Act.put, List.setIfInBounds_toArray, List.set_cons_zero, List.set_cons_succ]
   refine btake 10 (oi := _) (v := ?_) (by simp only [getElem?_toArray, getElem?_cons_succ, getElem?_cons_zero]; rfl) (by kernel_rfl) (by exact fun _ _ _ h => h) (by first | assumption | exact KB.refl _) (.inl ⟨by rfl, fun W hW => ?_⟩) ?_; rotate_left
   ·(go_simp; first | done | with_reducible rfl)
   try simp only [Act.put, List.setIfInBounds_toArray, List.set_cons_zero, List.set_cons_succ]
   refine btake 11 (oi := _) (v := ?_) (by simp only [getElem?_toArray, getElem?_cons_succ, getElem?_cons_zero]; rfl) (by kernel_rfl) (by exact fun _ _ _ h => h) (by first | assumption | exact KB.refl _) (.inl ⟨by rfl, fun W hW => ?_⟩) ?_; rotate_left
   ·(go_simp; first | done | with_reducible rfl)
   try simp only [Act.put, List.setIfInBounds_toArray, List.set_cons_zero, List.set_cons_succ]
   refine btake 12 (oi := _) (v := ?_) (by simp only [getElem?_toArray, getElem?_cons_succ, getElem?_cons_zero]; rfl) (by kernel_rfl) (by exact fun _ _ _ h => h) (by first | assumption | exact KB.refl _) (.inl ⟨by rfl, fun W hW => ?_⟩) ?_; rotate_left
   ·(go_simp; first | done | with_reducible rfl)
   try simp only [Act.put, List.setIfInBounds_toArray, List.set_cons_zero, List.set_cons_succ]
   refine btake 13 (oi := _) (v := ?_) (by simp only [getElem?_toArray, getElem?_cons_succ, getElem?_cons_zero]; rfl) (by kernel_rfl) (by exact fun _ _ _ h => h) (by first | assumption | exact KB.refl _) (.inl ⟨by rfl, fun W hW => ?_⟩) ?_; rotate_left
   ·(go_simp; first | done | with_reducible rfl)
   try simp only [Act.put, List.setIfInBounds_toArray, List.set_cons_zero, List.set_cons_succ]
   refine bdone (by kernel_rfl) ?_
   have hA := (At.new w 58 #[.int .i64 r.a, .int .i64 r.b]).drew
   have how2 := hown1.below (Below.refl _ _).drew
   have hbz := hW1.drew
   have hgb : g ≠ w.heap.size := by omega
   generalize (w.alloc (.cells #[.int .i64 r.a, .int .i64 r.b] 58)).drew = w1 at hA how2 hbz ⊢
   generalize w.heap.size = gb at hA hgb ⊢
   clear hown hown1 hbox hW1 m0 m1 q0 q1 q2 c0 c1 f0 f1
   obtain ⟨c0, c1, f0, f1⟩ := how2.row2n.2 p.length (by simp)
   rw [show (p ++ [x])[p.length]?.getD ⟨0, 0⟩ = x by simp] at c0 c1
   have hS0 : AtS gb [.int .i64 r.a, .int .i64 r.b] w1.drew := hA.drew
   have e1 := AtS.e (g := gb) (vs := [.int .i64 r.a, .int .i64 r.b]) 1 rfl
   obtain ⟨z, hz⟩ : ∃ z, (if x.b < r.b then r.b else x.b) = z := ⟨_, rfl⟩
   have HZ := Lib.hid (show max x.b r.b = z by rw [← hz]; split <;> omega)
   have hzm : max x.b r.b = z := HZ.out
   obtain ⟨hst, hgr⟩ := how2.setLast z
   go_wp2_with fail
   refine bstartS (AtS gb [.int .i64 r.a, .int .i64 r.b]) (by kernel_rfl) ?_
   refine btakeS 0 (oi := _) (v := ?_) (by simp only [List.getElem?_toArray, List.getElem?_cons_zero]; rfl) (by kernel_rfl) (by exact fun _ _ _ h => h) (by first | assumption | exact KB.refl _) (.inl ⟨by rfl, fun W hW => ?_⟩) ?_; rotate_left
   ·(go_simp; first | done | with_reducible rfl)
   try simp only [Act.put, List.setIfInBounds_toArray, List.set_cons_zero, List.set_cons_succ]
   refine btakeS 1 (oi := _) (v := ?_) (by simp only [getElem?_toArray, getElem?_cons_succ, getElem?_cons_zero]; rfl) (by kernel_rfl) (by exact fun _ _ _ h => h) (by first | assumption | exact KB.refl _) (.inl ⟨by rfl, fun W hW => ?_⟩) ?_; rotate_left
   ·(go_simp; first | done | with_reducible rfl)
   try simp only [Act.put, List.setIfInBounds_toArray, List.set_cons_zero, List.set_cons_succ]
   refine btakeS 2 (oi := _) (v := ?_) (by simp only [getElem?_toArray, getElem?_cons_succ, getElem?_cons_zero]; rfl) (by kernel_rfl) (by exact fun _ _ _ h => h) (by first | assumption | exact KB.refl _) (.inl ⟨by rfl, fun W hW => ?_⟩) ?_; rotate_left
   ·(go_simp; first | done | with_reducible rfl)
   try simp only [Act.put, List.setIfInBounds_toArray, List.set_cons_zero, List.set_cons_succ]
   refine btakeS 3 (oi := _) (v := ?_) (by simp only [getElem?_toArray, getElem?_cons_succ, getElem?_cons_zero]; rfl) (by kernel_rfl) (by exact fun _ _ _ h => h) (by first | assumption | exact KB.refl _) (.inl ⟨by rfl, fun W hW => ?_⟩) ?_; rotate_left
   ·(go_simp; first | done | with_reducible rfl)
   try simp only [Act.put, List.setIfInBounds_toArray, List.set_cons_zero, List.set_cons_succ]
   refine btakeS 4 (oi := _) (v := ?_) (by simp only [getElem?_toArray, getElem?_cons_succ, getElem?_cons_zero]; rfl) (by kernel_rfl) (by exact fun _ _ _ h => h) (by first | assumption | exact KB.refl _) (.inl ⟨by rfl, fun W hW => ?_⟩) ?_; rotate_left
   ·(go_simp; first | done | with_reducible rfl)
   try simp only [Act.put, List.setIfInBounds_toArray, List.set_cons_zero, List.set_cons_succ]
   refine btakeS 5 (oi := _) (v := ?_) (by simp only [getElem?_toArray, getElem?_cons_succ, getElem?_cons_zero]; rfl) (by kernel_rfl) (by exact fun _ _ _ h => h) (by first | assumption | exact KB.refl _) (.inl ⟨by rfl, fun W hW => ?_⟩) ?_; rotate_left
   ·(go_simp; first | done | with_reducible rfl)
   try simp only [Act.put, List.setIfInBounds_toArray, List.set_cons_zero, List.set_cons_succ]
   refine btakeS 6 (oi := _) (v := ?_) (by simp only [getElem?_toArray, getElem?_cons_succ, getElem?_cons_zero]; rfl) (by kernel_rfl) (by exact fun _ _ _ h => h) (by first | assumption | exact KB.refl _) (.inl ⟨by rfl, fun W hW => ?_⟩) ?_; rotate_left
   ·(go_simp; first | done | with_reducible rfl)
   try simp only [Act.put, List.setIfInBounds_toArray, List.set_cons_zero, List.set_cons_succ]
   refine btakeS 7 (oi := _) (v := ?_) (by simp only [getElem?_toArray, getElem?_cons_succ, getElem?_cons_zero]; rfl) (by kernel_rfl) (by exact fun _ _ _ h => h) (by first | assumption | exact KB.refl _) (.inl ⟨by rfl, fun W hW => ?_⟩) ?_; rotate_left
   ·(go_simp; first | done | with_reducible rfl)
   try simp only [Act.put, List.setIfInBounds_toArray, List.set_cons_zero, List.set_cons_succ]
   refine btakeS 9 (oi := _) (v := ?_) (by simp only [getElem?_toArray, getElem?_cons_succ, getElem?_cons_zero]; rfl) (by kernel_rfl) (by exact fun _ _ _ h => h) (by first | assumption | exact KB.refl _) (.inl ⟨by rfl, fun W hW => ?_⟩) ?_; rotate_left
   ·(go_simp; first | done | with_reducible rfl)
   try simp only [Act.put, List.setIfInBounds_toArray, List.set_cons_zero, List.set_cons_succ]
   refine btakeS 10 (oi := _) (v := ?_) (by simp only [getElem?_toArray, getElem?_cons_succ, getElem?_cons_zero]; rfl) (by kernel_rfl) (by exact fun _ _ _ h => h) (by first | assumption | exact KB.refl _) (.inl ⟨by rfl, fun W hW => ?_⟩) ?_; rotate_left
   ·(go_simp; first | done | with_reducible rfl)
   try simp only [Act.put, List.setIfInBounds_toArray, List.set_cons_zero, List.set_cons_succ]
   refine bopS 8 (o := _) (by simp only [getElem?_toArray, getElem?_cons_succ, getElem?_cons_zero]; rfl) (by kernel_rfl) (by rfl) (fun K hK => ?_)
   go_simp
   have hkb := hS0
   refine hK.out _ _ hkb ?_; clear hK K
   try simp only [Act.put, List.setIfInBounds_toArray, List.set_cons_zero, List.set_cons_succ]
   refine btakeS 11 (oi := _) (v := ?_) (by simp only [getElem?_toArray, getElem?_cons_succ, getElem?_cons_zero]; rfl) (by kernel_rfl) (by exact fun _ _ _ h => h) (by first | assumption | exact KB.refl _) (.inl ⟨by rfl, fun W hW => ?_⟩) ?_; rotate_left
   ·(go_simp; first | done | with_reducible rfl)
   try simp only [Act.put, List.setIfInBounds_toArray, List.set_cons_zero, List.set_cons_succ]
   refine btakeS 12 (oi := _) (v := ?_) (by simp only [getElem?_toArray, getElem?_cons_succ, getElem?_cons_zero]; rfl) (by kernel_rfl) (by exact fun _ _ _ h => h) (by first | assumption | exact KB.refl _) (.inl ⟨by rfl, fun W hW => ?_⟩) ?_; rotate_left
   ·(go_simp; first | done | with_reducible rfl)
   try simp only [Act.put, List.setIfInBounds_toArray, List.set_cons_zero, List.set_cons_succ]
   refine btakeS 13 (oi := _) (v := ?_) (by simp only [getElem?_toArray, getElem?_cons_succ, getElem?_cons_zero]; rfl) (by kernel_rfl) (by exact fun _ _ _ h => h) (by first | assumption | exact KB.refl _) (.inl ⟨by rfl, fun W hW => ?_⟩) ?_; rotate_left
   ·(go_simp; first | done | with_reducible rfl)
   try simp only [Act.put, List.setIfInBounds_toArray, List.set_cons_zero, List.set_cons_succ]
   refine bopS 14 (o := _) (by simp only [getElem?_toArray, getElem?_cons_succ, getElem?_cons_zero]; rfl) (by kernel_rfl) (by rfl) (fun K hK => ?_)
   go_simp
   have hkb : AtS gb [.int .i64 r.a, .int .i64 r.b] (w1.setCell ⟨g, p.length * 2 + 1, none⟩ (.int .i64 z)).drew := (At.set_other hA _ _ hgb).drew
   refine hK.out _ _ hkb ?_; clear hK K
   try simp only [Act.put, List.setIfInBounds_toArray, List.set_cons_zero, List.set_cons_succ]
   refine bdoneS (by kernel_rfl) ?_
   have hW3 := (hbz.trans (below_of_grown hgr (fun g' e => by cases e; exact hg1) hbz.size)).drew
   have hst3 := hst.below (Below.refl _ _).drew
   rw [show p ++ [⟨x.a, z⟩] = putR (p ++ [x]) r by rw [HQ.out, HZ.out]] at hst3
   clear hz hkb e1
   go_wp2_with fail
   go_ret
   exact ⟨_, rfl, hst3, hW3⟩
  ·have d2 : decide (r.a ≤ x.b + 1) = false := by rw [decide_eq_false_iff_not]; exact hc
   rw [if_neg hc] at hq
   have HQ := Lib.hid hq
   clear hq hc ho
   go_enter Tryz.func85, Tryz.ntmps85
   go_wp2_with fail
   refine bstart (by kernel_rfl) ?_
   refine btake 0 (oi := _) (v := ?_) (by simp only [List.getElem?_toArray, List.getElem?_cons_zero]; rfl) (by kernel_rfl) (by exact fun _ _ _ h => h) (by first | assumption | exact KB.refl _) (.inl ⟨by rfl, fun W hW => ?_⟩) ?_; rotate_left
   ·(go_simp; first | done | with_reducible rfl)
   try simp only [Act.put, List.setIfInBounds_toArray, List.set_cons_zero, List.set_cons_succ]
   refine btake 1 (oi := _) (v := ?_) (by simp only [getElem?_toArray, getElem?_cons_succ, getElem?_cons_zero]; rfl) (by kernel_rfl) (by exact fun _ _ _ h => h) (by first | assumption | exact KB.refl _) (.inl ⟨by rfl, fun W hW => ?_⟩) ?_; rotate_left
   ·(go_simp; first | done | with_reducible rfl)
   try simp only [Act.put, List.setIfInBounds_toArray, List.set_cons_zero, List.set_cons_succ]
   refine btake 2 (oi := _) (v := ?_) (by simp only [getElem?_toArray, getElem?_cons_succ, getElem?_cons_zero]; rfl) (by kernel_rfl) (by exact fun _ _ _ h => h) (by first | assumption | exact KB.refl _) (.inl ⟨by rfl, fun W hW => ?_⟩) ?_; rotate_left
   ·(go_simp; first | done | with_reducible rfl)
   try simp only [Act.put, List.setIfInBounds_toArray, List.set_cons_zero, List.set_cons_succ]
   refine btake 3 (oi := _) (v := ?_) (by simp only [getElem?_toArray, getElem?_cons_succ, getElem?_cons_zero]; rfl) (by kernel_rfl) (by exact fun _ _ _ h => h) (by first | assumption | exact KB.refl _) (.inl ⟨by rfl, fun W hW => ?_⟩) ?_; rotate_left
   ·(go_simp; first | done | with_reducible rfl)
   try simp only [Act.put, List.setIfInBounds_toArray, List.set_cons_zero, List.set_cons_succ]
   refine btake 4 (oi := _) (v := ?_) (by simp only [getElem?_toArray, getElem?_cons_succ, getElem?_cons_zero]; rfl) (by kernel_rfl) (by exact fun _ _ _ h => h) (by first | assumption | exact KB.refl _) (.inl ⟨by rfl, fun W hW => ?_⟩) ?_; rotate_left
   ·(go_simp; first | done | with_reducible rfl)
   try simp only [Act.put, List.setIfInBounds_toArray, List.set_cons_zero, List.set_cons_succ]
   refine btake 5 (oi := _) (v := ?_) (by simp only [getElem?_toArray, getElem?_cons_succ, getElem?_cons_zero]; rfl) (by kernel_rfl) (by exact fun _ _ _ h => h) (by first | assumption | exact KB.refl _) (.inl ⟨by rfl, fun W hW => ?_⟩) ?_; rotate_left
   ·(go_simp; first | done | with_reducible rfl)
   try simp only [Act.put, List.setIfInBounds_toArray, List.set_cons_zero, List.set_cons_succ]
   refine btake 6 (oi := _) (v := ?_) (by simp only [getElem?_toArray, getElem?_cons_succ, getElem?_cons_zero]; rfl) (by kernel_rfl) (by exact fun _ _ _ h => h) (by first | assumption | exact KB.refl _) (.inl ⟨by rfl, fun W hW => ?_⟩) ?_; rotate_left
   ·(go_simp; first | done | with_reducible rfl)
   try simp only [Act.put, List.setIfInBounds_toArray, List.set_cons_zero, List.set_cons_succ]
   refine btake 7 (oi := _) (v := ?_) (by simp only [getElem?_toArray, getElem?_cons_succ, getElem?_cons_zero]; rfl) (by kernel_rfl) (by exact fun _ _ _ h => h) (by first | assumption | exact KB.refl _) (.inl ⟨by rfl, fun W hW => ?_⟩) ?_; rotate_left
   ·(go_simp; first | done | with_reducible rfl)
   try simp only [Act.put, List.setIfInBounds_toArray, List.set_cons_zero, List.set_cons_succ]
   refine btake 8 (oi := _) (v := ?_) (by simp only [getElem?_toArray, getElem?_cons_succ, getElem?_cons_zero]; rfl) (by kernel_rfl) (by exact fun _ _ _ h => h) (by first | assumption | exact KB.refl _) (.inl ⟨by rfl, fun W hW => ?_⟩) ?_; rotate_left
   ·(go_simp; first | done | with_reducible rfl)
   try simp only [Act.put, List.setIfInBounds_toArray, List.set_cons_zero, List.set_cons_succ]
   refine btake 9 (oi := _) (v := ?_) (by simp only [getElem?_toArray, getElem?_cons_succ, getElem?_cons_zero]; rfl) (by kernel_rfl) (by exact fun _ _ _ h => h) (by first | assumption | exact KB.refl _) (.inl ⟨by rfl, fun W hW => ?_⟩) ?_; rotate_left
   ·(go_simp; first | done | with_reducible rfl)
   try simp only [Act.put, List.setIfInBounds_toArray, List.set_cons_zero, List.set_cons_succ]
   refine btake 10 (oi := _) (v := ?_) (by simp only [getElem?_toArray, getElem?_cons_succ, getElem?_cons_zero]; rfl) (by kernel_rfl) (by exact fun _ _ _ h => h) (by first | assumption | exact KB.refl _) (.inl ⟨by rfl, fun W hW => ?_⟩) ?_; rotate_left
   ·(go_simp; first | done | with_reducible rfl)
   try simp only [Act.put, List.setIfInBounds_toArray, List.set_cons_zero, List.set_cons_succ]
   refine btake 11 (oi := _) (v := ?_) (by simp only [getElem?_toArray, getElem?_cons_succ, getElem?_cons_zero]; rfl) (by kernel_rfl) (by exact fun _ _ _ h => h) (by first | assumption | exact KB.refl _) (.inl ⟨by rfl, fun W hW => ?_⟩) ?_; rotate_left
   ·(go_simp; first | done | with_reducible rfl)
   try simp only [Act.put, List.setIfInBounds_toArray, List.set_cons_zero, List.set_cons_succ]
   refine btake 12 (oi := _) (v := ?_) (by simp only [getElem?_toArray, getElem?_cons_succ, getElem?_cons_zero]; rfl) (by kernel_rfl) (by exact fun _ _ _ h => h) (by first | assumption | exact KB.refl _) (.inl ⟨by rfl, fun W hW => ?_⟩) ?_; rotate_left
   ·(go_simp; first | done | with_reducible rfl)
   try simp only [Act.put, List.setIfInBounds_toArray, List.set_cons_zero, List.set_cons_succ]
   refine btake 13 (oi := _) (v := ?_) (by simp only [getElem?_toArray, getElem?_cons_succ, getElem?_cons_zero]; rfl) (by kernel_rfl) (by exact fun _ _ _ h => h) (by first | assumption | exact KB.refl _) (.inl ⟨by rfl, fun W hW => ?_⟩) ?_; rotate_left
   ·(go_simp; first | done | with_reducible rfl)
   try simp only [Act.put, List.setIfInBounds_toArray, List.set_cons_zero, List.set_cons_succ]
   refine bdone (by kernel_rfl) ?_
   have hst2 := hbox.below (Below.refl _ _).drew
   have how2 := hown1.below (Below.refl _ _).drew
   have hbz := hW1.drew
   generalize (w.alloc (.cells #[.int .i64 r.a, .int .i64 r.b] 58)).drew = wz at hst2 how2 hbz ⊢
   clear hown hown1 hbox hW1
   have m0 := hst2.2.1
   have m1 := hst2.2.2.1
   have how3 := how2.below (balloc (Below.refl _ _) (.cells #[.int .i64 r.a, .int .i64 r.b] 58))
   have hbz3 := hbz.alloc hbz.size (.cells #[.int .i64 r.a, .int .i64 r.b] 58)
   have hSl : Sl (wz.alloc (.cells #[.int .i64 r.a, .int .i64 r.b] 58)) (wz.heap.size + 1) (some ⟨wz.heap.size, 0, none⟩) (rv [r]) := Sl.new wz 58 #[.int .i64 r.a, .int .i64 r.b] (0, 0)
   clear hst2 how2
   go_wp2_with (at_builtin; refine appR rfl rfl how3 hSl rfl rfl rfl (by first | (have := HL.out; rw [this.2, List.length_singleton]; omega) | simp) hbz3.size ?_; intro v7 w7 h7 hg7 hat7)
   go_ret
   exact ⟨v7, rfl, by first | exact h7 | (rw [HQ.out]; exact h7), own_belowR hbz3 hbz3.size how3 hg7⟩
end Go.Proofs.YtaflikgdlkaefaaGreat
/- cmp.Compare at int64. -/
namespace Go.Proofs.YtaflikgdlkaefaaGreat
open Go.RowKit Go.Sort
set_option maxRecDepth 20000

def cmp3 (a b : Int) : Int := if a < b then -1 else if b < a then 1 else 0
set_option maxRecDepth 100000 in
theorem isNaN_int64 (w : World) (a : Int) : Calls Tryz.prog 92 #[.int .i64 a] w fun e w' => e = .returned (.bool false) ∧ w = w' := by
 go_enter Tryz.func92, Tryz.ntmps92
 go_wp2_with fail
 go_ret
 exact ⟨rfl, rfl⟩
set_option maxRecDepth 100000 in
theorem Compare_int64 (w : World) (a b : Int) : Calls Tryz.prog 84 #[.int .i64 a, .int .i64 b] w fun e w' => e = .returned (.int .i64 (cmp3 a b)) ∧ w = w' := by
 go_enter Tryz.func84, Tryz.ntmps84
 go_wp2_with (go_at_call 92; refine (isNaN_int64 _ _).mono ?_; rintro e w' ⟨rfl, rfl⟩)
 all_goals
  go_ret
  refine ⟨ret_i ?_, rfl⟩
  unfold cmp3
  first | (rw [if_pos (by omega)]) | (rw [if_neg (by omega), if_pos (by omega)]) | (rw [if_neg (by omega), if_neg (by omega)])
def Grew (w w' : World) : Prop := ∃ q os', w' = grow (w.drewN q) os'
end Go.Proofs.YtaflikgdlkaefaaGreat
/- Dots: Clone and SortFunc of rows of them. -/
namespace Go.Proofs
open Go.Shelf Go.RowKit Go.Lib Go.Sort
set_option maxRecDepth 20000
def Tryz.sortRgs_ren : Go.Shelf.Ren := ⟨fun | 6 => 82 | 15 => 91 | 14 => 90 | 28 => 104 | 29 => 105 | 20 => 96 | 21 => 97 | 22 => 98 | 23 => 99 | 24 => 100 | 25 => 101 | 26 => 102 | 27 => 103 | 46 => 115 | 47 => 116 | 48 => 117 | 49 => 118 | 50 => 119 | 57 => 124 | n => n, fun | 22 => 35 | 24 => 58 | 25 => 113 | 3 => 3 | 39 => 74 | 0 => 0 | 53 => 131 | 55 => 45 | 4 => 4 | 46 => 124 | 45 => 123 | 50 => 128 | 5 => 5 | 9 => 9 | 66 => 139 | 70 => 142 | 76 => 146 | 77 => 147 | n => n, fun | n => n⟩
theorem Tryz.sortRgs : Go.Proofs.SlLaysF0.n6 Tryz.prog Tryz.sortRgs_ren := {
  mixed := by kernel_rfl
  f6 := ⟨Tryz.f82.name, by decide, Tryz.func82.trans (congrArg some (by kernel_rfl))⟩
  f14 := ⟨Tryz.f90.name, by decide, Tryz.func90.trans (congrArg some (by kernel_rfl))⟩
  f15 := Tryz.func91.trans (congrArg some (by kernel_rfl))
  f20 := ⟨Tryz.f96.name, by decide, Tryz.func96.trans (congrArg some (by kernel_rfl))⟩
  f21 := ⟨Tryz.f97.name, by decide, Tryz.func97.trans (congrArg some (by kernel_rfl))⟩
  f22 := ⟨Tryz.f98.name, by decide, Tryz.func98.trans (congrArg some (by kernel_rfl))⟩
  f23 := ⟨Tryz.f99.name, by decide, Tryz.func99.trans (congrArg some (by kernel_rfl))⟩
  f24 := ⟨Tryz.f100.name, by decide, Tryz.func100.trans (congrArg some (by kernel_rfl))⟩
  f25 := ⟨Tryz.f101.name, by decide, Tryz.func101.trans (congrArg some (by kernel_rfl))⟩
  f26 := ⟨Tryz.f102.name, by decide, Tryz.func102.trans (congrArg some (by kernel_rfl))⟩
  f27 := ⟨Tryz.f103.name, by decide, Tryz.func103.trans (congrArg some (by kernel_rfl))⟩
  f28 := Tryz.func104.trans (congrArg some (by kernel_rfl))
  f29 := Tryz.func105.trans (congrArg some (by kernel_rfl))
  f46 := ⟨Tryz.f115.name, by decide, Tryz.func115.trans (congrArg some (by kernel_rfl))⟩
  f47 := Tryz.func116.trans (congrArg some (by kernel_rfl))
  f48 := Tryz.func117.trans (congrArg some (by kernel_rfl))
  f49 := ⟨Tryz.f118.name, by decide, Tryz.func118.trans (congrArg some (by kernel_rfl))⟩
  f50 := ⟨Tryz.f119.name, by decide, Tryz.func119.trans (congrArg some (by kernel_rfl))⟩
  f57 := ⟨Tryz.f124.name, by decide, Tryz.func124.trans (congrArg some (by kernel_rfl))⟩
  t0 := Tryz.underlying0
  a0 := Tryz.isAgg0
  z0 := Tryz.sizeOf0
  v0 := Tryz.zeroValue0
  t3 := Tryz.underlying3
  a3 := Tryz.isAgg3
  z3 := Tryz.sizeOf3
  v3 := Tryz.zeroValue3
  t4 := Tryz.underlying4
  a4 := Tryz.isAgg4
  z4 := Tryz.sizeOf4
  v4 := Tryz.zeroValue4
  t5 := Tryz.underlying5
  a5 := Tryz.isAgg5
  z5 := Tryz.sizeOf5
  v5 := Tryz.zeroValue5
  t9 := Tryz.underlying9
  a9 := Tryz.isAgg9
  z9 := Tryz.sizeOf9
  v9 := Tryz.zeroValue9
  t22 := Tryz.underlying35
  a22 := Tryz.isAgg35
  z22 := Tryz.sizeOf35
  v22 := Tryz.zeroValue35
  t25 := Tryz.underlying113
  a25 := Tryz.isAgg113
  z25 := Tryz.sizeOf113
  v25 := Tryz.zeroValue113
  t39 := Tryz.underlying74
  a39 := Tryz.isAgg74
  z39 := Tryz.sizeOf74
  v39 := Tryz.zeroValue74
  t45 := Tryz.underlying123
  a45 := Tryz.isAgg123
  z45 := Tryz.sizeOf123
  v45 := Tryz.zeroValue123
  t46 := Tryz.underlying124
  a46 := Tryz.isAgg124
  z46 := Tryz.sizeOf124
  v46 := Tryz.zeroValue124
  t50 := Tryz.underlying128
  a50 := Tryz.isAgg128
  z50 := Tryz.sizeOf128
  v50 := Tryz.zeroValue128
  t53 := Tryz.underlying131
  a53 := Tryz.isAgg131
  z53 := Tryz.sizeOf131
  v53 := Tryz.zeroValue131
  t55 := Tryz.underlying45
  a55 := Tryz.isAgg45
  z55 := Tryz.sizeOf45
  v55 := Tryz.zeroValue45
  t66 := Tryz.underlying139
  a66 := Tryz.isAgg139
  z66 := Tryz.sizeOf139
  v66 := Tryz.zeroValue139
  t70 := Tryz.underlying142
  a70 := Tryz.isAgg142
  z70 := Tryz.sizeOf142
  v70 := Tryz.zeroValue142
  t76 := Tryz.underlying146
  a76 := Tryz.isAgg146
  z76 := Tryz.sizeOf146
  v76 := Tryz.zeroValue146
  t77 := Tryz.underlying147
  a77 := Tryz.isAgg147
  z77 := Tryz.sizeOf147
  v77 := Tryz.zeroValue147 }
end Go.Proofs
namespace Go.Proofs.YtaflikgdlkaefaaGreat
open Go.RowKit Go.Proofs.YtaflikgdlkaefaaGreat.Pl Go.Proofs.YtaflikgdlkaefaaGreat.Sp
open Go.Sort hiding Below

def cmpRg (x y : Rg) : Int := cmp3 x.a y.a
set_option maxRecDepth 100000 in
theorem cmpR_any (w : World) (s t : Rg) :
  Calls Tryz.prog 83 #[s.v, t.v] w fun e w' => e = .returned (.int .i64 (cmpRg s t)) ∧ Grew w w' ∧ Below w.heap.size w w' := by
 unfold Rg.v cmpRg
 obtain ⟨r, q⟩ := s
 obtain ⟨r', q'⟩ := t
 have hg : Grew w ((w.alloc (.cells #[.int .i64 r, .int .i64 q] 58)).alloc (.cells #[.int .i64 r', .int .i64 q'] 58)) := ⟨0, _, by
  rw [alloc_eq_grow, alloc_eq_grow, grow_grow]; rfl⟩
 have hb := balloc (balloc (Below.refl w.heap.size w) (.cells #[.int .i64 r, .int .i64 q] 58)) (.cells #[.int .i64 r', .int .i64 q'] 58)
 go_enter Tryz.func83, Tryz.ntmps83
 go_wp2_with (go_at_call 84; refine (Compare_int64 _ _ _).mono ?_; rintro e w' ⟨rfl, rfl⟩)
 go_ret
 exact ⟨rfl, hg, hb⟩
theorem ltOf_cmpR (x y : Rg) : ltOf cmpRg x y = decide (x.a < y.a) := by
 unfold ltOf cmpRg cmp3
 rw [decide_eq_decide]
 (repeat' split) <;> omega
theorem swo_cmpR : Sort.SWO (ltOf cmpRg) := {
 irrefl x := by rw [ltOf_cmpR, decide_eq_false_iff_not]; omega
 trans x y z h1 h2 := by rw [ltOf_cmpR, decide_eq_true_eq] at *; omega
 ntrans x y z h1 h2 := by rw [ltOf_cmpR, decide_eq_false_iff_not] at *; omega }
theorem cmpLaysR (blk off size : Nat) (w : World) : CmpLays Tryz.prog 83 #[] Rg.cells 2 cmpRg blk off size w :=
 fun _ _ _ _ x y => (cmpR_any _ x y).mono fun _ _ ⟨h1, ⟨q, os', h2⟩, _⟩ => ⟨h1, q, os', h2⟩
theorem rgAgg (w : World) : (isAgg 58).run Tryz.prog w = .ok true w := by first | exact Tryz.isAgg58 w | go_simp
theorem rgSize (w : World) : (Go.sizeOf 58).run Tryz.prog w = .ok 2 w := by first | exact Tryz.sizeOf58 w | go_simp
theorem flat_get2R (l : List Rg) (t : Nat) (h : t < l.length * 2) : (flatK Rg.cells 2 l.toArray)[t]! = (if t % 2 = 0 then Value.int .i64 (l[t / 2]?.getD ⟨0, 0⟩).a else Value.int .i64 (l[t / 2]?.getD ⟨0, 0⟩).b) := by
 rw [get_flatK Rg.cells 2 l.toArray t (by simpa using h)]
 have hk : t / 2 < l.length := by omega
 have e : (l.toArray)[t / 2]! = l[t / 2]?.getD ⟨0, 0⟩ := by
  rw [List.getElem!_toArray, List.getElem!_eq_getElem?_getD]; rfl
 rw [e]
 generalize l[t / 2]?.getD ⟨0, 0⟩ = x
 rcases (by omega : t % 2 = 0 ∨ t % 2 = 1) with e | e
 ·rw [e, if_pos rfl]; rfl
 ·rw [e, if_neg (by omega)]; rfl
theorem row_holdsR {w : World} {g : Nat} {l : List Rg} (h : RowR w g l) : HoldsK Rg.cells 2 w g 0 l.toArray := by
 intro j hj
 rw [size_flatK] at hj
 have hj' : j < l.length * 2 := by simpa using hj
 obtain ⟨h1, h2, h3, h4⟩ := h.2 (j / 2) (by omega)
 show w.cell? ⟨g, 0 + j, none⟩ = some (flatK Rg.cells 2 l.toArray)[j]! ∧ _
 rw [flat_get2R l j hj', Nat.zero_add]
 rcases (by omega : j % 2 = 0 ∨ j % 2 = 1) with e | e
 ·rw [if_pos e, show j = j / 2 * 2 by omega]
  rw [show j / 2 * 2 / 2 = j / 2 by omega]
  exact ⟨h1, h3⟩
 ·rw [if_neg (by omega)]
  have e' : j / 2 * 2 + 1 = j := by omega
  rw [e'] at h2 h4
  exact ⟨h2, h4⟩
theorem holds_rowR {w : World} {g : Nat} {l : List Rg} (h : HoldsK Rg.cells 2 w g 0 l.toArray) (hg : g < w.heap.size) : RowR w g l := by
 refine ⟨hg, fun k hk => ?_⟩
 have h0 := h (k * 2) (by rw [size_flatK]; simp; omega)
 have h1 := h (k * 2 + 1) (by rw [size_flatK]; simp; omega)
 rw [Nat.zero_add] at h0 h1
 have f0 := flat_get2R l (k * 2) (by omega)
 have f1 := flat_get2R l (k * 2 + 1) (by omega)
 rw [if_pos (by omega), show k * 2 / 2 = k by omega] at f0
 rw [if_neg (by omega), show (k * 2 + 1) / 2 = k by omega] at f1
 exact ⟨h0.1.trans (congrArg some f0), h1.1.trans (congrArg some f1), h0.2, h1.2⟩
theorem below_sortedR {w : World} {g n B : Nat} {os : Array Obj} (d : Array Rg) (hB : B ≤ g) (hb : B ≤ w.heap.size) : Below B w (sortWorldK Rg.cells 2 w g 0 n d os) := by
 ·refine ⟨rfl, rfl, rfl, size_sortWorldK_c _ _ _ _ _ _ _ _, fun k hk => ?_⟩
  unfold sortWorldK putRowK
  rw [heap_grow_old _ _ (by simp [putRow, mapBlock, Sort.ahead]; omega)]
  have : g ≠ k := by omega
  simp [putRow, mapBlock, Sort.ahead, Array.getElem?_modify, this]
def SortedR (l l' : List Rg) : Prop := l'.length = l.length ∧ (∀ z, z ∈ l' ↔ z ∈ l) ∧ l'.Pairwise fun a b => a.a ≤ b.a
theorem get_bangR (l : List Rg) (i : Nat) (h : i < l.length) : l.toArray[i]! = l[i] := by
 rw [List.getElem!_toArray, List.getElem!_eq_getElem?_getD, List.getElem?_eq_getElem h]; rfl
theorem sorted_ofR {l l' : List Rg} (hp : PermIn 0 l.toArray.size l.toArray l'.toArray) (hs : SortedIn (ltOf cmpRg) 0 l.toArray.size l'.toArray) : SortedR l l' := by
 obtain ⟨h1, _, h3⟩ := hp
 have hl : l'.length = l.length := by simpa using h1
 have h3' : l'.Perm l := by
  simp only [List.size_toArray, List.extract_toArray, List.extract_eq_take_drop, List.drop_zero, Nat.sub_zero, List.take_length] at h3
  rwa [List.take_of_length_le (by omega)] at h3
 refine ⟨hl, fun z => h3'.mem_iff, ?_⟩
 rw [List.pairwise_iff_getElem]
 intro i j hi hj hij
 have := hs i j (Nat.zero_le _) hij (by simp; omega)
 rw [ltOf_cmpR, get_bangR l' j hj, get_bangR l' i hi] at this
 rw [decide_eq_false_iff_not] at this
 omega
set_option maxHeartbeats 1000000 in
theorem SortFuncR_any (w : World) (base : Nat) (v : Value) (l : List Rg) (hown : OwnR w base v l) (hb : base ≤ w.heap.size) (hl : l.length < 4611686018427387904) :
  Calls Tryz.prog 82 #[v, .func (.func 83) #[] #[]] w fun e w' => e = .returned (.tuple #[]) ∧ ∃ l', SortedR l l' ∧ (l = [] ∨ ∃ g c, v = .slice (some ⟨g, 0, none⟩) l.length c ∧ base ≤ g ∧ RowR w' g l') ∧ Below base w w' := by
 rcases Nat.eq_zero_or_pos l.length with h0 | hpos
 ·have := List.eq_nil_of_length_eq_zero h0
  subst this
  obtain ⟨A, c, rfl, _⟩ := hown.form
  refine (AnyF.slices_SortFunc_none (P := Tryz.prog) (ρ := Tryz.sortRgs_ren) Tryz.sortRgs A c (.func (.func 83) #[] #[]) w).mono ?_
  rintro e w' ⟨rfl, rfl⟩
  exact ⟨rfl, [], ⟨rfl, fun _ => Iff.rfl, List.Pairwise.nil⟩, .inl rfl, Below.refl _ _⟩
 ·obtain ⟨g, cap, rfl, hg, hgw, hc, hcm⟩ := hown.head hpos
  have hrow := hown.row2
  have eg : ∀ args w, (callFunc 83 args).run Tryz.prog w = .ok (.enter 83 args) w := enters_of Tryz.func83 (by kernel_rfl) rfl
  have hcon := AnyQ.slices_SortFunc Tryz.sortRgs 2 rgAgg rgSize Rg.cells (fun _ => rfl) (fun x v hv => by simp [Rg.cells] at hv; rcases hv with rfl | rfl <;> rfl) cmpRg swo_cmpR 83 #[] g 0 cap l.toArray w eg (cmpLaysR g 0 l.toArray.size w) (row_holdsR hrow) hgw (by simpa using hl)
  rw [List.size_toArray] at hcon
  refine Calls.mono hcon ?_
  rintro e w' ⟨rfl, d', n, os, hp, hs, rfl⟩
  obtain ⟨l', rfl⟩ : ∃ l' : List Rg, d' = l'.toArray := ⟨d'.toList, by simp⟩
  have hso := sorted_ofR (by simpa using hp) (by simpa using hs)
  have hsize : l'.toArray.size = l.toArray.size := by simpa using hso.1
  exact ⟨rfl, l', hso, .inr ⟨g, cap, rfl, hg, holds_rowR (holdsK_sortWorldK Rg.cells 2 w g 0 n l.toArray l'.toArray os hgw (row_holdsR hrow) hsize) (lt_sortWorldK Rg.cells 2 w g 0 n l'.toArray os hgw)⟩, below_sortedR l'.toArray hg hb⟩
end Go.Proofs.YtaflikgdlkaefaaGreat
/- Ranges: all, one list of ranges out of whatever ranges. -/
namespace Go.Proofs.YtaflikgdlkaefaaGreat
open Go.RowKit Go.Proofs.YtaflikgdlkaefaaGreat.Pl Go.Proofs.YtaflikgdlkaefaaGreat.Sp
set_option maxRecDepth 20000

theorem putR_len (o : List Rg) (r : Rg) : (putR o r).length ≤ o.length + 1 := by
 unfold putR
 split
 ·simp
 ·rename_i x h
  have : o.length ≠ 0 := by intro e; rw [List.eq_nil_of_length_eq_zero e] at h; cases h
  split
  ·rw [List.length_append, List.length_dropLast, List.length_singleton]; omega
  ·simp
theorem fold_len : ∀ (l o : List Rg), (l.foldl putR o).length ≤ o.length + l.length
 | [], o => by simp
 | r :: l, o => by
  have h1 := fold_len l (putR o r)
  have h2 := putR_len o r
  rw [List.foldl_cons, List.length_cons]
  omega
theorem last_okR {o : List Rg} (h : right o = true) : ∀ x, o.getLast? = some x → 1 ≤ x.b ∧ x.b ≤ 1099511627775 := by
 intro x hx
 have h1 := ok_iff.1 (right_ok h x (List.mem_of_getLast? hx))
 unfold mx at h1
 omega
theorem fold_take_ok {l : List Rg} (hok : ∀ r ∈ l, r.ok = true) (hp : l.Pairwise fun r s => r.a ≤ s.a) (k : Nat) : right ((l.take k).foldl putR []) = true :=
 (fold_put (o := []) rfl (fun r hr => hok r (List.mem_of_mem_take hr)) (hp.sublist (List.take_sublist k l)) (fun x hx => by cases hx)).1
theorem fold_take_succ {l : List Rg} {k : Nat} (hk : k < l.length) : (l.take (k + 1)).foldl putR [] = putR ((l.take k).foldl putR []) (l[k]?.getD ⟨0, 0⟩) := by
 rw [List.take_succ_eq_append_getElem hk, List.foldl_append, List.getElem?_eq_getElem hk]
 rfl
/-- a row of ranges of the call's own is answered -/
def OwnAns (w : World) (q : List Rg) (e : Ending) (w' : World) : Prop := ∃ v, e = .returned v ∧ OwnR w' w.heap.size v q ∧ Below w.heap.size w w'
set_option maxRecDepth 100000 in
set_option maxHeartbeats 3200000 in
theorem All_any (w : World) (base : Nat) (v : Value) (l : List Rg) (hown : OwnR w base v l) (hb : base ≤ w.heap.size) (hok : ∀ r ∈ l, r.ok = true) (hl : l.length ≤ 100000000) :
  Calls Tryz.prog 71 #[v] w fun e w' => ∃ l' v', e = .returned v' ∧ SortedR l l' ∧ OwnR w' w.heap.size v' (l'.foldl putR []) ∧ Below base w w' := by
 obtain ⟨A, c, rfl, hA1, hA2, _⟩ := hown.form
 have HS := Lib.hid (SortFuncR_any w base _ l hown hb (by omega))
 obtain ⟨n, hn⟩ : ∃ n, l.length = n := ⟨_, rfl⟩
 rw [hn] at HS hl
 rw [hn]
 clear hA1 hA2 hown
 have HN := Lib.hid hn
 clear hn
 go_enter Tryz.func71, Tryz.ntmps71
 go_wp2_with fail
 refine HS.out.mono ?_
 rintro e w2 ⟨rfl, l', hs, hv, h2⟩
 have hsl : Sl w2 w2.heap.size A (rv l') := by
  rcases hv with rfl | ⟨g, c', e, hg, hr⟩
  ·have : l' = [] := List.eq_nil_of_length_eq_zero hs.1
   subst this; exact .inl rfl
  ·injection e with e1 e2 e3; subst e1; exact hr.sl
 have HOK := Lib.hid (And.intro (fun r hr => hok r ((hs.2.1 r).1 hr)) (And.intro hs (hs.1.trans HN.out)) : (∀ r ∈ l', r.ok = true) ∧ SortedR l l' ∧ l'.length = n)
 clear hs hv hok HS
 go_wp2_with fail
 go_loopw [3, 10] (fun x3 x10 wr => ∃ (k : Nat) (x : Value), k ≤ n ∧ x10 = .int .i64 (k : Int) ∧ x = x3 ∧ OwnR wr w2.heap.size x ((l'.take k).foldl putR []) ∧ Below w2.heap.size w2 wr) (fun _ x10 _ => n - (intOf x10).toNat)
 case atStart => exact ⟨0, _, by omega, rfl, rfl, OwnR.nil _ _, Below.refl _ _⟩
 case round =>
  obtain ⟨k, x3, hk, rfl, rfl, hown, hbel⟩ := hrel
  by_cases hlt : k < n
  ·have hkl : k < l'.length := by have := HOK.out.2.2; omega
   obtain ⟨b, o, rfl, _, hbW, c0, c1⟩ := rgAt hsl hkl
   replace c0 := (hbel.cell hbW).trans c0
   replace c1 := (hbel.cell hbW).trans c1
   have hstep := fold_take_succ hkl
   have hlen := fold_len (l'.take k) []
   rw [List.length_take] at hlen
   have hlast := last_okR (fold_take_ok HOK.out.1 HOK.out.2.1.2.2 k)
   generalize l'[k]?.getD ⟨0, 0⟩ = x at *
   generalize (l'.take k).foldl putR [] = q at *
   have hd1 : decide ((k : Int) < (n : Int)) = true := by rw [decide_eq_true_eq]; omega
   have hn0 : (0 : Int) ≤ (k : Int) := by omega
   have hn1 : (k : Int) < (n : Int) := by omega
   have hbx := hbel.alloc hbel.size (.cells #[.int .i64 x.a, .int .i64 x.b] 58)
   have HP := Lib.hid (RgPut_any w2 _ x3 q x (hown.below (boxR wr x)) hbx hlast (by simp at hlen; omega))
   have HT := Lib.hid hstep
   unfold Rg.v at HP
   clear hlast hlen hstep hbx hown hkl
   go_wp2_with fail
   refine HP.out.mono ?_
   rintro e w3 ⟨v3, rfl, hown3, h3⟩
   go_wp2_with fail
   go_roundw
   case rel => exact ⟨k + 1, _, by omega, by go_num, rfl, by rw [HT.out]; exact hown3, h3⟩
   case measure => simp [intOf]; omega
  ·obtain rfl : k = n := by omega
   have hd1 : decide ((k : Int) < (k : Int)) = false := by rw [decide_eq_false_iff_not]; omega
   rw [List.take_of_length_le (by have := HOK.out.2.2; omega)] at hown
   go_wp2_with fail
   go_ret
   exact ⟨l', _, rfl, HOK.out.2.1, hown.lower h2.size, h2.trans (hbel.mono (Nat.le_trans hb h2.size))⟩
end Go.Proofs.YtaflikgdlkaefaaGreat
/- Ranges: make and copy at rows of the call's own. -/
namespace Go.Proofs.YtaflikgdlkaefaaGreat
open Go.RowKit Go.Proofs.YtaflikgdlkaefaaGreat.Pl Go.Proofs.YtaflikgdlkaefaaGreat.Sp
set_option maxRecDepth 20000

section
variable {ops : Array Oper} {rest : List Oper} {o : Oper} {a : Act} {Q : Exit → Act → World → Prop} {w : World} {s x : Operand}
end
end Go.Proofs.YtaflikgdlkaefaaGreat
