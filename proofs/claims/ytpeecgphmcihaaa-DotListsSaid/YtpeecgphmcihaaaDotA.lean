/- Rows of dots of the call's own: append, stores, clear. -/
import Derived.Test.YtpeecgphmcihaaaDot
import Derived.Maps.AppendAt
import Derived.Lib.SliceRun
import Derived.Laws.IdiomCopy
namespace Go.Proofs.Ytpeecgphmcihaaa
open Go.RowKit Go.Proofs.Ytpeecgphmcihaaa.Pl Go.Proofs.Ytpeecgphmcihaaa.Dt

abbrev OwnD (w : World) (base : Nat) (v : Value) (l : List D2) : Prop := w.ownsRow base 23 2 v l.length (dv l)
theorem dotinfo : (Try.prog.info? 23).map (fun i => (i.zero, i.size, i.bytes)) = some (some (.agg #[.int .i64 0, .int .i64 0]), 2, 16) := by kernel_rfl
theorem OwnD.nil (w : World) (base : Nat) : OwnD w base (.slice none 0 0) [] := World.ownsRow_nil w base _ 2
theorem OwnD.form {w : World} {base : Nat} {v : Value} {l : List D2} (h : OwnD w base v l) : ∃ A c, v = .slice A l.length c ∧ l.length ≤ c ∧ c ≤ maxLen ∧ Sl w w.heap.size A (dv l) ∧ (A = none → l = []) ∧ (∀ a, A = some a → base ≤ a.block ∧ a.off = 0 ∧ a.spot = none) := by
  rcases h.2 with ⟨rfl, hn⟩ | ⟨g, cap, cur, rfl, hb, hg, hn, hm, hcs, ht⟩
  · have := List.eq_nil_of_length_eq_zero hn
    subst this
    exact ⟨none, 0, rfl, by simp, by simp [maxLen], .inl rfl, (fun _ => rfl), (fun a h => (by cases h))⟩
  · have hlt : g < w.heap.size := (Array.getElem?_eq_some_iff.1 hg).1
    refine ⟨_, cap, rfl, hn, hm, .inr ⟨g, 0, rfl, hlt, hlt, fun j u hu => ?_⟩, (fun h => (by cases h)), (fun a h => by cases h; exact ⟨hb, rfl, rfl⟩)⟩
    have := h.cells (g := g) rfl j u hu
    rw [Nat.zero_add]
    rw [addr0] at this
    exact this
theorem OwnD.below {w w' : World} {base : Nat} {v : Value} {l : List D2} (h : OwnD w base v l) (hb : Below w.heap.size w w') : OwnD w' base v l :=
  h.kept (row := none) ⟨hb.os, hb.tape, hb.output, hb.size, fun k hk _ => hb.block k hk⟩ (by cases hv : v.ownBlock <;> simp)
theorem OwnD.head {w : World} {base : Nat} {v : Value} {l : List D2} (h : OwnD w base v l) (hn : 0 < l.length) : ∃ g cap, v = .slice (some ⟨g, 0, none⟩) l.length cap ∧ base ≤ g ∧ g < w.heap.size ∧ l.length ≤ cap ∧ cap ≤ maxLen := by
  rcases h.2 with ⟨_, h0⟩ | ⟨g, cap, cur, rfl, hb, hg, h1, h2, _⟩
  · omega
  · exact ⟨g, cap, rfl, hb, (Array.getElem?_eq_some_iff.1 hg).1, h1, h2⟩
theorem own_belowD {w wr w1 : World} {x : Value} {B : Nat} {l : List D2} (hb : Below B w wr) (hB : B ≤ wr.heap.size) (hown : OwnD wr B x l) (hg : wr.grownBy w1 x.ownBlock) : Below B w w1 :=
  hb.trans (below_of_grown hg (fun g e => (hown.lt g e).1) hB)
theorem dv_one (l : List D2) : ∀ u ∈ dv l, u.oneCell' = true := by
  intro u hu
  obtain ⟨d, _, h⟩ := List.mem_flatMap.1 hu
  simp [D2.cells] at h
  rcases h with rfl | rfl <;> rfl
theorem run_appD (w : World) (ty : TypeId) {base : Nat} {v : Value} {l : List D2} (hown : OwnD w base v l) {B : Nat} {A : Option Addr} {m c : Nat} {k : List D2} (hr : Sl w B A (dv k)) (hm : m = k.length)
    (hl : l.length + k.length ≤ 1000000000) (hbase : base ≤ w.heap.size) :
    ∃ v' w', (Builtin.append_ #[25, 25] ty #[v, .slice A m c]).run Try.prog w = .ok v' w' ∧ OwnD w' base v' (l ++ k) ∧ w.grownBy w' v.ownBlock ∧ (v'.ownBlock = v.ownBlock ∨ v'.ownBlock = some w.heap.size) := by
  subst hm
  obtain ⟨i, hi, hz, hz1, hz2⟩ := info_parts dotinfo
  rcases A with _ | ad
  · have hk : k = [] := by
      rcases hr with h | ⟨b, o, h, _⟩
      · have := dv_len k
        rw [h] at this
        exact List.eq_nil_of_length_eq_zero (by simp at this; omega)
      · cases h
    subst hk
    refine ⟨v, w, ?_, by simpa using hown, World.grownBy.refl w _, .inl rfl⟩
    rcases hown.2 with ⟨e, h0⟩ | ⟨g, cap', cur, e, hb0, hg0, hnc0, _⟩
    · subst e
      simp [Builtin.append_, run_underlying Try.underlying25, sizeOf, typeInfo, hi, Builtin.lenOf, Builtin.firstCells]
    · subst e
      simp [Builtin.append_, run_underlying Try.underlying25, sizeOf, typeInfo, hi, Builtin.lenOf, Builtin.firstCells, loadCells, hnc0, storeCells]
  · obtain ⟨v', w', hrun, h2, h3, _, h5⟩ := run_append_own_at (P := Try.prog) w base 25 ty 23 i (.agg #[.int .i64 0, .int .i64 0]) 2 16 Try.underlying25 hi hz hz1 hz2 rfl (by omega) v l.length (dv l) hown ad k.length c (dv k)
      (dv_len k) (fun j u hu => by
        rcases hr with h | ⟨b, o, h, _, _, hc⟩
        · rw [h] at hu; simp at hu
        · injection h with h
          subst h
          have : (⟨b, o, none⟩ : Addr).add j = ⟨b, o + j, none⟩ := by
            unfold Addr.add
            split
            · rename_i h0; subst h0; rfl
            · rfl
          rw [this]; exact hc j u hu) (dv_one k) (by simp only [maxLen]; omega) (by omega) hbase
    exact ⟨v', w', hrun, by rw [OwnD, dv_append, List.length_append]; exact h2, h3, h5⟩
section
variable {ops : Array Oper} {rest : List Oper} {o : Oper} {a : Act} {Q : Exit → Act → World → Prop} {w : World} {s x : Operand}
theorem wp_appD {K : Act → World → Prop} (ho : o.op = .call { callee := .builtin .append, args := #[s, x], argTypes := #[25, 25] })
    {base : Nat} {v : Value} {l : List D2} (hown : OwnD w base v l) {B : Nat} {A : Option Addr} {m c : Nat} {k : List D2} (hr : Sl w B A (dv k)) (hm : m = k.length)
    (hs : a.eval s = v) (hx : a.eval x = .slice A m c) (hl : l.length + k.length ≤ 1000000000) (hbase : base ≤ w.heap.size)
    (h : ∀ v' w', OwnD w' base v' (l ++ k) → w.grownBy w' v.ownBlock → (v'.ownBlock = v.ownBlock ∨ v'.ownBlock = some w.heap.size) → K (a.put o.dst v') w') : o.wp Try.prog a w K Q := by
  obtain ⟨v', w', hrun, h2, h3, h4⟩ := run_appD w o.type hown hr hm hl hbase (c := c)
  unfold Oper.wp execOp
  simp only [ho, resolve, invoke, builtin, Sem.run_bind, Sem.run_pure, Result.andThen_ok, List.map_toArray, List.map_cons, List.map_nil, hs, hx, hrun]
  exact h v' w' h2 h3 h4
theorem appDG (hgd : Region.wanted o (yielded ops a.tmps) = true) (ho : o.op = .call { callee := .builtin .append, args := #[s, x], argTypes := #[25, 25] })
    {base : Nat} {v : Value} {l : List D2} (hown : OwnD w base v l) {B : Nat} {A : Option Addr} {m c : Nat} {k : List D2} (hr : Sl w B A (dv k)) (hm : m = k.length)
    (hs : a.eval s = v) (hx : a.eval x = .slice A m c) (hl : l.length + k.length ≤ 1000000000) (hbase : base ≤ w.heap.size)
    (h : ∀ v' w', OwnD w' base v' (l ++ k) → w.grownBy w' v.ownBlock → (v'.ownBlock = v.ownBlock ∨ v'.ownBlock = some w.heap.size) → wpList Try.prog ops Q rest (a.put o.dst v') w') : wpList Try.prog ops Q (o :: rest) a w :=
  BigFrame.wpList_want hgd fun _ hK => wp_appD ho hown hr hm hs hx hl hbase fun v' w' h2 h3 h4 => hK _ _ (h v' w' h2 h3 h4)
end
/-! ### a row of dots that may be turned where it lies -/
def Row2 (w : World) (g : Nat) (l : List D2) : Prop := g < w.heap.size ∧ ∀ k, k < l.length → w.cell? ⟨g, k * 2, none⟩ = some (.int .i64 (l[k]?.getD ⟨0, 0⟩).r) ∧ w.cell? ⟨g, k * 2 + 1, none⟩ = some (.int .i64 (l[k]?.getD ⟨0, 0⟩).q) ∧ w.frozen? ⟨g, k * 2, none⟩ = false ∧ w.frozen? ⟨g, k * 2 + 1, none⟩ = false
theorem Row2.below {w w' : World} {g : Nat} {l : List D2} (h : Row2 w g l) (hb : Below w.heap.size w w') : Row2 w' g l :=
  ⟨Nat.lt_of_lt_of_le h.1 hb.size, fun k hk => by
    obtain ⟨h1, h2, h3, h4⟩ := h.2 k hk
    exact ⟨(hb.cell h.1).trans h1, (hb.cell h.1).trans h2, (hb.frozen h.1).trans h3, (hb.frozen h.1).trans h4⟩⟩
theorem put2_cell (w : World) (g i : Nat) (s : D2) (h0 : (w.cell? ⟨g, i * 2, none⟩).isSome = true) (h1 : (w.cell? ⟨g, i * 2 + 1, none⟩).isSome = true) (k j : Nat) (hj : j < 2) :
    (((w.setCell ⟨g, i * 2, none⟩ (.int .i64 s.r)).setCell ⟨g, i * 2 + 1, none⟩ (.int .i64 s.q))).cell? ⟨g, k * 2 + j, none⟩ = if k = i then s.cells[j]? else w.cell? ⟨g, k * 2 + j, none⟩ := by
  obtain ⟨u0, e0⟩ := Option.isSome_iff_exists.1 h0
  obtain ⟨u1, e1⟩ := Option.isSome_iff_exists.1 h1
  by_cases hk : k = i
  · subst hk
    rw [if_pos rfl]
    rcases (by omega : j = 0 ∨ j = 1) with rfl | rfl
    · rw [setCell_other _ _ _ _ _ _ (.inr (by omega)), Nat.add_zero, World.cell?_setCell_same _ _ _ e0]; rfl
    · rw [World.cell?_setCell_same _ _ _ (u := u1) (by rw [setCell_other _ _ _ _ _ _ (.inr (by omega))]; exact e1)]; rfl
  · rw [if_neg hk, setCell_other _ _ _ _ _ _ (.inr (by omega)), setCell_other _ _ _ _ _ _ (.inr (by omega))]
def put2At (w : World) (g i : Nat) (s : D2) : World := (w.setCell ⟨g, i * 2, none⟩ (.int .i64 s.r)).setCell ⟨g, i * 2 + 1, none⟩ (.int .i64 s.q)
theorem Row2.put {w : World} {g : Nat} {l : List D2} (h : Row2 w g l) {i : Nat} (hi : i < l.length) (s : D2) : Row2 (put2At w g i s) g (l.set i s) := by
  obtain ⟨q0, q1, _, _⟩ := h.2 i hi
  have hc := put2_cell w g i s (by rw [q0]; rfl) (by rw [q1]; rfl)
  refine ⟨by unfold put2At; simpa using h.1, fun k hk => ?_⟩
  rw [List.length_set] at hk
  obtain ⟨h1, h2, h3, h4⟩ := h.2 k hk
  have c0 := hc k 0 (by omega)
  have c1 := hc k 1 (by omega)
  rw [Nat.add_zero] at c0
  unfold put2At
  refine ⟨c0.trans ?_, c1.trans ?_, by simp only [setCell_frozen]; exact h3, by simp only [setCell_frozen]; exact h4⟩
  · by_cases e : k = i
    · subst e; rw [if_pos rfl, List.getElem?_set_self hk]; rfl
    · rw [if_neg e, List.getElem?_set_ne (fun h => e h.symm)]; exact h1
  · by_cases e : k = i
    · subst e; rw [if_pos rfl, List.getElem?_set_self hk]; rfl
    · rw [if_neg e, List.getElem?_set_ne (fun h => e h.symm)]; exact h2
theorem Row2.sl {w : World} {g : Nat} {l : List D2} (h : Row2 w g l) : Sl w w.heap.size (some ⟨g, 0, none⟩) (dv l) := by
  refine .inr ⟨g, 0, rfl, h.1, h.1, fun j u hu => ?_⟩
  have hj : j < (dv l).length := by
    rcases Nat.lt_or_ge j (dv l).length with h | h
    · exact h
    · rw [List.getElem?_eq_none h] at hu; cases hu
  rw [dv_len] at hj
  have hk : j / 2 < l.length := by omega
  have hs : l[j / 2]? = some (l[j / 2]'hk) := List.getElem?_eq_getElem hk
  have hg := dv_get l (j / 2) (j % 2) _ hs (by omega)
  rw [show j / 2 * 2 + j % 2 = j by omega, hu] at hg
  obtain ⟨h1, h2, _, _⟩ := h.2 (j / 2) hk
  rw [hs, Option.getD_some] at h1 h2
  rw [Nat.zero_add]
  rcases (by omega : j % 2 = 0 ∨ j % 2 = 1) with e | e
  · rw [e] at hg
    rw [show j = j / 2 * 2 by omega, h1]; exact hg.symm
  · rw [e] at hg
    rw [show j = j / 2 * 2 + 1 by omega, h2]; exact hg.symm
theorem Row2.take {w : World} {g : Nat} {l : List D2} (h : Row2 w g l) (n : Nat) : Row2 w g (l.take n) := by
  refine ⟨h.1, fun k hk => ?_⟩
  rw [List.length_take] at hk
  rw [List.getElem?_take, if_pos (by omega)]
  exact h.2 k (by omega)
theorem OwnD.row2 {w : World} {base g c : Nat} {l : List D2} (h : OwnD w base (.slice (some ⟨g, 0, none⟩) l.length c) l) : Row2 w g l := by
  refine ⟨(h.lt g rfl).2, fun k hk => ?_⟩
  have hs : l[k]? = some (l[k]'hk) := List.getElem?_eq_getElem hk
  have g0 := dv_get l k 0 _ hs (by omega)
  have g1 := dv_get l k 1 _ hs (by omega)
  rw [Nat.add_zero] at g0
  have c0 := h.cellAt (k * 2) (by omega)
  have c1 := h.cellAt (k * 2 + 1) (by omega)
  rw [hs]
  exact ⟨c0.trans g0, c1.trans g1, h.frozenAt _, h.frozenAt _⟩
theorem below_put2At {B : Nat} {a w : World} (h : Below B a w) {g : Nat} (hg : B ≤ g) (i : Nat) (s : D2) : Below B a (put2At w g i s) := (h.setCell hg _).setCell hg _
/-! ### clear -/
theorem below_setCellsD {B : Nat} {a : World} (b : Nat) (hb : B ≤ b) : ∀ (vs : List Value) (o : Nat) {w : World}, Below B a w → Below B a (w.setCells b o vs)
  | [], _, _, h => h
  | v :: vs, o, _, h => below_setCellsD b hb vs (o + 1) (h.setCell hb v)
theorem Row2.cleared {w : World} {g : Nat} {l : List D2} (h : Row2 w g l) (k : Nat) (hk : k ≤ l.length) (zs : List Value) : Row2 (w.setCells g (k * 2) zs) g (l.take k) := by
  have hsz : ∀ (vs : List Value) (o : Nat) (w : World), (w.setCells g o vs).heap.size = w.heap.size := by
    intro vs
    induction vs with
    | nil => intro o w; rfl
    | cons v vs ih => intro o w; rw [World.setCells, ih]; simp
  refine ⟨by rw [hsz]; exact h.1, fun j hj => ?_⟩
  rw [List.length_take] at hj
  rw [List.getElem?_take, if_pos (by omega)]
  obtain ⟨h1, h2, h3, h4⟩ := h.2 j (by omega)
  rw [World.cell?_setCells_out g zs (k * 2) w _ (fun _ _ => .inl (by show j * 2 < k * 2; omega)), World.cell?_setCells_out g zs (k * 2) w _ (fun _ _ => .inl (by show j * 2 + 1 < k * 2; omega)), World.frozen?_setCells, World.frozen?_setCells]
  exact ⟨h1, h2, h3, h4⟩
theorem dotzero (w : World) : (zeroValue 23).run Try.prog w = .ok (.agg #[.int .i64 0, .int .i64 0]) w := by
  obtain ⟨i, hi, hz, _⟩ := info_parts dotinfo
  simp [zeroValue, typeInfo, hi, hz]
theorem run_clear_dots (w : World) (ty : TypeId) (b o n c : Nat) (hn : 0 < n)
    (hc : ∀ j, j < n * 2 → (w.cell? ⟨b, o + j, none⟩).isSome = true) (hf : ∀ j, j < n * 2 → w.frozen? ⟨b, o + j, none⟩ = false) :
    ∃ zs, (Builtin.clear_ #[25] ty #[.slice (some ⟨b, o, none⟩) n c]).run Try.prog w = .ok (.tuple #[]) (w.setCells b o zs) := by
  have hl : (Builtin.zeroCells #[Value.int .i64 0, Value.int .i64 0] n).toList.length = n * 2 := by simp [Builtin.zeroCells]
  have ho : ∀ v ∈ (Builtin.zeroCells #[Value.int .i64 0, Value.int .i64 0] n).toList, v.oneCell' = true := by
    intro v hv
    simp [Builtin.zeroCells] at hv
    obtain ⟨a, ha, rfl⟩ := hv
    rcases (by omega : a % 2 = 0 ∨ a % 2 = 1) with e | e <;> simp [e, Value.oneCell']
  have hst := run_storeCells_cells (P := Try.prog) b o (Builtin.zeroCells #[Value.int .i64 0, Value.int .i64 0] n).toList 0 w (by rw [hl]; simpa using hc) (by rw [hl]; simpa using hf) ho
  simp only [Nat.add_zero] at hst
  obtain ⟨m, rfl⟩ : ∃ m, n = m + 1 := ⟨n - 1, by omega⟩
  refine ⟨(Builtin.zeroCells #[Value.int .i64 0, Value.int .i64 0] (m + 1)).toList, ?_⟩
  simp [Builtin.clear_, run_underlying Try.underlying25, Value.cells, hst]
end Go.Proofs.Ytpeecgphmcihaaa

