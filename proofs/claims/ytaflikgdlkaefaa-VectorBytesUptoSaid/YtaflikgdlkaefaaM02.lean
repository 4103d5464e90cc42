/- Rows of dots of the call's own: append, stores, clear. -/
import Derived.Maps.AppendAt
import Derived.Lib.SliceRun
import Derived.Laws.IdiomCopy
import Derived.ArgAppend
import Derived.Deep.Upon
import Derived.Sort.Grow
import Derived.Test.YtaflikgdlkaefaaM00
import Derived.Test.YtaflikgdlkaefaaM01
open List (getElem?_toArray getElem?_cons_succ getElem?_cons_zero)
namespace Go.Proofs.Ytaflikgdlkaefaa
open Go.RowKit Go.Proofs.Ytaflikgdlkaefaa.Pl Go.Proofs.Ytaflikgdlkaefaa.Sp
set_option maxRecDepth 20000

abbrev OwnR (w : World) (base : Nat) (v : Value) (l : List Rg) : Prop := w.ownsRow base 44 2 v l.length (rv l)
theorem rginfo : (Try.prog.info? 44).map (fun i => (i.zero, i.size, i.bytes)) = some (some (.agg #[.int .i64 0, .int .i64 0]), 2, 16) := by kernel_rfl
theorem OwnR.nil (w : World) (base : Nat) : OwnR w base (.slice none 0 0) [] := World.ownsRow_nil w base _ 2
theorem OwnR.form {w : World} {base : Nat} {v : Value} {l : List Rg} (h : OwnR w base v l) : ∃ A c, v = .slice A l.length c ∧ l.length ≤ c ∧ c ≤ maxLen ∧ Sl w w.heap.size A (rv l) ∧ (A = none → l = []) ∧ (∀ a, A = some a → base ≤ a.block ∧ a.off = 0 ∧ a.spot = none) := by
  rcases h.2 with ⟨rfl, hn⟩ | ⟨g, cap, cur, rfl, hb, hg, hn, hm, hcs, ht⟩
  · have := List.eq_nil_of_length_eq_zero hn
    subst this
    exact ⟨none, 0, rfl, by simp, by simp [maxLen], .inl rfl, (fun _ => rfl), (fun a h => (by cases h))⟩
  · have hlt : g < w.heap.size := (Array.getElem?_eq_some_iff.1 hg).1
    refine ⟨_, cap, rfl, hn, hm, .inr ⟨g, 0, rfl, hlt, hlt, fun j u hu => ?_⟩, (fun h => (by cases h)), (fun a h => by cases h; exact ⟨hb, rfl, rfl⟩)⟩
    have := h.cells (g := g) rfl j u hu
    rw [Nat.zero_add]
    rw [addr0] at this
    exact this
theorem OwnR.below {w w' : World} {base : Nat} {v : Value} {l : List Rg} (h : OwnR w base v l) (hb : Below w.heap.size w w') : OwnR w' base v l :=
  h.kept (row := none) ⟨hb.os, hb.tape, hb.output, hb.size, fun k hk _ => hb.block k hk⟩ (by cases hv : v.ownBlock <;> simp)
theorem OwnR.head {w : World} {base : Nat} {v : Value} {l : List Rg} (h : OwnR w base v l) (hn : 0 < l.length) : ∃ g cap, v = .slice (some ⟨g, 0, none⟩) l.length cap ∧ base ≤ g ∧ g < w.heap.size ∧ l.length ≤ cap ∧ cap ≤ maxLen := by
  rcases h.2 with ⟨_, h0⟩ | ⟨g, cap, cur, rfl, hb, hg, h1, h2, _⟩
  · omega
  · exact ⟨g, cap, rfl, hb, (Array.getElem?_eq_some_iff.1 hg).1, h1, h2⟩
theorem own_belowR {w wr w1 : World} {x : Value} {B : Nat} {l : List Rg} (hb : Below B w wr) (hB : B ≤ wr.heap.size) (hown : OwnR wr B x l) (hg : wr.grownBy w1 x.ownBlock) : Below B w w1 :=
  hb.trans (below_of_grown hg (fun g e => (hown.lt g e).1) hB)
theorem rv_one (l : List Rg) : ∀ u ∈ rv l, u.oneCell' = true := by
  intro u hu
  obtain ⟨d, _, h⟩ := List.mem_flatMap.1 hu
  simp [Rg.cells] at h
  rcases h with rfl | rfl <;> rfl
theorem run_appR (w : World) (ty : TypeId) {base : Nat} {v : Value} {l : List Rg} (hown : OwnR w base v l) {B : Nat} {A : Option Addr} {m c : Nat} {k : List Rg} (hr : Sl w B A (rv k)) (hm : m = k.length)
    (hl : l.length + k.length ≤ 1000000000) (hbase : base ≤ w.heap.size) :
    ∃ v' w', (Builtin.append_ #[40, 40] ty #[v, .slice A m c]).run Try.prog w = .ok v' w' ∧ OwnR w' base v' (l ++ k) ∧ w.grownBy w' v.ownBlock ∧ (v'.ownBlock = v.ownBlock ∨ v'.ownBlock = some w.heap.size) := by
  subst hm
  obtain ⟨i, hi, hz, hz1, hz2⟩ := info_parts rginfo
  rcases A with _ | ad
  · have hk : k = [] := by
      rcases hr with h | ⟨b, o, h, _⟩
      · have := rv_len k
        rw [h] at this
        exact List.eq_nil_of_length_eq_zero (by simp at this; omega)
      · cases h
    subst hk
    refine ⟨v, w, ?_, by simpa using hown, World.grownBy.refl w _, .inl rfl⟩
    rcases hown.2 with ⟨e, h0⟩ | ⟨g, cap', cur, e, hb0, hg0, hnc0, _⟩
    · subst e
      simp [Builtin.append_, run_underlying Try.underlying40, sizeOf, typeInfo, hi, Builtin.lenOf, Builtin.firstCells]
    · subst e
      simp [Builtin.append_, run_underlying Try.underlying40, sizeOf, typeInfo, hi, Builtin.lenOf, Builtin.firstCells, loadCells, hnc0, storeCells]
  · obtain ⟨v', w', hrun, h2, h3, _, h5⟩ := run_append_own_at (P := Try.prog) w base 40 ty 44 i (.agg #[.int .i64 0, .int .i64 0]) 2 16 Try.underlying40 hi hz hz1 hz2 rfl (by omega) v l.length (rv l) hown ad k.length c (rv k)
      (rv_len k) (fun j u hu => by
        rcases hr with h | ⟨b, o, h, _, _, hc⟩
        · rw [h] at hu; simp at hu
        · injection h with h
          subst h
          have : (⟨b, o, none⟩ : Addr).add j = ⟨b, o + j, none⟩ := by
            unfold Addr.add
            split
            · rename_i h0; subst h0; rfl
            · rfl
          rw [this]; exact hc j u hu) (rv_one k) (by simp only [maxLen]; omega) (by omega) hbase
    exact ⟨v', w', hrun, by rw [OwnR, rv_append, List.length_append]; exact h2, h3, h5⟩
section
variable {ops : Array Oper} {rest : List Oper} {o : Oper} {a : Act} {Q : Exit → Act → World → Prop} {w : World} {s x : Operand}
theorem wp_appR {K : Act → World → Prop} (ho : o.op = .call { callee := .builtin .append, args := #[s, x], argTypes := #[40, 40] })
    {base : Nat} {v : Value} {l : List Rg} (hown : OwnR w base v l) {B : Nat} {A : Option Addr} {m c : Nat} {k : List Rg} (hr : Sl w B A (rv k)) (hm : m = k.length)
    (hs : a.eval s = v) (hx : a.eval x = .slice A m c) (hl : l.length + k.length ≤ 1000000000) (hbase : base ≤ w.heap.size)
    (h : ∀ v' w', OwnR w' base v' (l ++ k) → w.grownBy w' v.ownBlock → (v'.ownBlock = v.ownBlock ∨ v'.ownBlock = some w.heap.size) → K (a.put o.dst v') w') : o.wp Try.prog a w K Q := by
  obtain ⟨v', w', hrun, h2, h3, h4⟩ := run_appR w o.type hown hr hm hl hbase (c := c)
  unfold Oper.wp execOp
  simp only [ho, resolve, invoke, builtin, Sem.run_bind, Sem.run_pure, Result.andThen_ok, List.map_toArray, List.map_cons, List.map_nil, hs, hx, hrun]
  exact h v' w' h2 h3 h4
theorem appRG (hgd : Region.wanted o (yielded ops a.tmps) = true) (ho : o.op = .call { callee := .builtin .append, args := #[s, x], argTypes := #[40, 40] })
    {base : Nat} {v : Value} {l : List Rg} (hown : OwnR w base v l) {B : Nat} {A : Option Addr} {m c : Nat} {k : List Rg} (hr : Sl w B A (rv k)) (hm : m = k.length)
    (hs : a.eval s = v) (hx : a.eval x = .slice A m c) (hl : l.length + k.length ≤ 1000000000) (hbase : base ≤ w.heap.size)
    (h : ∀ v' w', OwnR w' base v' (l ++ k) → w.grownBy w' v.ownBlock → (v'.ownBlock = v.ownBlock ∨ v'.ownBlock = some w.heap.size) → wpList Try.prog ops Q rest (a.put o.dst v') w') : wpList Try.prog ops Q (o :: rest) a w :=
  BigFrame.wpList_want hgd fun _ hK => wp_appR ho hown hr hm hs hx hl hbase fun v' w' h2 h3 h4 => hK _ _ (h v' w' h2 h3 h4)
end
/-! ### a row of dots that may be turned where it lies -/
def RowR (w : World) (g : Nat) (l : List Rg) : Prop := g < w.heap.size ∧ ∀ k, k < l.length → w.cell? ⟨g, k * 2, none⟩ = some (.int .i64 (l[k]?.getD ⟨0, 0⟩).a) ∧ w.cell? ⟨g, k * 2 + 1, none⟩ = some (.int .i64 (l[k]?.getD ⟨0, 0⟩).b) ∧ w.frozen? ⟨g, k * 2, none⟩ = false ∧ w.frozen? ⟨g, k * 2 + 1, none⟩ = false
theorem RowR.below {w w' : World} {g : Nat} {l : List Rg} (h : RowR w g l) (hb : Below w.heap.size w w') : RowR w' g l :=
  ⟨Nat.lt_of_lt_of_le h.1 hb.size, fun k hk => by
    obtain ⟨h1, h2, h3, h4⟩ := h.2 k hk
    exact ⟨(hb.cell h.1).trans h1, (hb.cell h.1).trans h2, (hb.frozen h.1).trans h3, (hb.frozen h.1).trans h4⟩⟩
theorem put2R_cell (w : World) (g i : Nat) (s : Rg) (h0 : (w.cell? ⟨g, i * 2, none⟩).isSome = true) (h1 : (w.cell? ⟨g, i * 2 + 1, none⟩).isSome = true) (k j : Nat) (hj : j < 2) :
    (((w.setCell ⟨g, i * 2, none⟩ (.int .i64 s.a)).setCell ⟨g, i * 2 + 1, none⟩ (.int .i64 s.b))).cell? ⟨g, k * 2 + j, none⟩ = if k = i then s.cells[j]? else w.cell? ⟨g, k * 2 + j, none⟩ := by
  obtain ⟨u0, e0⟩ := Option.isSome_iff_exists.1 h0
  obtain ⟨u1, e1⟩ := Option.isSome_iff_exists.1 h1
  by_cases hk : k = i
  · subst hk
    rw [if_pos rfl]
    rcases (by omega : j = 0 ∨ j = 1) with rfl | rfl
    · rw [setCell_other _ _ _ _ _ _ (.inr (by omega)), Nat.add_zero, World.cell?_setCell_same _ _ _ e0]; rfl
    · rw [World.cell?_setCell_same _ _ _ (u := u1) (by rw [setCell_other _ _ _ _ _ _ (.inr (by omega))]; exact e1)]; rfl
  · rw [if_neg hk, setCell_other _ _ _ _ _ _ (.inr (by omega)), setCell_other _ _ _ _ _ _ (.inr (by omega))]
def put2AtR (w : World) (g i : Nat) (s : Rg) : World := (w.setCell ⟨g, i * 2, none⟩ (.int .i64 s.a)).setCell ⟨g, i * 2 + 1, none⟩ (.int .i64 s.b)
theorem RowR.put {w : World} {g : Nat} {l : List Rg} (h : RowR w g l) {i : Nat} (hi : i < l.length) (s : Rg) : RowR (put2AtR w g i s) g (l.set i s) := by
  obtain ⟨q0, q1, _, _⟩ := h.2 i hi
  have hc := put2R_cell w g i s (by rw [q0]; rfl) (by rw [q1]; rfl)
  refine ⟨by unfold put2AtR; simpa using h.1, fun k hk => ?_⟩
  rw [List.length_set] at hk
  obtain ⟨h1, h2, h3, h4⟩ := h.2 k hk
  have c0 := hc k 0 (by omega)
  have c1 := hc k 1 (by omega)
  rw [Nat.add_zero] at c0
  unfold put2AtR
  refine ⟨c0.trans ?_, c1.trans ?_, by simp only [setCell_frozen]; exact h3, by simp only [setCell_frozen]; exact h4⟩
  · by_cases e : k = i
    · subst e; rw [if_pos rfl, List.getElem?_set_self hk]; rfl
    · rw [if_neg e, List.getElem?_set_ne (fun h => e h.symm)]; exact h1
  · by_cases e : k = i
    · subst e; rw [if_pos rfl, List.getElem?_set_self hk]; rfl
    · rw [if_neg e, List.getElem?_set_ne (fun h => e h.symm)]; exact h2
theorem RowR.sl {w : World} {g : Nat} {l : List Rg} (h : RowR w g l) : Sl w w.heap.size (some ⟨g, 0, none⟩) (rv l) := by
  refine .inr ⟨g, 0, rfl, h.1, h.1, fun j u hu => ?_⟩
  have hj : j < (rv l).length := by
    rcases Nat.lt_or_ge j (rv l).length with h | h
    · exact h
    · rw [List.getElem?_eq_none h] at hu; cases hu
  rw [rv_len] at hj
  have hk : j / 2 < l.length := by omega
  have hs : l[j / 2]? = some (l[j / 2]'hk) := List.getElem?_eq_getElem hk
  have hg := rv_get l (j / 2) (j % 2) _ hs (by omega)
  rw [show j / 2 * 2 + j % 2 = j by omega, hu] at hg
  obtain ⟨h1, h2, _, _⟩ := h.2 (j / 2) hk
  rw [hs, Option.getD_some] at h1 h2
  rw [Nat.zero_add]
  rcases (by omega : j % 2 = 0 ∨ j % 2 = 1) with e | e
  · rw [e] at hg
    rw [show j = j / 2 * 2 by omega, h1]; exact hg.symm
  · rw [e] at hg
    rw [show j = j / 2 * 2 + 1 by omega, h2]; exact hg.symm
theorem RowR.take {w : World} {g : Nat} {l : List Rg} (h : RowR w g l) (n : Nat) : RowR w g (l.take n) := by
  refine ⟨h.1, fun k hk => ?_⟩
  rw [List.length_take] at hk
  rw [List.getElem?_take, if_pos (by omega)]
  exact h.2 k (by omega)
theorem OwnR.row2 {w : World} {base g c : Nat} {l : List Rg} (h : OwnR w base (.slice (some ⟨g, 0, none⟩) l.length c) l) : RowR w g l := by
  refine ⟨(h.lt g rfl).2, fun k hk => ?_⟩
  have hs : l[k]? = some (l[k]'hk) := List.getElem?_eq_getElem hk
  have g0 := rv_get l k 0 _ hs (by omega)
  have g1 := rv_get l k 1 _ hs (by omega)
  rw [Nat.add_zero] at g0
  have c0 := h.cellAt (k * 2) (by omega)
  have c1 := h.cellAt (k * 2 + 1) (by omega)
  rw [hs]
  exact ⟨c0.trans g0, c1.trans g1, h.frozenAt _, h.frozenAt _⟩
theorem below_put2RAtR {B : Nat} {a w : World} (h : Below B a w) {g : Nat} (hg : B ≤ g) (i : Nat) (s : Rg) : Below B a (put2AtR w g i s) := (h.setCell hg _).setCell hg _
/-! ### clear -/
theorem below_setCellsR {B : Nat} {a : World} (b : Nat) (hb : B ≤ b) : ∀ (vs : List Value) (o : Nat) {w : World}, Below B a w → Below B a (w.setCells b o vs)
  | [], _, _, h => h
  | v :: vs, o, _, h => below_setCellsR b hb vs (o + 1) (h.setCell hb v)
theorem RowR.cleared {w : World} {g : Nat} {l : List Rg} (h : RowR w g l) (k : Nat) (hk : k ≤ l.length) (zs : List Value) : RowR (w.setCells g (k * 2) zs) g (l.take k) := by
  have hsz : ∀ (vs : List Value) (o : Nat) (w : World), (w.setCells g o vs).heap.size = w.heap.size := by
    intro vs
    induction vs with
    | nil => intro o w; rfl
    | cons v vs ih => intro o w; rw [World.setCells, ih]; simp
  refine ⟨by rw [hsz]; exact h.1, fun j hj => ?_⟩
  rw [List.length_take] at hj
  rw [List.getElem?_take, if_pos (by omega)]
  obtain ⟨h1, h2, h3, h4⟩ := h.2 j (by omega)
  rw [World.cell?_setCells_out g zs (k * 2) w _ (fun _ _ => .inl (by show j * 2 < k * 2; omega)), World.cell?_setCells_out g zs (k * 2) w _ (fun _ _ => .inl (by show j * 2 + 1 < k * 2; omega)), World.frozen?_setCells, World.frozen?_setCells]
  exact ⟨h1, h2, h3, h4⟩
theorem rgzero (w : World) : (zeroValue 44).run Try.prog w = .ok (.agg #[.int .i64 0, .int .i64 0]) w := by
  obtain ⟨i, hi, hz, _⟩ := info_parts rginfo
  simp [zeroValue, typeInfo, hi, hz]
theorem run_clear_rgs (w : World) (ty : TypeId) (b o n c : Nat) (hn : 0 < n)
    (hc : ∀ j, j < n * 2 → (w.cell? ⟨b, o + j, none⟩).isSome = true) (hf : ∀ j, j < n * 2 → w.frozen? ⟨b, o + j, none⟩ = false) :
    ∃ zs, (Builtin.clear_ #[40] ty #[.slice (some ⟨b, o, none⟩) n c]).run Try.prog w = .ok (.tuple #[]) (w.setCells b o zs) := by
  have hl : (Builtin.zeroCells #[Value.int .i64 0, Value.int .i64 0] n).toList.length = n * 2 := by simp [Builtin.zeroCells]
  have ho : ∀ v ∈ (Builtin.zeroCells #[Value.int .i64 0, Value.int .i64 0] n).toList, v.oneCell' = true := by
    intro v hv
    simp [Builtin.zeroCells] at hv
    obtain ⟨a, ha, rfl⟩ := hv
    rcases (by omega : a % 2 = 0 ∨ a % 2 = 1) with e | e <;> simp [e, Value.oneCell']
  have hst := run_storeCells_cells (P := Try.prog) b o (Builtin.zeroCells #[Value.int .i64 0, Value.int .i64 0] n).toList 0 w (by rw [hl]; simpa using hc) (by rw [hl]; simpa using hf) ho
  simp only [Nat.add_zero] at hst
  obtain ⟨m, rfl⟩ : ∃ m, n = m + 1 := ⟨n - 1, by omega⟩
  refine ⟨(Builtin.zeroCells #[Value.int .i64 0, Value.int .i64 0] (m + 1)).toList, ?_⟩
  simp [Builtin.clear_, run_underlying Try.underlying40, Value.cells, hst]
theorem run_appFR (w : World) (ty : TypeId) {B B' : Nat} {A A' : Option Addr} {n m c cap : Nat} {l k : List Rg} (hs : Sl w B A (rv l)) (hn : n = l.length) (hr : Sl w B' A' (rv k)) (hm : m = k.length)
    (hfull : cap < n + m) (hnil : A = none → n = 0 ∧ cap = 0) (hle : n ≤ cap) (hbytes : l.length + k.length ≤ 1000000000) :
    ∃ v' w', (Builtin.append_ #[40, 40] ty #[.slice A n cap, .slice A' m c]).run Try.prog w = .ok v' w' ∧ OwnR w' w.heap.size v' (l ++ k) ∧ w.grownBy w' none := by
  subst hn hm
  obtain ⟨i, hi, hz, hz1, hz2⟩ := info_parts rginfo
  have hkpos : 0 < k.length := by
    rcases Nat.eq_zero_or_pos k.length with h | h
    · omega
    · exact h
  obtain ⟨b', o', e', _, _, hc'⟩ := hr.at_ (k := 0) (by rw [rv_len]; omega)
  subst e'
  have hadd : ∀ (b o j : Nat), (⟨b, o, none⟩ : Addr).add j = ⟨b, o + j, none⟩ := by
    intro b o j
    unfold Addr.add
    split
    · rename_i h0; subst h0; rfl
    · rfl
  cases A with
  | none =>
    obtain ⟨h0, rfl⟩ := hnil rfl
    have hl : l = [] := List.eq_nil_of_length_eq_zero h0
    subst hl
    obtain ⟨v', w', h1, h2, h3, _⟩ := run_appR w ty (OwnR.nil w w.heap.size) hr (c := c) rfl hbytes (Nat.le_refl _)
    exact ⟨v', w', h1, h2, h3⟩
  | some a =>
    have holds : ∀ j u, (rv l)[j]? = some u → w.cell? (a.add j) = some u := by
      intro j u hu
      rcases hs with h | ⟨b, o, e, _, _, hc⟩
      · rw [h] at hu; cases hu
      · cases e
        rw [hadd]
        exact hc j u hu
    obtain ⟨v', w', hrun, h2, h3⟩ := run_append_arg_grows (P := Try.prog) w 40 ty 44 i (.agg #[.int .i64 0, .int .i64 0]) 2 16 Try.underlying40 hi hz hz1 hz2 rfl (by omega) a l.length cap (rv l) (rv_len l) holds
      ⟨b', o', none⟩ k.length c (rv k) (rv_len k) (fun j u hu => by rw [hadd]; exact hc' j u hu) hfull (by simp only [maxLen]; omega) (by omega)
    exact ⟨v', w', hrun, by rw [OwnR, rv_append, List.length_append]; exact h2, h3⟩
section
variable {ops : Array Oper} {rest : List Oper} {o : Oper} {a : Act} {Q : Exit → Act → World → Prop} {w : World} {s x : Operand}
theorem wp_appFR {K : Act → World → Prop} (ho : o.op = .call { callee := .builtin .append, args := #[s, x], argTypes := #[40, 40] })
    {B B' : Nat} {A A' : Option Addr} {n m c cap : Nat} {l k : List Rg} (hsl : Sl w B A (rv l)) (hn : n = l.length) (hr : Sl w B' A' (rv k)) (hm : m = k.length)
    (hs : a.eval s = .slice A n cap) (hx : a.eval x = .slice A' m c) (hfull : cap < n + m) (hnil : A = none → n = 0 ∧ cap = 0) (hle : n ≤ cap) (hbytes : l.length + k.length ≤ 1000000000)
    (h : ∀ v' w', OwnR w' w.heap.size v' (l ++ k) → w.grownBy w' none → K (a.put o.dst v') w') : o.wp Try.prog a w K Q := by
  obtain ⟨v', w', hrun, h2, h3⟩ := run_appFR w o.type hsl hn hr (c := c) hm hfull hnil hle hbytes
  unfold Oper.wp execOp
  simp only [ho, resolve, invoke, builtin, Sem.run_bind, Sem.run_pure, Result.andThen_ok, List.map_toArray, List.map_cons, List.map_nil, hs, hx, hrun]
  exact h v' w' h2 h3
theorem appR (hgd : o.guard = none) (ho : o.op = .call { callee := .builtin .append, args := #[s, x], argTypes := #[40, 40] })
    {base : Nat} {v : Value} {l : List Rg} (hown : OwnR w base v l) {B : Nat} {A : Option Addr} {m c : Nat} {k : List Rg} (hr : Sl w B A (rv k)) (hm : m = k.length)
    (hs : a.eval s = v) (hx : a.eval x = .slice A m c) (hl : l.length + k.length ≤ 1000000000) (hbase : base ≤ w.heap.size)
    (h : ∀ v' w', OwnR w' base v' (l ++ k) → w.grownBy w' v.ownBlock → (v'.ownBlock = v.ownBlock ∨ v'.ownBlock = some w.heap.size) → wpList Try.prog ops Q rest (a.put o.dst v') w') : wpList Try.prog ops Q (o :: rest) a w :=
  wpList_plain hgd fun _ hK => wp_appR ho hown hr hm hs hx hl hbase fun v' w' h2 h3 h4 => hK _ _ (h v' w' h2 h3 h4)
theorem appFR (hgd : o.guard = none) (ho : o.op = .call { callee := .builtin .append, args := #[s, x], argTypes := #[40, 40] })
    {B B' : Nat} {A A' : Option Addr} {n m c cap : Nat} {l k : List Rg} (hsl : Sl w B A (rv l)) (hn : n = l.length) (hr : Sl w B' A' (rv k)) (hm : m = k.length)
    (hs : a.eval s = .slice A n cap) (hx : a.eval x = .slice A' m c) (hfull : cap < n + m) (hnil : A = none → n = 0 ∧ cap = 0) (hle : n ≤ cap) (hbytes : l.length + k.length ≤ 1000000000)
    (h : ∀ v' w', OwnR w' w.heap.size v' (l ++ k) → w.grownBy w' none → wpList Try.prog ops Q rest (a.put o.dst v') w') : wpList Try.prog ops Q (o :: rest) a w :=
  wpList_plain hgd fun _ hK => wp_appFR ho hsl hn hr hm hs hx hfull hnil hle hbytes fun v' w' h2 h3 => hK _ _ (h v' w' h2 h3)
theorem appFRG (hgd : Region.wanted o (yielded ops a.tmps) = true) (ho : o.op = .call { callee := .builtin .append, args := #[s, x], argTypes := #[40, 40] })
    {B B' : Nat} {A A' : Option Addr} {n m c cap : Nat} {l k : List Rg} (hsl : Sl w B A (rv l)) (hn : n = l.length) (hr : Sl w B' A' (rv k)) (hm : m = k.length)
    (hs : a.eval s = .slice A n cap) (hx : a.eval x = .slice A' m c) (hfull : cap < n + m) (hnil : A = none → n = 0 ∧ cap = 0) (hle : n ≤ cap) (hbytes : l.length + k.length ≤ 1000000000)
    (h : ∀ v' w', OwnR w' w.heap.size v' (l ++ k) → w.grownBy w' none → wpList Try.prog ops Q rest (a.put o.dst v') w') : wpList Try.prog ops Q (o :: rest) a w :=
  BigFrame.wpList_want hgd fun _ hK => wp_appFR ho hsl hn hr hm hs hx hfull hnil hle hbytes fun v' w' h2 h3 => hK _ _ (h v' w' h2 h3)
end
theorem below_noneR {w w' : World} (hg : w.grownBy w' none) : Below w.heap.size w w' := ⟨hg.os, hg.tape, hg.output, hg.size, fun k hk => hg.block k hk (fun e => by cases e)⟩
theorem OwnR.lower {w : World} {base base' : Nat} {v : Value} {l : List Rg} (h : OwnR w base v l) (hb : base' ≤ base) : OwnR w base' v l := by
  refine ⟨h.1, ?_⟩
  rcases h.2 with h' | ⟨g, cap, cur, e, hg, h'⟩
  · exact .inl h'
  · exact .inr ⟨g, cap, cur, e, Nat.le_trans hb hg, h'⟩
theorem OwnR.lit (w : World) (_ : TypeId) (x : Rg) : OwnR (w.alloc (.cells #[.int .i64 x.a, .int .i64 x.b] 44)) w.heap.size (.slice (some ⟨w.heap.size, 0, none⟩) 1 1) [x] :=
  World.ownsRow_lit (base := w.heap.size) (e := 44) (size := 2) w #[.int .i64 x.a, .int .i64 x.b] 1 (Nat.le_refl _) (by simp [maxLen]) rfl
theorem addr_zeroR (a : Addr) : a.add 0 = a := by
  unfold Addr.add
  split
  · rfl
  · rename_i h; exact absurd rfl h
theorem rgsize : ∃ i, Try.prog.info? 44 = some i ∧ i.size = 2 := by
  obtain ⟨i, hi, hz, hz1, hz2⟩ := info_parts rginfo
  exact ⟨i, hi, hz1⟩
/-- s[:j:j] -/
theorem sl_preR (A : Option Addr) (m c j : Nat) (hj : j ≤ c) (w : World) :
    (Instr.sliceAt 40 (.slice A m c) none (some (.int .i64 (j : Int))) (some (.int .i64 (j : Int)))).run Try.prog w = .ok (.slice A j j) w := by
  obtain ⟨i, hi, hs⟩ := rgsize
  have e : A.map (fun x => x.add 0) = A := by cases A <;> simp [addr_zeroR]
  simp [Instr.sliceAt, Instr.slice, run_underlying Try.underlying40, Instr.sliceBounds, Instr.sliceBound, asIntOf, sizeOf, typeInfo, hi]
  rw [if_pos hj, e]
  simp
theorem rv_drop (ls : List Rg) (k : Nat) : (rv ls).drop (k * 2) = rv (ls.drop k) := by
  induction ls generalizing k with
  | nil => simp [rv]
  | cons x t ih =>
    cases k with
    | zero => simp [rv]
    | succ k =>
      show (x.cells ++ rv t).drop ((k + 1) * 2) = rv (t.drop k)
      rw [← ih k, show (k + 1) * 2 = x.cells.length + k * 2 by simp [Rg.cells]; omega, List.drop_length_add_append]
/-- s[j:] -/
theorem sl_postR (A : Option Addr) (m c j : Nat) (hj : j ≤ m) (hc : m ≤ c) :
    ∃ A2, (∀ w, (Instr.sliceAt 40 (.slice A m c) (some (.int .i64 (j : Int))) none none).run Try.prog w = .ok (.slice A2 (m - j) (c - j)) w) ∧ ∀ (w : World) (B : Nat) (o : List Rg), o.length = m → Sl w B A (rv o) → Sl w B A2 (rv (o.drop j)) := by
  obtain ⟨i, hi, hs⟩ := rgsize
  refine ⟨if c = j then A else A.map (fun x => x.add (j * i.size)), fun w => ?_, fun w B o ho hS => ?_⟩
  · simp [Instr.sliceAt, Instr.slice, run_underlying Try.underlying40, Instr.sliceBounds, Instr.sliceBound, asIntOf, sizeOf, typeInfo, hi]
    intro h; omega
  · have h := hS.cut (j * 2) (c * 2) (by rw [rv_len]; omega)
    rw [rv_drop] at h
    rw [hs]
    by_cases e : c = j
    · rw [if_pos e]; rw [if_pos (by omega)] at h; exact h
    · rw [if_neg e]; rw [if_neg (by omega)] at h; exact h
theorem exec_preR {a : Act} {o : Oper} {x y z : Operand} (ho : o.op = .slice 40 x none (some y) (some z)) {A : Option Addr} {m c j : Nat} (hx : a.eval x = .slice A m c) (hy : a.eval y = .int .i64 (j : Int)) (hz : a.eval z = .int .i64 (j : Int)) (hj : j ≤ c) (w : World) :
    (execOp a.eval o).run Try.prog w = .ok (.value (.slice A j j)) w := by
  have h := sl_preR A m c j hj w
  simp [execOp, ho, hx, hy, hz, h]
theorem exec_postR {a : Act} {o : Oper} {x y : Operand} (ho : o.op = .slice 40 x (some y) none none) {A A2 : Option Addr} {m c j : Nat} (hx : a.eval x = .slice A m c) (hy : a.eval y = .int .i64 (j : Int))
    (h : ∀ w, (Instr.sliceAt 40 (.slice A m c) (some (.int .i64 (j : Int))) none none).run Try.prog w = .ok (.slice A2 (m - j) (c - j)) w) (w : World) :
    (execOp a.eval o).run Try.prog w = .ok (.value (.slice A2 (m - j) (c - j))) w := by
  simp [execOp, ho, hx, hy, h]
end Go.Proofs.Ytaflikgdlkaefaa
/- A block whose cells are known, one by one. -/
namespace Go.Proofs.Ytaflikgdlkaefaa
open Go.RowKit

def At (w : World) (g : Nat) (vs : List Value) : Prop := g < w.heap.size ∧ ∀ i v, vs[i]? = some v → w.cell? ⟨g, i, none⟩ = some v ∧ w.frozen? ⟨g, i, none⟩ = false
section
variable {w w' : World} {g g' : Nat} {vs us : List Value}
theorem At.lt (h : At w g vs) : g < w.heap.size := h.1
theorem At.c (h : At w g vs) (i : Nat) {v : Value} (hv : vs[i]? = some v) : w.cell? ⟨g, i, none⟩ = some v := (h.2 i v hv).1
theorem At.f (h : At w g vs) (i : Nat) {v : Value} (hv : vs[i]? = some v) : w.frozen? ⟨g, i, none⟩ = false := (h.2 i v hv).2
theorem At.e (h : At w g vs) (i : Nat) {v : Value} (hv : vs[i]? = some v) : ∀ W, KB w.heap W → W.cell? ⟨g, i, none⟩ = some v := cellB (h.c i hv)
theorem At.belowB {B : Nat} (h : At w g vs) (hg : g < B) (hb : Below B w w') (hs : w.heap.size ≤ w'.heap.size) : At w' g vs :=
  ⟨Nat.lt_of_lt_of_le h.1 hs, fun i _v hv => ⟨(hb.cell hg).trans (h.c i hv), (hb.frozen hg).trans (h.f i hv)⟩⟩
theorem At.below (h : At w g vs) (hb : Below w.heap.size w w') : At w' g vs := h.belowB h.1 hb hb.size
theorem At.drew (h : At w g vs) : At w.drew g vs := h
theorem At.alloc (h : At w g vs) (o : Obj) : At (w.alloc o) g vs := h.below (balloc (Below.refl _ _) o)
theorem At.new (w : World) (t : TypeId) (cs : Array Value) : At (w.alloc (.cells cs t)) w.heap.size cs.toList := by
  refine ⟨by simp, fun i v hv => ?_⟩
  obtain ⟨b, o, e, _, _, h⟩ := (Sl.new w t cs (0, 0)).at_ (k := i) (List.getElem?_eq_some_iff.1 hv).1
  cases e
  have := h i v hv
  rw [Nat.zero_add] at this
  exact ⟨this, by rw [frozen?_alloc_cells]; simp [World.frozen?]⟩
theorem At.set_other (h : At w g vs) (o : Nat) (v : Value) (hne : g' ≠ g) : At (w.setCell ⟨g', o, none⟩ v) g vs := by
  refine ⟨by simpa using h.1, fun i u hu => ⟨?_, ?_⟩⟩
  · rw [World.cell?_setCell_other _ _ _ _ (by intro e; injection e with e1 _; exact hne e1)]
    exact h.c i hu
  · have : (w.setCell ⟨g', o, none⟩ v).frozen? ⟨g, i, none⟩ = w.frozen? ⟨g, i, none⟩ := World.frozen?_setCells g' [v] o w _
    rw [this]; exact h.f i hu
theorem At.set (h : At w g vs) (o : Nat) (v : Value) (ho : o < vs.length) : At (w.setCell ⟨g, o, none⟩ v) g (vs.set o v) := by
  have hf : ∀ x, (w.setCell ⟨g, o, none⟩ v).frozen? x = w.frozen? x := fun x => World.frozen?_setCells g [v] o w x
  refine ⟨by simpa using h.1, fun i u hu => ?_⟩
  by_cases hi : o = i
  · subst hi
    rw [List.getElem?_set_self ho] at hu
    cases hu
    refine ⟨World.cell?_setCell_same _ _ _ (h.c o (List.getElem?_eq_getElem ho)), ?_⟩
    rw [hf]; exact h.f o (List.getElem?_eq_getElem ho)
  · rw [List.getElem?_set_ne hi] at hu
    refine ⟨?_, by rw [hf]; exact h.f i hu⟩
    rw [World.cell?_setCell_other _ _ _ _ (by intro e; injection e with _ e2; exact hi e2)]
    exact h.c i hu
/-- cells stored one behind another -/
def putL (w : World) (g : Nat) : Nat → List Value → World
  | _, [] => w
  | i, v :: vs => putL (w.setCell ⟨g, i, none⟩ v) g (i + 1) vs
theorem At.putL_other : ∀ (us : List Value) (o : Nat) (w : World), At w g vs → g' ≠ g → At (putL w g' o us) g vs
  | [], _, _, h, _ => h
  | u :: us, o, _w, h, hne => At.putL_other us (o + 1) _ (h.set_other o u hne) hne
theorem At.putL_at : ∀ (us pre : List Value) (w : World) (rest : List Value), At w g (pre ++ rest) → us.length = rest.length → At (putL w g pre.length us) g (pre ++ us)
  | [], pre, w, rest, h, hl => by
    have : rest = [] := List.eq_nil_of_length_eq_zero (by simpa using hl.symm)
    subst this
    exact h
  | u :: us, pre, w, [], h, hl => by simp at hl
  | u :: us, pre, w, r :: rest, h, hl => by
    have h1 := h.set pre.length u (by simp)
    rw [List.set_append, if_neg (by omega), Nat.sub_self, List.set_cons_zero] at h1
    have h2 := At.putL_at us (pre ++ [u]) (w.setCell ⟨g, pre.length, none⟩ u) rest (by simpa using h1) (by simpa using hl)
    simpa [putL] using h2
theorem At.putL (h : At w g vs) (us : List Value) (hl : us.length = vs.length) : At (putL w g 0 us) g us := by
  simpa using At.putL_at us [] w vs h hl
theorem At.grown (h : At w g vs) {row : Option Nat} (hg : w.grownBy w' row) (hne : row ≠ some g) : At w' g vs := by
  have hb := hg.block g h.1 (fun e => hne e.symm)
  exact ⟨Nat.lt_of_lt_of_le h.1 hg.size, fun i v hv => ⟨(World.cell?_of_block (w := w) hb).trans (h.c i hv), (World.frozen?_of_block (w := w) hb).trans (h.f i hv)⟩⟩
end
theorem below_putL : ∀ (us : List Value) (o : Nat) {B : Nat} {a w : World} (_ : Below B a w) {g : Nat} (_ : B ≤ g), Below B a (putL w g o us)
  | [], _, _, _, _, h, _, _ => h
  | u :: us, o, _, _, _, h, _, hg => below_putL us (o + 1) (h.setCell hg u) hg
theorem putL_size : ∀ (us : List Value) (o : Nat) (w : World) (g : Nat), (putL w g o us).heap.size = w.heap.size
  | [], _, _, _ => rfl
  | u :: us, o, w, g => by simp [putL, putL_size us]
theorem grown_putL : ∀ (us : List Value) (o : Nat) {w w' : World} {g : Nat} (_ : w.grownBy w' (some g)) {g' : Nat} (_ : g' = g ∨ w.heap.size ≤ g'), w.grownBy (putL w' g' o us) (some g)
  | [], _, _, _, _, h, _, _ => h
  | u :: us, o, w, w', g, h, g', hg => by
    refine grown_putL us (o + 1) (w' := w'.setCell ⟨g', o, none⟩ u) ?_ hg
    refine ⟨h.os, h.tape, h.output, by simpa using h.size, fun k hk hne => ?_⟩
    have hk' : k ≠ g' := by
      rcases hg with rfl | hg
      · intro e; exact hne (by rw [e])
      · omega
    rw [Below.heap_setCell _ _ _ _ hk']
    exact h.block k hk hne
theorem At.newB {B : Nat} {a W : World} (_ : Below B a W) (t : TypeId) (cs : Array Value) : At (W.alloc (.cells cs t)) W.heap.size cs.toList := At.new W t cs
theorem At.sl {w : World} {g : Nat} {vs : List Value} (h : At w g vs) : Sl w w.heap.size (some ⟨g, 0, none⟩) vs := by
  refine .inr ⟨g, 0, rfl, h.1, h.1, fun j u hu => ?_⟩
  rw [Nat.zero_add]
  exact h.c j hu
theorem At.slb {w : World} {g : Nat} {vs : List Value} (h : At w g vs) {l : List UInt8} (hl : vs = bv l) : Sl w w.heap.size (some ⟨g, 0, none⟩) (bv l) := hl ▸ h.sl
theorem own_above {w : World} {base g : Nat} {v : Value} {l : List UInt8} (h : OwnB w base v l) (hlt : g < base) : v.ownBlock ≠ some g := by
  intro e
  have := (h.lt _ e).1
  omega
theorem own_ne {w : World} {base : Nat} {v : Value} {l : List UInt8} (h : OwnB w base v l) : v.ownBlock ≠ some w.heap.size := by
  intro e
  have := (h.lt _ e).2
  omega
end Go.Proofs.Ytaflikgdlkaefaa
/- A region that draws its order, held by whatever is said of memory. -/
namespace Go.Proofs.Ytaflikgdlkaefaa
open Go.RowKit

def AtS (g : Nat) (vs : List Value) (W : World) : Prop := At W g vs
theorem AtS.e {g : Nat} {vs : List Value} (i : Nat) {v : Value} (hv : vs[i]? = some v) : ∀ W, AtS g vs W → W.cell? ⟨g, i, none⟩ = some v := fun _ h => h.c i hv
def wpS (P : Program) (ops : Array Oper) (Q : Exit → Act → World → Prop) (S : World → Prop) (fuel : Nat) (listed : Array Bool) (a : Act) (w : World) : Prop := wpAnyH P .any ops Q S fuel listed a w
section
variable {P : Program} {ops : Array Oper} {Q : Exit → Act → World → Prop}
theorem bstartS (S : World → Prop) {id : Nat} {a : Act} {w : World} (hm : P.follows .mixedOrders = true) (hh : wpS P ops Q S ops.size (Array.replicate ops.size false) a w.drew) : (Code.region id ops true).wp P Q a w := wp_region_held hm hh
theorem btakeS (i : Nat) {oi : Oper} {v : Value} {S : World → Prop} {fuel : Nat} {listed : Array Bool} {a : Act} {w : World} (hi : ops[i]? = some oi) (hok : okTake ops listed i = true)
    (hQ : ∀ c a w, Q (.panic c) (a.put oi.dst v) w → Q (.panic c) a w) (hS : S w)
    (hy : (Region.wanted oi (yielded ops a.tmps) = true ∧ ∀ W, S W → (execOp a.eval oi).run P W = .ok (.value v) W) ∨ (Region.wanted oi (yielded ops a.tmps) = false ∧ v = undef))
    (hr : wpS P ops Q S fuel (listed.setIfInBounds i true) (a.put oi.dst v) w) : wpS P ops Q S (fuel + 1) listed a w := by
  simp only [okTake, Bool.and_eq_true] at hok
  exact wpAnyH_take hi hok.1.1 hok.1.2 hok.2 hQ hy hS hr
theorem bopS (i : Nat) {o : Oper} {S : World → Prop} {fuel : Nat} {listed : Array Bool} {a : Act} {w : World} (hi : ops[i]? = some o) (hok : okOp ops listed i = true)
    (hw : Region.wanted o (yielded ops a.tmps) = true)
    (hr : ∀ K : Act → World → Prop, Shut (∀ a' w', S w' → wpS P ops Q S fuel (listed.setIfInBounds i true) a' w' → K a' w') → o.wp P a w K Q) : wpS P ops Q S (fuel + 1) listed a w := by
  have hok' : Region.ready .any ops listed = [i] := by simpa [okOp] using hok
  refine wpAnyH_all hok' (by simp) fun j hj => ?_
  obtain rfl : j = i := by simpa using hj
  unfold wpOp
  simp only [hi, hw, if_true]
  exact .inl (hr _ (fun a' w' hk hb => ⟨hk, hb⟩))
theorem bdoneS {S : World → Prop} {fuel : Nat} {listed : Array Bool} {a : Act} {w : World} (hr : Region.ready .any ops listed = []) (hq : Q .normal a w) : wpS P ops Q S fuel listed a w := wpAnyH_done hr hq fuel
end
end Go.Proofs.Ytaflikgdlkaefaa
/- Ranges: put, a range behind others. -/
namespace Go.Proofs.Ytaflikgdlkaefaa
open Go.RowKit Go.Proofs.Ytaflikgdlkaefaa.Pl Go.Proofs.Ytaflikgdlkaefaa.Sp
set_option maxRecDepth 20000

theorem rv_set_last (p : List Rg) (x : Rg) (z : Int) : (rv (p ++ [x])).set (p.length * 2 + 1) (.int .i64 z) = rv (p ++ [⟨x.a, z⟩]) := by
  rw [rv_append, rv_append, List.set_append, if_neg (by rw [rv_len]; omega), rv_len, show p.length * 2 + 1 - p.length * 2 = 1 by omega]
  rfl
theorem OwnR.setLast {w : World} {base g n cap : Nat} {p : List Rg} {x : Rg} (h : OwnR w base (.slice (some ⟨g, 0, none⟩) n cap) (p ++ [x])) (z : Int) :
    OwnR (w.setCell ⟨g, p.length * 2 + 1, none⟩ (.int .i64 z)) base (.slice (some ⟨g, 0, none⟩) n cap) (p ++ [⟨x.a, z⟩]) ∧ w.grownBy (w.setCell ⟨g, p.length * 2 + 1, none⟩ (.int .i64 z)) (some g) := by
  have hn : n = (p ++ [x]).length := by
    rcases h.2 with ⟨h', _⟩ | ⟨_, _, _, h', _⟩
    · simp at h'
    · simp only [Value.slice.injEq] at h'; exact h'.2.1
  subst hn
  have := h.stored (p.length * 2 + 1) (.int .i64 z)
  rw [rv_set_last] at this
  have e : (p ++ [x]).length = (p ++ [(⟨x.a, z⟩ : Rg)]).length := by simp
  refine ⟨?_, this.2⟩
  have h1 := this.1
  simp only [OwnR, ← e]
  exact h1
theorem OwnR.row2n {w : World} {base g c n : Nat} {l : List Rg} (h : OwnR w base (.slice (some ⟨g, 0, none⟩) n c) l) : RowR w g l := by
  have hn : n = l.length := by
    rcases h.2 with ⟨h', _⟩ | ⟨_, _, _, h', _⟩
    · simp at h'
    · simp only [Value.slice.injEq] at h'; exact h'.2.1
  subst hn
  exact h.row2
theorem putR_snoc (p : List Rg) (x r : Rg) : putR (p ++ [x]) r = if r.a ≤ x.b + 1 then p ++ [⟨x.a, max x.b r.b⟩] else (p ++ [x]) ++ [r] := by
  unfold putR
  simp
theorem putR_nil (r : Rg) : putR [] r = [r] := rfl
theorem boxR (w : World) (r : Rg) : Below w.heap.size w (w.alloc (.cells #[.int .i64 r.a, .int .i64 r.b] 44)) := balloc (Below.refl _ _) _
set_option maxRecDepth 100000 in
set_option maxHeartbeats 3200000 in
theorem RgPut_any (W0 w : World) (v : Value) (o : List Rg) (r : Rg) (hown : OwnR w W0.heap.size v o) (hW : Below W0.heap.size W0 w) (ho : ∀ x, o.getLast? = some x → 1 ≤ x.b ∧ x.b ≤ 1099511627775) (hl : o.length < 1000000000) :
    Calls Try.prog 72 #[v, r.v] w fun e w' => ∃ v', e = .returned v' ∧ OwnR w' W0.heap.size v' (putR o r) ∧ Below W0.heap.size W0 w' := by
  unfold Rg.v
  have hbw := hW.size
  have hsp : o = [] ∨ ∃ p x, o = p ++ [x] := by
    rcases List.eq_nil_or_concat o with h | ⟨p, x, h⟩
    · exact .inl h
    · exact .inr ⟨p, x, by rw [h, List.concat_eq_append]⟩
  rcases hsp with rfl | ⟨p, x, rfl⟩
  · have hq := putR_nil r
    generalize putR [] r = q at *
    subst hq
    obtain ⟨A, c, rfl, h1, h2, h3, _⟩ := hown.form
    have HQ := Lib.hid (putR_nil r)
    have hown1 := hown.below (boxR w r)
    have hbox := StandsR.new w 44 r
    have hW1 := balloc hW (.cells #[.int .i64 r.a, .int .i64 r.b] 44)
    go_enter Try.func72, Try.ntmps72
    go_wp2_with fail
    refine bstart (by kernel_rfl) ?_
    refine btake 0 (oi := _) (v := ?_) (by simp only [List.getElem?_toArray, List.getElem?_cons_zero]; rfl) (by kernel_rfl) (by exact fun _ _ _ h => h) (by first | assumption | exact KB.refl _) (.inl ⟨by rfl, fun W hW => ?_⟩) ?_; rotate_left
    · (go_simp; first | done | with_reducible rfl)
    try simp only [Act.put, List.setIfInBounds_toArray, List.set_cons_zero, List.set_cons_succ]
    refine btake 1 (oi := _) (v := ?_) (by simp only [getElem?_toArray, getElem?_cons_succ, getElem?_cons_zero]; rfl) (by kernel_rfl) (by exact fun _ _ _ h => h) (by first | assumption | exact KB.refl _) (.inl ⟨by rfl, fun W hW => ?_⟩) ?_; rotate_left
    · (go_simp; first | done | with_reducible rfl)
    try simp only [Act.put, List.setIfInBounds_toArray, List.set_cons_zero, List.set_cons_succ]
    refine btake 2 (oi := _) (v := ?_) (by simp only [getElem?_toArray, getElem?_cons_succ, getElem?_cons_zero]; rfl) (by kernel_rfl) (by exact fun _ _ _ h => h) (by first | assumption | exact KB.refl _) (.inl ⟨by rfl, fun W hW => ?_⟩) ?_; rotate_left
    · (go_simp; first | done | with_reducible rfl)
    try simp only [Act.put, List.setIfInBounds_toArray, List.set_cons_zero, List.set_cons_succ]
    refine btake 3 (oi := _) (v := undef) (by simp only [getElem?_toArray, getElem?_cons_succ, getElem?_cons_zero]; rfl) (by kernel_rfl) (by exact fun _ _ _ h => h) (by first | assumption | exact KB.refl _) (.inr ⟨by rfl, rfl⟩) ?_
    try simp only [Act.put, List.setIfInBounds_toArray, List.set_cons_zero, List.set_cons_succ]
    refine btake 4 (oi := _) (v := undef) (by simp only [getElem?_toArray, getElem?_cons_succ, getElem?_cons_zero]; rfl) (by kernel_rfl) (by exact fun _ _ _ h => h) (by first | assumption | exact KB.refl _) (.inr ⟨by rfl, rfl⟩) ?_
    try simp only [Act.put, List.setIfInBounds_toArray, List.set_cons_zero, List.set_cons_succ]
    refine btake 5 (oi := _) (v := undef) (by simp only [getElem?_toArray, getElem?_cons_succ, getElem?_cons_zero]; rfl) (by kernel_rfl) (by exact fun _ _ _ h => h) (by first | assumption | exact KB.refl _) (.inr ⟨by rfl, rfl⟩) ?_
    try simp only [Act.put, List.setIfInBounds_toArray, List.set_cons_zero, List.set_cons_succ]
    refine btake 6 (oi := _) (v := undef) (by simp only [getElem?_toArray, getElem?_cons_succ, getElem?_cons_zero]; rfl) (by kernel_rfl) (by exact fun _ _ _ h => h) (by first | assumption | exact KB.refl _) (.inr ⟨by rfl, rfl⟩) ?_
    try simp only [Act.put, List.setIfInBounds_toArray, List.set_cons_zero, List.set_cons_succ]
    refine btake 7 (oi := _) (v := undef) (by simp only [getElem?_toArray, getElem?_cons_succ, getElem?_cons_zero]; rfl) (by kernel_rfl) (by exact fun _ _ _ h => h) (by first | assumption | exact KB.refl _) (.inr ⟨by rfl, rfl⟩) ?_
    try simp only [Act.put, List.setIfInBounds_toArray, List.set_cons_zero, List.set_cons_succ]
    refine btake 8 (oi := _) (v := undef) (by simp only [getElem?_toArray, getElem?_cons_succ, getElem?_cons_zero]; rfl) (by kernel_rfl) (by exact fun _ _ _ h => h) (by first | assumption | exact KB.refl _) (.inr ⟨by rfl, rfl⟩) ?_
    try simp only [Act.put, List.setIfInBounds_toArray, List.set_cons_zero, List.set_cons_succ]
    refine btake 9 (oi := _) (v := undef) (by simp only [getElem?_toArray, getElem?_cons_succ, getElem?_cons_zero]; rfl) (by kernel_rfl) (by exact fun _ _ _ h => h) (by first | assumption | exact KB.refl _) (.inr ⟨by rfl, rfl⟩) ?_
    try simp only [Act.put, List.setIfInBounds_toArray, List.set_cons_zero, List.set_cons_succ]
    refine btake 10 (oi := _) (v := undef) (by simp only [getElem?_toArray, getElem?_cons_succ, getElem?_cons_zero]; rfl) (by kernel_rfl) (by exact fun _ _ _ h => h) (by first | assumption | exact KB.refl _) (.inr ⟨by rfl, rfl⟩) ?_
    try simp only [Act.put, List.setIfInBounds_toArray, List.set_cons_zero, List.set_cons_succ]
    refine btake 11 (oi := _) (v := undef) (by simp only [getElem?_toArray, getElem?_cons_succ, getElem?_cons_zero]; rfl) (by kernel_rfl) (by exact fun _ _ _ h => h) (by first | assumption | exact KB.refl _) (.inr ⟨by rfl, rfl⟩) ?_
    try simp only [Act.put, List.setIfInBounds_toArray, List.set_cons_zero, List.set_cons_succ]
    refine btake 12 (oi := _) (v := undef) (by simp only [getElem?_toArray, getElem?_cons_succ, getElem?_cons_zero]; rfl) (by kernel_rfl) (by exact fun _ _ _ h => h) (by first | assumption | exact KB.refl _) (.inr ⟨by rfl, rfl⟩) ?_
    try simp only [Act.put, List.setIfInBounds_toArray, List.set_cons_zero, List.set_cons_succ]
    refine btake 13 (oi := _) (v := ?_) (by simp only [getElem?_toArray, getElem?_cons_succ, getElem?_cons_zero]; rfl) (by kernel_rfl) (by exact fun _ _ _ h => h) (by first | assumption | exact KB.refl _) (.inl ⟨by rfl, fun W hW => ?_⟩) ?_; rotate_left
    · (go_simp; first | done | with_reducible rfl)
    try simp only [Act.put, List.setIfInBounds_toArray, List.set_cons_zero, List.set_cons_succ]
    refine bdone (by kernel_rfl) ?_
    have hst2 := hbox.below (Below.refl _ _).drew
    have how2 := hown1.below (Below.refl _ _).drew
    have hbz := hW1.drew
    generalize (w.alloc (.cells #[.int .i64 r.a, .int .i64 r.b] 44)).drew = wz at hst2 how2 hbz ⊢
    clear hown hown1 hbox hW1
    have m0 := hst2.2.1
    have m1 := hst2.2.2.1
    have how3 := how2.below (balloc (Below.refl _ _) (.cells #[.int .i64 r.a, .int .i64 r.b] 44))
    have hbz3 := hbz.alloc hbz.size (.cells #[.int .i64 r.a, .int .i64 r.b] 44)
    have hSl : Sl (wz.alloc (.cells #[.int .i64 r.a, .int .i64 r.b] 44)) (wz.heap.size + 1) (some ⟨wz.heap.size, 0, none⟩) (rv [r]) := Sl.new wz 44 #[.int .i64 r.a, .int .i64 r.b] (0, 0)
    clear hst2 how2
    go_wp2_with (at_builtin; refine appR rfl rfl how3 hSl rfl rfl rfl (by first | (have := HL.out; rw [this.2, List.length_singleton]; omega) | simp) hbz3.size ?_; intro v7 w7 h7 hg7 hat7)
    go_ret
    exact ⟨v7, rfl, by first | exact h7 | (rw [HQ.out]; exact h7), own_belowR hbz3 hbz3.size how3 hg7⟩
  · obtain ⟨hx1, hx2⟩ := ho x (by simp)
    obtain ⟨g, cap, hv, hg1, hg2, hcp, hcm⟩ := hown.head (by simp)
    have hnl : (p ++ [x]).length = p.length + 1 := by simp
    rw [hnl] at hv hcp
    subst hv
    have hown1 := hown.below (boxR w r)
    have hbox := StandsR.new w 44 r
    have hW1 := balloc hW (.cells #[.int .i64 r.a, .int .i64 r.b] 44)
    have hq := putR_snoc p x r
    obtain ⟨c0, c1, f0, f1⟩ := hown1.row2n.2 p.length (by simp)
    rw [show (p ++ [x])[p.length]?.getD ⟨0, 0⟩ = x by simp] at c0 c1
    have m0 := hbox.2.1
    have m1 := hbox.2.2.1
    have w1' : IntKind.i64.wrap (x.b + 1) = x.b + 1 := by rw [IntKind.wrap_i64]; omega
    have w2' : IntKind.i64.wrap (p.length : Int) = (p.length : Int) := by rw [IntKind.wrap_i64]; simp at hl; omega
    have d1 : decide ((0 : Int) < (p.length : Int) + 1) = true := by rw [decide_eq_true_eq]; omega
    have n0 : (0 : Int) ≤ (p.length : Int) := by omega
    have n1 : (p.length : Int) < (p.length : Int) + 1 := by omega
    have HL := Lib.hid (And.intro hl hnl)
    clear hl hnl
    have q0 := cellB m0
    have q1 := cellB m1
    have q2 := cellB c1
    by_cases hc : r.a ≤ x.b + 1
    · have d2 : decide (r.a ≤ x.b + 1) = true := by rw [decide_eq_true_eq]; exact hc
      rw [if_pos hc] at hq
      have HQ := Lib.hid hq
      clear hq hc ho
      go_enter Try.func72, Try.ntmps72
      go_wp2_with fail
      refine bstart (by kernel_rfl) ?_
      refine btake 0 (oi := _) (v := ?_) (by simp only [List.getElem?_toArray, List.getElem?_cons_zero]; rfl) (by kernel_rfl) (by exact fun _ _ _ h => h) (by first | assumption | exact KB.refl _) (.inl ⟨by rfl, fun W hW => ?_⟩) ?_; rotate_left
      · (go_simp; first | done | with_reducible rfl)
      try simp only [Act.put, List.setIfInBounds_toArray, List.set_cons_zero, List.set_cons_succ]
      refine btake 1 (oi := _) (v := ?_) (by simp only [getElem?_toArray, getElem?_cons_succ, getElem?_cons_zero]; rfl) (by kernel_rfl) (by exact fun _ _ _ h => h) (by first | assumption | exact KB.refl _) (.inl ⟨by rfl, fun W hW => ?_⟩) ?_; rotate_left
      · (go_simp; first | done | with_reducible rfl)
      try simp only [Act.put, List.setIfInBounds_toArray, List.set_cons_zero, List.set_cons_succ]
      refine btake 2 (oi := _) (v := ?_) (by simp only [getElem?_toArray, getElem?_cons_succ, getElem?_cons_zero]; rfl) (by kernel_rfl) (by exact fun _ _ _ h => h) (by first | assumption | exact KB.refl _) (.inl ⟨by rfl, fun W hW => ?_⟩) ?_; rotate_left
      · (go_simp; first | done | with_reducible rfl)
      try simp only [Act.put, List.setIfInBounds_toArray, List.set_cons_zero, List.set_cons_succ]
      refine btake 3 (oi := _) (v := ?_) (by simp only [getElem?_toArray, getElem?_cons_succ, getElem?_cons_zero]; rfl) (by kernel_rfl) (by exact fun _ _ _ h => h) (by first | assumption | exact KB.refl _) (.inl ⟨by rfl, fun W hW => ?_⟩) ?_; rotate_left
      · (go_simp; first | done | with_reducible rfl)
      try simp only [Act.put, List.setIfInBounds_toArray, List.set_cons_zero, List.set_cons_succ]
      refine btake 4 (oi := _) (v := ?_) (by simp only [getElem?_toArray, getElem?_cons_succ, getElem?_cons_zero]; rfl) (by kernel_rfl) (by exact fun _ _ _ h => h) (by first | assumption | exact KB.refl _) (.inl ⟨by rfl, fun W hW => ?_⟩) ?_; rotate_left
      · (go_simp; first | done | with_reducible rfl)
      try simp only [Act.put, List.setIfInBounds_toArray, List.set_cons_zero, List.set_cons_succ]
      refine btake 5 (oi := _) (v := ?_) (by simp only [getElem?_toArray, getElem?_cons_succ, getElem?_cons_zero]; rfl) (by kernel_rfl) (by exact fun _ _ _ h => h) (by first | assumption | exact KB.refl _) (.inl ⟨by rfl, fun W hW => ?_⟩) ?_; rotate_left
      · (go_simp; first | done | with_reducible rfl)
      try simp only [Act.put, List.setIfInBounds_toArray, List.set_cons_zero, List.set_cons_succ]
      refine btake 6 (oi := _) (v := ?_) (by simp only [getElem?_toArray, getElem?_cons_succ, getElem?_cons_zero]; rfl) (by kernel_rfl) (by exact fun _ _ _ h => h) (by first | assumption | exact KB.refl _) (.inl ⟨by rfl, fun W hW => ?_⟩) ?_; rotate_left
      · (go_simp; first | done | with_reducible rfl)
      try simp only [Act.put, List.setIfInBounds_toArray, List.set_cons_zero, List.set_cons_succ]
      refine btake 7 (oi := _) (v := ?_) (by simp only [getElem?_toArray, getElem?_cons_succ, getElem?_cons_zero]; rfl) (by kernel_rfl) (by exact fun _ _ _ h => h) (by first | assumption | exact KB.refl _) (.inl ⟨by rfl, fun W hW => ?_⟩) ?_; rotate_left
      · (go_simp; first | done | with_reducible rfl)
      try simp only [Act.put, List.setIfInBounds_toArray, List.set_cons_zero, List.set_cons_succ]
      refine btake 8 (oi := _) (v := ?_) (by simp only [getElem?_toArray, getElem?_cons_succ, getElem?_cons_zero]; rfl) (by kernel_rfl) (by exact fun _ _ _ h => h) (by first | assumption | exact KB.refl _) (.inl ⟨by rfl, fun W hW => ?_⟩) ?_; rotate_left
      · (go_simp; first | done | with_reducible rfl)
      try simp only [Act.put, List.setIfInBounds_toArray, List.set_cons_zero, List.set_cons_succ]
      refine btake 9 (oi := _) (v := ?_) (by simp only [getElem?_toArray, getElem?_cons_succ, getElem?_cons_zero]; rfl) (by kernel_rfl) (by exact fun _ _ _ h => h) (by first | assumption | exact KB.refl _) (.inl ⟨by rfl, fun W hW => ?_⟩) ?_; rotate_left
      · (go_simp; first | done | with_reducible rfl)
      try simp only [Act.put, List.setIfInBounds_toArray, List.set_cons_zero, List.set_cons_succ]
      refine btake 10 (oi := _) (v := ?_) (by simp only [getElem?_toArray, getElem?_cons_succ, getElem?_cons_zero]; rfl) (by kernel_rfl) (by exact fun _ _ _ h => h) (by first | assumption | exact KB.refl _) (.inl ⟨by rfl, fun W hW => ?_⟩) ?_; rotate_left
      · (go_simp; first | done | with_reducible rfl)
      try simp only [Act.put, List.setIfInBounds_toArray, List.set_cons_zero, List.set_cons_succ]
      refine btake 11 (oi := _) (v := ?_) (by simp only [getElem?_toArray, getElem?_cons_succ, getElem?_cons_zero]; rfl) (by kernel_rfl) (by exact fun _ _ _ h => h) (by first | assumption | exact KB.refl _) (.inl ⟨by rfl, fun W hW => ?_⟩) ?_; rotate_left
      · (go_simp; first | done | with_reducible rfl)
      try simp only [Act.put, List.setIfInBounds_toArray, List.set_cons_zero, List.set_cons_succ]
      refine btake 12 (oi := _) (v := ?_) (by simp only [getElem?_toArray, getElem?_cons_succ, getElem?_cons_zero]; rfl) (by kernel_rfl) (by exact fun _ _ _ h => h) (by first | assumption | exact KB.refl _) (.inl ⟨by rfl, fun W hW => ?_⟩) ?_; rotate_left
      · (go_simp; first | done | with_reducible rfl)
      try simp only [Act.put, List.setIfInBounds_toArray, List.set_cons_zero, List.set_cons_succ]
      refine btake 13 (oi := _) (v := ?_) (by simp only [getElem?_toArray, getElem?_cons_succ, getElem?_cons_zero]; rfl) (by kernel_rfl) (by exact fun _ _ _ h => h) (by first | assumption | exact KB.refl _) (.inl ⟨by rfl, fun W hW => ?_⟩) ?_; rotate_left
      · (go_simp; first | done | with_reducible rfl)
      try simp only [Act.put, List.setIfInBounds_toArray, List.set_cons_zero, List.set_cons_succ]
      refine bdone (by kernel_rfl) ?_
      have hA := (At.new w 44 #[.int .i64 r.a, .int .i64 r.b]).drew
      have how2 := hown1.below (Below.refl _ _).drew
      have hbz := hW1.drew
      have hgb : g ≠ w.heap.size := by omega
      generalize (w.alloc (.cells #[.int .i64 r.a, .int .i64 r.b] 44)).drew = w1 at hA how2 hbz ⊢
      generalize w.heap.size = gb at hA hgb ⊢
      clear hown hown1 hbox hW1 m0 m1 q0 q1 q2 c0 c1 f0 f1
      obtain ⟨c0, c1, f0, f1⟩ := how2.row2n.2 p.length (by simp)
      rw [show (p ++ [x])[p.length]?.getD ⟨0, 0⟩ = x by simp] at c0 c1
      have hS0 : AtS gb [.int .i64 r.a, .int .i64 r.b] w1.drew := hA.drew
      have e1 := AtS.e (g := gb) (vs := [.int .i64 r.a, .int .i64 r.b]) 1 rfl
      obtain ⟨z, hz⟩ : ∃ z, (if x.b < r.b then r.b else x.b) = z := ⟨_, rfl⟩
      have HZ := Lib.hid (show max x.b r.b = z by rw [← hz]; split <;> omega)
      obtain ⟨hst, hgr⟩ := how2.setLast z
      go_wp2_with fail
      refine bstartS (AtS gb [.int .i64 r.a, .int .i64 r.b]) (by kernel_rfl) ?_
      refine btakeS 0 (oi := _) (v := ?_) (by simp only [List.getElem?_toArray, List.getElem?_cons_zero]; rfl) (by kernel_rfl) (by exact fun _ _ _ h => h) (by first | assumption | exact KB.refl _) (.inl ⟨by rfl, fun W hW => ?_⟩) ?_; rotate_left
      · (go_simp; first | done | with_reducible rfl)
      try simp only [Act.put, List.setIfInBounds_toArray, List.set_cons_zero, List.set_cons_succ]
      refine btakeS 1 (oi := _) (v := ?_) (by simp only [getElem?_toArray, getElem?_cons_succ, getElem?_cons_zero]; rfl) (by kernel_rfl) (by exact fun _ _ _ h => h) (by first | assumption | exact KB.refl _) (.inl ⟨by rfl, fun W hW => ?_⟩) ?_; rotate_left
      · (go_simp; first | done | with_reducible rfl)
      try simp only [Act.put, List.setIfInBounds_toArray, List.set_cons_zero, List.set_cons_succ]
      refine btakeS 2 (oi := _) (v := ?_) (by simp only [getElem?_toArray, getElem?_cons_succ, getElem?_cons_zero]; rfl) (by kernel_rfl) (by exact fun _ _ _ h => h) (by first | assumption | exact KB.refl _) (.inl ⟨by rfl, fun W hW => ?_⟩) ?_; rotate_left
      · (go_simp; first | done | with_reducible rfl)
      try simp only [Act.put, List.setIfInBounds_toArray, List.set_cons_zero, List.set_cons_succ]
      refine btakeS 3 (oi := _) (v := ?_) (by simp only [getElem?_toArray, getElem?_cons_succ, getElem?_cons_zero]; rfl) (by kernel_rfl) (by exact fun _ _ _ h => h) (by first | assumption | exact KB.refl _) (.inl ⟨by rfl, fun W hW => ?_⟩) ?_; rotate_left
      · (go_simp; first | done | with_reducible rfl)
      try simp only [Act.put, List.setIfInBounds_toArray, List.set_cons_zero, List.set_cons_succ]
      refine btakeS 4 (oi := _) (v := ?_) (by simp only [getElem?_toArray, getElem?_cons_succ, getElem?_cons_zero]; rfl) (by kernel_rfl) (by exact fun _ _ _ h => h) (by first | assumption | exact KB.refl _) (.inl ⟨by rfl, fun W hW => ?_⟩) ?_; rotate_left
      · (go_simp; first | done | with_reducible rfl)
      try simp only [Act.put, List.setIfInBounds_toArray, List.set_cons_zero, List.set_cons_succ]
      refine btakeS 5 (oi := _) (v := ?_) (by simp only [getElem?_toArray, getElem?_cons_succ, getElem?_cons_zero]; rfl) (by kernel_rfl) (by exact fun _ _ _ h => h) (by first | assumption | exact KB.refl _) (.inl ⟨by rfl, fun W hW => ?_⟩) ?_; rotate_left
      · (go_simp; first | done | with_reducible rfl)
      try simp only [Act.put, List.setIfInBounds_toArray, List.set_cons_zero, List.set_cons_succ]
      refine btakeS 6 (oi := _) (v := ?_) (by simp only [getElem?_toArray, getElem?_cons_succ, getElem?_cons_zero]; rfl) (by kernel_rfl) (by exact fun _ _ _ h => h) (by first | assumption | exact KB.refl _) (.inl ⟨by rfl, fun W hW => ?_⟩) ?_; rotate_left
      · (go_simp; first | done | with_reducible rfl)
      try simp only [Act.put, List.setIfInBounds_toArray, List.set_cons_zero, List.set_cons_succ]
      refine btakeS 7 (oi := _) (v := ?_) (by simp only [getElem?_toArray, getElem?_cons_succ, getElem?_cons_zero]; rfl) (by kernel_rfl) (by exact fun _ _ _ h => h) (by first | assumption | exact KB.refl _) (.inl ⟨by rfl, fun W hW => ?_⟩) ?_; rotate_left
      · (go_simp; first | done | with_reducible rfl)
      try simp only [Act.put, List.setIfInBounds_toArray, List.set_cons_zero, List.set_cons_succ]
      refine btakeS 9 (oi := _) (v := ?_) (by simp only [getElem?_toArray, getElem?_cons_succ, getElem?_cons_zero]; rfl) (by kernel_rfl) (by exact fun _ _ _ h => h) (by first | assumption | exact KB.refl _) (.inl ⟨by rfl, fun W hW => ?_⟩) ?_; rotate_left
      · (go_simp; first | done | with_reducible rfl)
      try simp only [Act.put, List.setIfInBounds_toArray, List.set_cons_zero, List.set_cons_succ]
      refine btakeS 10 (oi := _) (v := ?_) (by simp only [getElem?_toArray, getElem?_cons_succ, getElem?_cons_zero]; rfl) (by kernel_rfl) (by exact fun _ _ _ h => h) (by first | assumption | exact KB.refl _) (.inl ⟨by rfl, fun W hW => ?_⟩) ?_; rotate_left
      · (go_simp; first | done | with_reducible rfl)
      try simp only [Act.put, List.setIfInBounds_toArray, List.set_cons_zero, List.set_cons_succ]
      -- 8: Op.load 2 (Operand.tmp 29)
      refine bopS 8 (o := _) (by simp only [getElem?_toArray, getElem?_cons_succ, getElem?_cons_zero]; rfl) (by kernel_rfl) (by rfl) (fun K hK => ?_)
      go_simp
      have hkb := hS0
      refine hK.out _ _ hkb ?_; clear hK K
      try simp only [Act.put, List.setIfInBounds_toArray, List.set_cons_zero, List.set_cons_succ]
      refine btakeS 11 (oi := _) (v := ?_) (by simp only [getElem?_toArray, getElem?_cons_succ, getElem?_cons_zero]; rfl) (by kernel_rfl) (by exact fun _ _ _ h => h) (by first | assumption | exact KB.refl _) (.inl ⟨by rfl, fun W hW => ?_⟩) ?_; rotate_left
      · (go_simp; first | done | with_reducible rfl)
      try simp only [Act.put, List.setIfInBounds_toArray, List.set_cons_zero, List.set_cons_succ]
      refine btakeS 12 (oi := _) (v := ?_) (by simp only [getElem?_toArray, getElem?_cons_succ, getElem?_cons_zero]; rfl) (by kernel_rfl) (by exact fun _ _ _ h => h) (by first | assumption | exact KB.refl _) (.inl ⟨by rfl, fun W hW => ?_⟩) ?_; rotate_left
      · (go_simp; first | done | with_reducible rfl)
      try simp only [Act.put, List.setIfInBounds_toArray, List.set_cons_zero, List.set_cons_succ]
      refine btakeS 13 (oi := _) (v := ?_) (by simp only [getElem?_toArray, getElem?_cons_succ, getElem?_cons_zero]; rfl) (by kernel_rfl) (by exact fun _ _ _ h => h) (by first | assumption | exact KB.refl _) (.inl ⟨by rfl, fun W hW => ?_⟩) ?_; rotate_left
      · (go_simp; first | done | with_reducible rfl)
      try simp only [Act.put, List.setIfInBounds_toArray, List.set_cons_zero, List.set_cons_succ]
      -- 14: Op.store 2 (Operand.tmp 35) (Operand.tmp 33)
      refine bopS 14 (o := _) (by simp only [getElem?_toArray, getElem?_cons_succ, getElem?_cons_zero]; rfl) (by kernel_rfl) (by rfl) (fun K hK => ?_)
      go_simp
      have hkb : AtS gb [.int .i64 r.a, .int .i64 r.b] (w1.setCell ⟨g, p.length * 2 + 1, none⟩ (.int .i64 z)).drew := (At.set_other hA _ _ hgb).drew
      refine hK.out _ _ hkb ?_; clear hK K
      try simp only [Act.put, List.setIfInBounds_toArray, List.set_cons_zero, List.set_cons_succ]
      refine bdoneS (by kernel_rfl) ?_
      have hW3 := (hbz.trans (below_of_grown hgr (fun g' e => by cases e; exact hg1) hbz.size)).drew
      have hst3 := hst.below (Below.refl _ _).drew
      rw [show p ++ [⟨x.a, z⟩] = putR (p ++ [x]) r by rw [HQ.out, HZ.out]] at hst3
      clear hz hkb e1
      go_wp2_with fail
      go_ret
      exact ⟨_, rfl, hst3, hW3⟩
    · have d2 : decide (r.a ≤ x.b + 1) = false := by rw [decide_eq_false_iff_not]; exact hc
      rw [if_neg hc] at hq
      have HQ := Lib.hid hq
      clear hq hc ho
      go_enter Try.func72, Try.ntmps72
      go_wp2_with fail
      refine bstart (by kernel_rfl) ?_
      refine btake 0 (oi := _) (v := ?_) (by simp only [List.getElem?_toArray, List.getElem?_cons_zero]; rfl) (by kernel_rfl) (by exact fun _ _ _ h => h) (by first | assumption | exact KB.refl _) (.inl ⟨by rfl, fun W hW => ?_⟩) ?_; rotate_left
      · (go_simp; first | done | with_reducible rfl)
      try simp only [Act.put, List.setIfInBounds_toArray, List.set_cons_zero, List.set_cons_succ]
      refine btake 1 (oi := _) (v := ?_) (by simp only [getElem?_toArray, getElem?_cons_succ, getElem?_cons_zero]; rfl) (by kernel_rfl) (by exact fun _ _ _ h => h) (by first | assumption | exact KB.refl _) (.inl ⟨by rfl, fun W hW => ?_⟩) ?_; rotate_left
      · (go_simp; first | done | with_reducible rfl)
      try simp only [Act.put, List.setIfInBounds_toArray, List.set_cons_zero, List.set_cons_succ]
      refine btake 2 (oi := _) (v := ?_) (by simp only [getElem?_toArray, getElem?_cons_succ, getElem?_cons_zero]; rfl) (by kernel_rfl) (by exact fun _ _ _ h => h) (by first | assumption | exact KB.refl _) (.inl ⟨by rfl, fun W hW => ?_⟩) ?_; rotate_left
      · (go_simp; first | done | with_reducible rfl)
      try simp only [Act.put, List.setIfInBounds_toArray, List.set_cons_zero, List.set_cons_succ]
      refine btake 3 (oi := _) (v := ?_) (by simp only [getElem?_toArray, getElem?_cons_succ, getElem?_cons_zero]; rfl) (by kernel_rfl) (by exact fun _ _ _ h => h) (by first | assumption | exact KB.refl _) (.inl ⟨by rfl, fun W hW => ?_⟩) ?_; rotate_left
      · (go_simp; first | done | with_reducible rfl)
      try simp only [Act.put, List.setIfInBounds_toArray, List.set_cons_zero, List.set_cons_succ]
      refine btake 4 (oi := _) (v := ?_) (by simp only [getElem?_toArray, getElem?_cons_succ, getElem?_cons_zero]; rfl) (by kernel_rfl) (by exact fun _ _ _ h => h) (by first | assumption | exact KB.refl _) (.inl ⟨by rfl, fun W hW => ?_⟩) ?_; rotate_left
      · (go_simp; first | done | with_reducible rfl)
      try simp only [Act.put, List.setIfInBounds_toArray, List.set_cons_zero, List.set_cons_succ]
      refine btake 5 (oi := _) (v := ?_) (by simp only [getElem?_toArray, getElem?_cons_succ, getElem?_cons_zero]; rfl) (by kernel_rfl) (by exact fun _ _ _ h => h) (by first | assumption | exact KB.refl _) (.inl ⟨by rfl, fun W hW => ?_⟩) ?_; rotate_left
      · (go_simp; first | done | with_reducible rfl)
      try simp only [Act.put, List.setIfInBounds_toArray, List.set_cons_zero, List.set_cons_succ]
      refine btake 6 (oi := _) (v := ?_) (by simp only [getElem?_toArray, getElem?_cons_succ, getElem?_cons_zero]; rfl) (by kernel_rfl) (by exact fun _ _ _ h => h) (by first | assumption | exact KB.refl _) (.inl ⟨by rfl, fun W hW => ?_⟩) ?_; rotate_left
      · (go_simp; first | done | with_reducible rfl)
      try simp only [Act.put, List.setIfInBounds_toArray, List.set_cons_zero, List.set_cons_succ]
      refine btake 7 (oi := _) (v := ?_) (by simp only [getElem?_toArray, getElem?_cons_succ, getElem?_cons_zero]; rfl) (by kernel_rfl) (by exact fun _ _ _ h => h) (by first | assumption | exact KB.refl _) (.inl ⟨by rfl, fun W hW => ?_⟩) ?_; rotate_left
      · (go_simp; first | done | with_reducible rfl)
      try simp only [Act.put, List.setIfInBounds_toArray, List.set_cons_zero, List.set_cons_succ]
      refine btake 8 (oi := _) (v := ?_) (by simp only [getElem?_toArray, getElem?_cons_succ, getElem?_cons_zero]; rfl) (by kernel_rfl) (by exact fun _ _ _ h => h) (by first | assumption | exact KB.refl _) (.inl ⟨by rfl, fun W hW => ?_⟩) ?_; rotate_left
      · (go_simp; first | done | with_reducible rfl)
      try simp only [Act.put, List.setIfInBounds_toArray, List.set_cons_zero, List.set_cons_succ]
      refine btake 9 (oi := _) (v := ?_) (by simp only [getElem?_toArray, getElem?_cons_succ, getElem?_cons_zero]; rfl) (by kernel_rfl) (by exact fun _ _ _ h => h) (by first | assumption | exact KB.refl _) (.inl ⟨by rfl, fun W hW => ?_⟩) ?_; rotate_left
      · (go_simp; first | done | with_reducible rfl)
      try simp only [Act.put, List.setIfInBounds_toArray, List.set_cons_zero, List.set_cons_succ]
      refine btake 10 (oi := _) (v := ?_) (by simp only [getElem?_toArray, getElem?_cons_succ, getElem?_cons_zero]; rfl) (by kernel_rfl) (by exact fun _ _ _ h => h) (by first | assumption | exact KB.refl _) (.inl ⟨by rfl, fun W hW => ?_⟩) ?_; rotate_left
      · (go_simp; first | done | with_reducible rfl)
      try simp only [Act.put, List.setIfInBounds_toArray, List.set_cons_zero, List.set_cons_succ]
      refine btake 11 (oi := _) (v := ?_) (by simp only [getElem?_toArray, getElem?_cons_succ, getElem?_cons_zero]; rfl) (by kernel_rfl) (by exact fun _ _ _ h => h) (by first | assumption | exact KB.refl _) (.inl ⟨by rfl, fun W hW => ?_⟩) ?_; rotate_left
      · (go_simp; first | done | with_reducible rfl)
      try simp only [Act.put, List.setIfInBounds_toArray, List.set_cons_zero, List.set_cons_succ]
      refine btake 12 (oi := _) (v := ?_) (by simp only [getElem?_toArray, getElem?_cons_succ, getElem?_cons_zero]; rfl) (by kernel_rfl) (by exact fun _ _ _ h => h) (by first | assumption | exact KB.refl _) (.inl ⟨by rfl, fun W hW => ?_⟩) ?_; rotate_left
      · (go_simp; first | done | with_reducible rfl)
      try simp only [Act.put, List.setIfInBounds_toArray, List.set_cons_zero, List.set_cons_succ]
      refine btake 13 (oi := _) (v := ?_) (by simp only [getElem?_toArray, getElem?_cons_succ, getElem?_cons_zero]; rfl) (by kernel_rfl) (by exact fun _ _ _ h => h) (by first | assumption | exact KB.refl _) (.inl ⟨by rfl, fun W hW => ?_⟩) ?_; rotate_left
      · (go_simp; first | done | with_reducible rfl)
      try simp only [Act.put, List.setIfInBounds_toArray, List.set_cons_zero, List.set_cons_succ]
      refine bdone (by kernel_rfl) ?_
      have hst2 := hbox.below (Below.refl _ _).drew
      have how2 := hown1.below (Below.refl _ _).drew
      have hbz := hW1.drew
      generalize (w.alloc (.cells #[.int .i64 r.a, .int .i64 r.b] 44)).drew = wz at hst2 how2 hbz ⊢
      clear hown hown1 hbox hW1
      have m0 := hst2.2.1
      have m1 := hst2.2.2.1
      have how3 := how2.below (balloc (Below.refl _ _) (.cells #[.int .i64 r.a, .int .i64 r.b] 44))
      have hbz3 := hbz.alloc hbz.size (.cells #[.int .i64 r.a, .int .i64 r.b] 44)
      have hSl : Sl (wz.alloc (.cells #[.int .i64 r.a, .int .i64 r.b] 44)) (wz.heap.size + 1) (some ⟨wz.heap.size, 0, none⟩) (rv [r]) := Sl.new wz 44 #[.int .i64 r.a, .int .i64 r.b] (0, 0)
      clear hst2 how2
      go_wp2_with (at_builtin; refine appR rfl rfl how3 hSl rfl rfl rfl (by first | (have := HL.out; rw [this.2, List.length_singleton]; omega) | simp) hbz3.size ?_; intro v7 w7 h7 hg7 hat7)
      go_ret
      exact ⟨v7, rfl, by first | exact h7 | (rw [HQ.out]; exact h7), own_belowR hbz3 hbz3.size how3 hg7⟩
end Go.Proofs.Ytaflikgdlkaefaa
/- cmp.Compare at int64. -/
namespace Go.Proofs.Ytaflikgdlkaefaa
open Go.RowKit Go.Sort
set_option maxRecDepth 20000

def cmp3 (a b : Int) : Int := if a < b then -1 else if b < a then 1 else 0
set_option maxRecDepth 100000 in
theorem isNaN_int64 (w : World) (a : Int) : Calls Try.prog 80 #[.int .i64 a] w fun e w' => e = .returned (.bool false) ∧ w = w' := by
  go_enter Try.func80, Try.ntmps80
  go_wp2_with fail
  go_ret
  exact ⟨rfl, rfl⟩
set_option maxRecDepth 100000 in
theorem Compare_int64 (w : World) (a b : Int) : Calls Try.prog 71 #[.int .i64 a, .int .i64 b] w fun e w' => e = .returned (.int .i64 (cmp3 a b)) ∧ w = w' := by
  go_enter Try.func71, Try.ntmps71
  go_wp2_with (go_at_call 80; refine (isNaN_int64 _ _).mono ?_; rintro e w' ⟨rfl, rfl⟩)
  all_goals
    go_ret
    refine ⟨ret_i ?_, rfl⟩
    unfold cmp3
    first | (rw [if_pos (by omega)]) | (rw [if_neg (by omega), if_pos (by omega)]) | (rw [if_neg (by omega), if_neg (by omega)])
def Grew (w w' : World) : Prop := ∃ q os', w' = grow (w.drewN q) os'
end Go.Proofs.Ytaflikgdlkaefaa
