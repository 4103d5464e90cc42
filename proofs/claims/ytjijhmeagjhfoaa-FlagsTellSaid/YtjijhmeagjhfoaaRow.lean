/- Rows of elements of whatever cells (plain ones): rows of the call's own, append, rows turned where they lie. -/
import Derived.Test.YtjijhmeagjhfoaaAt
import Derived.Maps.AppendAt
import Derived.Lib.SliceRun
import Derived.Laws.IdiomCopy
import Derived.ArgAppend
import Derived.Deep.Upon
namespace Go.Proofs.Ytjijhmeagjhfoaa
open Go.RowKit

/-- an element's type: its cells -/
structure ET (P : Program) (t e : TypeId) (α : Type) where
  n : Nat
  bytes : Nat
  cells : α → List Value
  zero : α
  z : Value
  ty : P.underlying t = some (.slice e)
  info : (P.info? e).map (fun i => (i.zero, i.size, i.bytes)) = some (some z, n, bytes)
  zc : z.cells.size = n
  pos : 0 < n
  len : ∀ x, (cells x).length = n
  one : ∀ x, ∀ u ∈ cells x, u.oneCell' = true
  small : bytes ≤ 1000
  ncap : n ≤ 1000 := by omega
section
variable {P : Program} {t e : TypeId} {α : Type}
def ET.dv (E : ET P t e α) (l : List α) : List Value := l.flatMap E.cells
def ET.Own (E : ET P t e α) (w : World) (base : Nat) (v : Value) (l : List α) : Prop := w.ownsRow base e E.n v l.length (E.dv l)
variable {E : ET P t e α}
theorem ET.dv_len (l : List α) : (E.dv l).length = l.length * E.n := by
  induction l with
  | nil => simp [ET.dv]
  | cons x l ih =>
    have : E.dv (x :: l) = E.cells x ++ E.dv l := by simp [ET.dv]
    rw [this, List.length_append, ih, E.len, List.length_cons, Nat.add_mul]
    omega
theorem ET.dv_append (l k : List α) : E.dv (l ++ k) = E.dv l ++ E.dv k := by simp [ET.dv]
theorem ET.dv_cons (x : α) (l : List α) : E.dv (x :: l) = E.cells x ++ E.dv l := by simp [ET.dv]
theorem ET.dv_one (l : List α) : ∀ u ∈ E.dv l, u.oneCell' = true := by
  intro u hu
  obtain ⟨d, _, h⟩ := List.mem_flatMap.1 hu
  exact E.one d u h
theorem ET.dv_get : ∀ (l : List α) (k j : Nat) (s : α), l[k]? = some s → j < E.n → (E.dv l)[k * E.n + j]? = (E.cells s)[j]?
  | [], k, j, s, h, _ => by simp at h
  | x :: l, 0, j, s, h, hj => by
    obtain rfl : x = s := by simpa using h
    rw [ET.dv_cons, Nat.zero_mul, Nat.zero_add, List.getElem?_append_left (by rw [E.len]; exact hj)]
  | x :: l, k + 1, j, s, h, hj => by
    have h' : l[k]? = some s := by simpa using h
    rw [ET.dv_cons, List.getElem?_append_right (by rw [E.len, Nat.add_mul]; omega), E.len]
    rw [show (k + 1) * E.n + j - E.n = k * E.n + j by rw [Nat.add_mul]; omega]
    exact ET.dv_get l k j s h' hj
theorem ET.dv_take (l : List α) (k : Nat) : (E.dv l).take (k * E.n) = E.dv (l.take k) := by
  induction l generalizing k with
  | nil => simp [ET.dv]
  | cons x l ih =>
    cases k with
    | zero => simp [ET.dv]
    | succ k =>
      rw [List.take_succ_cons, ET.dv_cons, ET.dv_cons, ← ih, List.take_append, E.len]
      rw [List.take_of_length_le (by rw [E.len, Nat.add_mul]; omega)]
      congr 2
      rw [Nat.add_mul]; omega
theorem ET.dv_drop (l : List α) (k : Nat) : (E.dv l).drop (k * E.n) = E.dv (l.drop k) := by
  induction l generalizing k with
  | nil => simp [ET.dv]
  | cons x l ih =>
    cases k with
    | zero => simp [ET.dv]
    | succ k =>
      rw [List.drop_succ_cons, ET.dv_cons, ← ih, List.drop_append, E.len]
      rw [List.drop_of_length_le (by rw [E.len, Nat.add_mul]; omega), List.nil_append]
      congr 1
      rw [Nat.add_mul]; omega
theorem ET.dv_nil_of {l : List α} (h : E.dv l = []) : l = [] := by
  have h1 := E.dv_len l
  rw [h] at h1
  have h2 := E.pos
  cases l with
  | nil => rfl
  | cons x l => rw [List.length_cons, Nat.add_mul] at h1; simp at h1; omega
variable {w w' : World} {base : Nat} {v : Value} {l : List α}
theorem ET.Own.nil (w : World) (base : Nat) : E.Own w base (.slice none 0 0) [] := World.ownsRow_nil w base _ E.n
theorem ET.Own.form (h : E.Own w base v l) : ∃ A c, v = .slice A l.length c ∧ l.length ≤ c ∧ c ≤ maxLen ∧ Sl w w.heap.size A (E.dv l) ∧ (A = none → l = [] ∧ c = 0) ∧ (∀ a, A = some a → base ≤ a.block ∧ a.off = 0 ∧ a.spot = none) := by
  rcases h.2 with ⟨rfl, hn⟩ | ⟨g, cap, cur, rfl, hb, hg, hn, hm, hcs, ht⟩
  · have := List.eq_nil_of_length_eq_zero hn
    subst this
    exact ⟨none, 0, rfl, by simp, by simp [maxLen], .inl rfl, (fun _ => ⟨rfl, rfl⟩), (fun a h => (by cases h))⟩
  · have hlt : g < w.heap.size := (Array.getElem?_eq_some_iff.1 hg).1
    refine ⟨_, cap, rfl, hn, hm, .inr ⟨g, 0, rfl, hlt, hlt, fun j u hu => ?_⟩, (fun h => (by cases h)), (fun a h => by cases h; exact ⟨hb, rfl, rfl⟩)⟩
    have := h.cells (g := g) rfl j u hu
    rw [Nat.zero_add]
    rw [addr0] at this
    exact this
theorem ET.Own.below (h : E.Own w base v l) (hb : Below w.heap.size w w') : E.Own w' base v l :=
  World.ownsRow.kept h (row := none) ⟨hb.os, hb.tape, hb.output, hb.size, fun k hk _ => hb.block k hk⟩ (by cases hv : v.ownBlock <;> simp)
theorem ET.Own.keep (h : E.Own w base v l) {row : Option Nat} (hg : w.grownBy w' row) (hne : v.ownBlock = none ∨ v.ownBlock ≠ row) : E.Own w' base v l := World.ownsRow.kept h hg hne
theorem ET.Own.head (h : E.Own w base v l) (hn : 0 < l.length) : ∃ g cap, v = .slice (some ⟨g, 0, none⟩) l.length cap ∧ base ≤ g ∧ g < w.heap.size ∧ l.length ≤ cap ∧ cap ≤ maxLen := by
  rcases h.2 with ⟨_, h0⟩ | ⟨g, cap, cur, rfl, hb, hg, h1, h2, _⟩
  · omega
  · exact ⟨g, cap, rfl, hb, (Array.getElem?_eq_some_iff.1 hg).1, h1, h2⟩
theorem ET.Own.lt' (h : E.Own w base v l) : ∀ g, v.ownBlock = some g → base ≤ g ∧ g < w.heap.size := fun g hg => World.ownsRow.lt h g hg
theorem ET.Own.below_of {wr w1 : World} {x : Value} {B : Nat} {l : List α} (hown : E.Own wr B x l) (hb : Below B w wr) (hB : B ≤ wr.heap.size) (hg : wr.grownBy w1 x.ownBlock) : Below B w w1 :=
  hb.trans (below_of_grown hg (fun g e => (hown.lt' g e).1) hB)
theorem ET.Own.lower {base' : Nat} (h : E.Own w base v l) (hb : base' ≤ base) : E.Own w base' v l := by
  refine ⟨h.1, ?_⟩
  rcases h.2 with h' | ⟨g, cap, cur, e, hg, h'⟩
  · exact .inl h'
  · exact .inr ⟨g, cap, cur, e, Nat.le_trans hb hg, h'⟩
theorem ET.Own.lit (w : World) (l : List α) (hm : l.length ≤ maxLen) {us : Array Value} (hu : us.toList = E.dv l) : E.Own (w.alloc (.cells us e)) w.heap.size (.slice (some ⟨w.heap.size, 0, none⟩) l.length l.length) l := by
  have h1 : us.size = l.length * E.n := by rw [← Array.length_toList, hu, E.dv_len]
  have := World.ownsRow_lit (base := w.heap.size) (e := e) (size := E.n) w us l.length (Nat.le_refl _) hm h1
  rw [hu] at this
  exact this
theorem run_appE (w : World) (ty : TypeId) (hown : E.Own w base v l) {B : Nat} {A : Option Addr} {m c : Nat} {k : List α} (hr : Sl w B A (E.dv k)) (hm : m = k.length)
    (hl : l.length + k.length ≤ 100000000000) (hbase : base ≤ w.heap.size) :
    ∃ v' w', (Builtin.append_ #[t, t] ty #[v, .slice A m c]).run P w = .ok v' w' ∧ E.Own w' base v' (l ++ k) ∧ w.grownBy w' v.ownBlock ∧ (v' = .slice none 0 0 ↔ v = .slice none 0 0 ∧ m = 0) ∧ (v'.ownBlock = v.ownBlock ∨ v'.ownBlock = some w.heap.size) := by
  subst hm
  obtain ⟨i, hi, hz, hz1, hz2⟩ := info_parts E.info
  rcases A with _ | ad
  · have hk : k = [] := by
      rcases hr with h | ⟨b, o, h, _⟩
      · exact E.dv_nil_of h
      · cases h
    subst hk
    refine ⟨v, w, ?_, by simpa using hown, World.grownBy.refl w _, by simp, .inl rfl⟩
    rcases hown.2 with ⟨e, h0⟩ | ⟨g, cap', cur, e, hb0, hg0, hnc0, _⟩
    · subst e
      simp [Builtin.append_, run_underlying E.ty, sizeOf, typeInfo, hi, Builtin.lenOf, Builtin.firstCells]
    · subst e
      simp [Builtin.append_, run_underlying E.ty, sizeOf, typeInfo, hi, Builtin.lenOf, Builtin.firstCells, loadCells, hnc0, storeCells]
  · have hsm := E.small
    obtain ⟨v', w', hrun, h2, h3, h4, h5⟩ := run_append_own_at (P := P) w base t ty e i E.z E.n E.bytes E.ty hi hz hz1 hz2 E.zc E.pos v l.length (E.dv l) hown ad k.length c (E.dv k)
      (E.dv_len k) (fun j u hu => by
        rcases hr with h | ⟨b, o, h, _, _, hc⟩
        · rw [h] at hu; simp at hu
        · injection h with h
          subst h
          have : (⟨b, o, none⟩ : Addr).add j = ⟨b, o + j, none⟩ := by
            unfold Addr.add
            split
            · rename_i h0; subst h0; rfl
            · rfl
          rw [this]; exact hc j u hu) (E.dv_one k) (by simp only [maxLen]; omega) (Nat.le_trans (Nat.mul_le_mul_left _ hsm) (by omega)) hbase
    exact ⟨v', w', hrun, by rw [ET.Own, ET.dv_append, List.length_append]; exact h2, h3, h4, h5⟩
theorem run_appFE (w : World) (ty : TypeId) {B B' : Nat} {A A' : Option Addr} {n m c cap : Nat} {l k : List α} (hs : Sl w B A (E.dv l)) (hn : n = l.length) (hr : Sl w B' A' (E.dv k)) (hm : m = k.length)
    (hfull : cap < n + m) (hnil : A = none → n = 0 ∧ cap = 0) (hle : n ≤ cap) (hbytes : l.length + k.length ≤ 100000000000) :
    ∃ v' w', (Builtin.append_ #[t, t] ty #[.slice A n cap, .slice A' m c]).run P w = .ok v' w' ∧ E.Own w' w.heap.size v' (l ++ k) ∧ w.grownBy w' none := by
  subst hn hm
  obtain ⟨i, hi, hz, hz1, hz2⟩ := info_parts E.info
  have hkpos : 0 < k.length := by omega
  have hsm := E.small
  have hp := E.pos
  obtain ⟨b', o', e', _, _, hc'⟩ := hr.at_ (k := 0) (by rw [E.dv_len]; exact Nat.mul_pos hkpos hp)
  subst e'
  have hadd : ∀ (b o j : Nat), (⟨b, o, none⟩ : Addr).add j = ⟨b, o + j, none⟩ := by
    intro b o j
    unfold Addr.add
    split
    · rename_i h0; subst h0; rfl
    · rfl
  cases A with
  | none =>
    obtain ⟨h0, rfl⟩ := hnil rfl
    have hl : l = [] := List.eq_nil_of_length_eq_zero h0
    subst hl
    obtain ⟨v', w', h1, h2, h3, _⟩ := run_appE w ty (ET.Own.nil (E := E) w w.heap.size) hr (c := c) rfl hbytes (Nat.le_refl _)
    exact ⟨v', w', h1, h2, h3⟩
  | some a =>
    have holds : ∀ j u, (E.dv l)[j]? = some u → w.cell? (a.add j) = some u := by
      intro j u hu
      rcases hs with h | ⟨b, o, e, _, _, hc⟩
      · rw [h] at hu; cases hu
      · cases e
        rw [hadd]
        exact hc j u hu
    obtain ⟨v', w', hrun, h2, h3⟩ := run_append_arg_grows (P := P) w t ty e i E.z E.n E.bytes E.ty hi hz hz1 hz2 E.zc E.pos a l.length cap (E.dv l) (E.dv_len l) holds
      ⟨b', o', none⟩ k.length c (E.dv k) (E.dv_len k) (fun j u hu => by rw [hadd]; exact hc' j u hu) hfull (by simp only [maxLen]; omega) (Nat.le_trans (Nat.mul_le_mul_left _ hsm) (by omega))
    exact ⟨v', w', hrun, by rw [ET.Own, ET.dv_append, List.length_append]; exact h2, h3⟩
section
variable {ops : Array Oper} {rest : List Oper} {o : Oper} {a : Act} {Q : Exit → Act → World → Prop} {w : World} {s x : Operand}
theorem wp_appE {K : Act → World → Prop} (ho : o.op = .call { callee := .builtin .append, args := #[s, x], argTypes := #[t, t] })
    {base : Nat} {v : Value} {l : List α} (hown : E.Own w base v l) {B : Nat} {A : Option Addr} {m c : Nat} {k : List α} (hr : Sl w B A (E.dv k)) (hm : m = k.length)
    (hs : a.eval s = v) (hx : a.eval x = .slice A m c) (hl : l.length + k.length ≤ 100000000000) (hbase : base ≤ w.heap.size)
    (h : ∀ v' w', E.Own w' base v' (l ++ k) → w.grownBy w' v.ownBlock → (v'.ownBlock = v.ownBlock ∨ v'.ownBlock = some w.heap.size) → K (a.put o.dst v') w') : o.wp P a w K Q := by
  obtain ⟨v', w', hrun, h2, h3, _, h4⟩ := run_appE w o.type hown hr hm hl hbase (c := c)
  unfold Oper.wp execOp
  simp only [ho, resolve, invoke, builtin, Sem.run_bind, Sem.run_pure, Result.andThen_ok, List.map_toArray, List.map_cons, List.map_nil, hs, hx, hrun]
  exact h v' w' h2 h3 h4
theorem appE (hgd : o.guard = none) (ho : o.op = .call { callee := .builtin .append, args := #[s, x], argTypes := #[t, t] })
    {base : Nat} {v : Value} {l : List α} (hown : E.Own w base v l) {B : Nat} {A : Option Addr} {m c : Nat} {k : List α} (hr : Sl w B A (E.dv k)) (hm : m = k.length)
    (hs : a.eval s = v) (hx : a.eval x = .slice A m c) (hl : l.length + k.length ≤ 100000000000) (hbase : base ≤ w.heap.size)
    (h : ∀ v' w', E.Own w' base v' (l ++ k) → w.grownBy w' v.ownBlock → (v'.ownBlock = v.ownBlock ∨ v'.ownBlock = some w.heap.size) → wpList P ops Q rest (a.put o.dst v') w') : wpList P ops Q (o :: rest) a w :=
  wpList_plain hgd fun _ hK => wp_appE ho hown hr hm hs hx hl hbase fun v' w' h2 h3 h4 => hK _ _ (h v' w' h2 h3 h4)
theorem appEG (hgd : Region.wanted o (yielded ops a.tmps) = true) (ho : o.op = .call { callee := .builtin .append, args := #[s, x], argTypes := #[t, t] })
    {base : Nat} {v : Value} {l : List α} (hown : E.Own w base v l) {B : Nat} {A : Option Addr} {m c : Nat} {k : List α} (hr : Sl w B A (E.dv k)) (hm : m = k.length)
    (hs : a.eval s = v) (hx : a.eval x = .slice A m c) (hl : l.length + k.length ≤ 100000000000) (hbase : base ≤ w.heap.size)
    (h : ∀ v' w', E.Own w' base v' (l ++ k) → w.grownBy w' v.ownBlock → (v'.ownBlock = v.ownBlock ∨ v'.ownBlock = some w.heap.size) → wpList P ops Q rest (a.put o.dst v') w') : wpList P ops Q (o :: rest) a w :=
  BigFrame.wpList_want hgd fun _ hK => wp_appE ho hown hr hm hs hx hl hbase fun v' w' h2 h3 h4 => hK _ _ (h v' w' h2 h3 h4)
theorem wp_appFE {K : Act → World → Prop} (ho : o.op = .call { callee := .builtin .append, args := #[s, x], argTypes := #[t, t] })
    {B B' : Nat} {A A' : Option Addr} {n m c cap : Nat} {l k : List α} (hsl : Sl w B A (E.dv l)) (hn : n = l.length) (hr : Sl w B' A' (E.dv k)) (hm : m = k.length)
    (hs : a.eval s = .slice A n cap) (hx : a.eval x = .slice A' m c) (hfull : cap < n + m) (hnil : A = none → n = 0 ∧ cap = 0) (hle : n ≤ cap) (hbytes : l.length + k.length ≤ 100000000000)
    (h : ∀ v' w', E.Own w' w.heap.size v' (l ++ k) → w.grownBy w' none → K (a.put o.dst v') w') : o.wp P a w K Q := by
  obtain ⟨v', w', hrun, h2, h3⟩ := run_appFE w o.type hsl hn hr (c := c) hm hfull hnil hle hbytes
  unfold Oper.wp execOp
  simp only [ho, resolve, invoke, builtin, Sem.run_bind, Sem.run_pure, Result.andThen_ok, List.map_toArray, List.map_cons, List.map_nil, hs, hx, hrun]
  exact h v' w' h2 h3
theorem appFE (hgd : o.guard = none) (ho : o.op = .call { callee := .builtin .append, args := #[s, x], argTypes := #[t, t] })
    {B B' : Nat} {A A' : Option Addr} {n m c cap : Nat} {l k : List α} (hsl : Sl w B A (E.dv l)) (hn : n = l.length) (hr : Sl w B' A' (E.dv k)) (hm : m = k.length)
    (hs : a.eval s = .slice A n cap) (hx : a.eval x = .slice A' m c) (hfull : cap < n + m) (hnil : A = none → n = 0 ∧ cap = 0) (hle : n ≤ cap) (hbytes : l.length + k.length ≤ 100000000000)
    (h : ∀ v' w', E.Own w' w.heap.size v' (l ++ k) → w.grownBy w' none → wpList P ops Q rest (a.put o.dst v') w') : wpList P ops Q (o :: rest) a w :=
  wpList_plain hgd fun _ hK => wp_appFE ho hsl hn hr hm hs hx hfull hnil hle hbytes fun v' w' h2 h3 => hK _ _ (h v' w' h2 h3)
theorem appFEG (hgd : Region.wanted o (yielded ops a.tmps) = true) (ho : o.op = .call { callee := .builtin .append, args := #[s, x], argTypes := #[t, t] })
    {B B' : Nat} {A A' : Option Addr} {n m c cap : Nat} {l k : List α} (hsl : Sl w B A (E.dv l)) (hn : n = l.length) (hr : Sl w B' A' (E.dv k)) (hm : m = k.length)
    (hs : a.eval s = .slice A n cap) (hx : a.eval x = .slice A' m c) (hfull : cap < n + m) (hnil : A = none → n = 0 ∧ cap = 0) (hle : n ≤ cap) (hbytes : l.length + k.length ≤ 100000000000)
    (h : ∀ v' w', E.Own w' w.heap.size v' (l ++ k) → w.grownBy w' none → wpList P ops Q rest (a.put o.dst v') w') : wpList P ops Q (o :: rest) a w :=
  BigFrame.wpList_want hgd fun _ hK => wp_appFE ho hsl hn hr hm hs hx hfull hnil hle hbytes fun v' w' h2 h3 => hK _ _ (h v' w' h2 h3)
end
/-! ### a row that may be turned where it lies -/
def ET.Row (E : ET P t e α) (w : World) (g : Nat) (l : List α) : Prop := g < w.heap.size ∧ ∀ j u, (E.dv l)[j]? = some u → w.cell? ⟨g, j, none⟩ = some u ∧ w.frozen? ⟨g, j, none⟩ = false
theorem ET.Row.below {g : Nat} (h : E.Row w g l) (hb : Below w.heap.size w w') : E.Row w' g l :=
  ⟨Nat.lt_of_lt_of_le h.1 hb.size, fun j u hj => by
    obtain ⟨h1, h2⟩ := h.2 j u hj
    exact ⟨(hb.cell h.1).trans h1, (hb.frozen h.1).trans h2⟩⟩
theorem ET.Row.at_ {g : Nat} (h : E.Row w g l) : At w g (E.dv l) := h
theorem ET.Row.sl {g : Nat} (h : E.Row w g l) : Sl w w.heap.size (some ⟨g, 0, none⟩) (E.dv l) := At.sl h
theorem ET.Row.take {g : Nat} (h : E.Row w g l) (n : Nat) : E.Row w g (l.take n) := by
  refine ⟨h.1, fun j u hj => h.2 j u ?_⟩
  rw [← ET.dv_take, List.getElem?_take] at hj
  split at hj
  · exact hj
  · cases hj
theorem ET.Own.row {g c : Nat} (h : E.Own w base (.slice (some ⟨g, 0, none⟩) l.length c) l) : E.Row w g l := by
  refine ⟨(h.lt' g rfl).2, fun j u hj => ?_⟩
  have hlt : j < (E.dv l).length := (List.getElem?_eq_some_iff.1 hj).1
  rw [E.dv_len] at hlt
  have c0 := World.ownsRow.cellAt h j hlt
  exact ⟨c0.trans hj, World.ownsRow.frozenAt h _⟩
/-- an element's cells in a slice -/
theorem ET.cell_at {B : Nat} {A : Option Addr} (h : Sl w B A (E.dv l)) {k : Nat} {s : α} (hs : l[k]? = some s) : ∃ b o, A = some ⟨b, o, none⟩ ∧ b < w.heap.size ∧ b < B ∧ ∀ j u, (E.cells s)[j]? = some u → w.cell? ⟨b, o + (k * E.n + j), none⟩ = some u := by
  have hk : k < l.length := (List.getElem?_eq_some_iff.1 hs).1
  obtain ⟨b, o, e, h1, h2, hc⟩ := h.at_ (k := 0) (by rw [E.dv_len]; exact Nat.mul_pos (by omega) E.pos)
  refine ⟨b, o, e, h2, h1, fun j u hu => hc _ _ ?_⟩
  have hj : j < E.n := by rw [← E.len s]; exact (List.getElem?_eq_some_iff.1 hu).1
  rw [E.dv_get l k j s hs hj, hu]
theorem ET.dv_set {l : List α} {k : Nat} (hk : k < l.length) (s : α) (j : Nat) : (E.dv (l.set k s))[j]? = if k * E.n ≤ j ∧ j < k * E.n + E.n then (E.cells s)[j - k * E.n]? else (E.dv l)[j]? := by
  have hp := E.pos
  have hlen : (l.set k s).length = l.length := List.length_set
  by_cases hj : j < l.length * E.n
  · have hq : j / E.n < l.length := by rw [Nat.div_lt_iff_lt_mul hp]; exact hj
    have hm := Nat.mod_lt j hp
    have e : j / E.n * E.n + j % E.n = j := by rw [Nat.mul_comm]; exact Nat.div_add_mod j E.n
    by_cases h : j / E.n = k
    · have h1 : (l.set k s)[j / E.n]? = some s := by rw [h, List.getElem?_set_self hk]
      have h2 := E.dv_get (l.set k s) (j / E.n) (j % E.n) s h1 hm
      rw [e] at h2
      rw [h] at e
      rw [if_pos (by omega), h2]
      congr 1
      omega
    · have h1 : (l.set k s)[j / E.n]? = l[j / E.n]? := by rw [List.getElem?_set_ne (fun h' => h h'.symm)]
      obtain ⟨y, hy⟩ : ∃ y, l[j / E.n]? = some y := ⟨_, List.getElem?_eq_getElem hq⟩
      have h2 := E.dv_get (l.set k s) (j / E.n) (j % E.n) y (h1.trans hy) hm
      have h3 := E.dv_get l (j / E.n) (j % E.n) y hy hm
      rw [e] at h2 h3
      rw [if_neg ?_, h2, h3]
      rintro ⟨h4, h5⟩
      apply h
      have h6 : k * E.n < (j / E.n + 1) * E.n := by rw [Nat.add_mul]; omega
      have h7 : j / E.n * E.n < (k + 1) * E.n := by rw [Nat.add_mul]; omega
      have h8 := Nat.lt_of_mul_lt_mul_right h6
      have h9 := Nat.lt_of_mul_lt_mul_right h7
      omega
  · have h1 : (k + 1) * E.n ≤ l.length * E.n := Nat.mul_le_mul_right _ (by omega)
    rw [Nat.add_mul] at h1
    rw [if_neg (by omega), List.getElem?_eq_none (by rw [E.dv_len, hlen]; omega), List.getElem?_eq_none (by rw [E.dv_len]; omega)]
theorem ET.Row.put {g : Nat} (h : E.Row w g l) {k : Nat} (hk : k < l.length) (s : α) : E.Row (w.setCells g (k * E.n) (E.cells s)) g (l.set k s) := by
  have hsz : ∀ (vs : List Value) (o : Nat) (w : World), (w.setCells g o vs).heap.size = w.heap.size := by
    intro vs
    induction vs with
    | nil => intro o w; rfl
    | cons v vs ih => intro o w; rw [World.setCells, ih]; simp
  have hk1 : (k + 1) * E.n ≤ l.length * E.n := Nat.mul_le_mul_right _ (by omega)
  rw [Nat.add_mul] at hk1
  have hcell : ∀ j, j < l.length * E.n → ∃ u, (E.dv l)[j]? = some u ∧ w.cell? ⟨g, j, none⟩ = some u := fun j hj => by
    have hj' : j < (E.dv l).length := by rw [E.dv_len]; exact hj
    exact ⟨_, List.getElem?_eq_getElem hj', (h.2 j _ (List.getElem?_eq_getElem hj')).1⟩
  refine ⟨by rw [hsz]; exact h.1, fun j u hj => ?_⟩
  have hjl : j < (E.dv (l.set k s)).length := (List.getElem?_eq_some_iff.1 hj).1
  rw [E.dv_len, List.length_set] at hjl
  obtain ⟨u0, hu0, hc0⟩ := hcell j hjl
  refine ⟨?_, by rw [World.frozen?_setCells]; exact (h.2 j u0 hu0).2⟩
  rw [E.dv_set hk] at hj
  by_cases hin : k * E.n ≤ j ∧ j < k * E.n + E.n
  · rw [if_pos hin] at hj
    have hjs : j - k * E.n < (E.cells s).length := (List.getElem?_eq_some_iff.1 hj).1
    have := World.cell?_setCells_in g (E.cells s) (k * E.n) w (fun i hi => by
      obtain ⟨u1, _, h1⟩ := hcell (k * E.n + i) (by rw [E.len] at hi; omega)
      rw [h1]; rfl) (j - k * E.n) hjs
    rw [show k * E.n + (j - k * E.n) = j by omega] at this
    rw [this, ← hj, List.getElem?_eq_getElem hjs]
  · rw [if_neg hin] at hj
    rw [World.cell?_setCells_out g (E.cells s) (k * E.n) w _ (fun _ _ => ?_)]
    · rw [hc0]; rw [hu0] at hj; exact hj
    · rw [E.len]
      show j < k * E.n ∨ k * E.n + E.n ≤ j
      omega
end
end Go.Proofs.Ytjijhmeagjhfoaa

