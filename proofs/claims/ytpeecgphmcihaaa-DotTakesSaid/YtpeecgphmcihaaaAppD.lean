/- append of dots behind a slice that is full: a fresh row. -/
import Derived.Test.YtpeecgphmcihaaaDotF
import Derived.ArgAppend
import Derived.Deep.Upon
namespace Go.Proofs.Ytpeecgphmcihaaa
open Go.RowKit Go.Proofs.Ytpeecgphmcihaaa.Dt

theorem run_appFD (w : World) (ty : TypeId) {B B' : Nat} {A A' : Option Addr} {n m c cap : Nat} {l k : List D2} (hs : Sl w B A (dv l)) (hn : n = l.length) (hr : Sl w B' A' (dv k)) (hm : m = k.length)
    (hfull : cap < n + m) (hnil : A = none → n = 0 ∧ cap = 0) (hle : n ≤ cap) (hbytes : l.length + k.length ≤ 1000000000) :
    ∃ v' w', (Builtin.append_ #[25, 25] ty #[.slice A n cap, .slice A' m c]).run Try.prog w = .ok v' w' ∧ OwnD w' w.heap.size v' (l ++ k) ∧ w.grownBy w' none := by
  subst hn hm
  obtain ⟨i, hi, hz, hz1, hz2⟩ := info_parts dotinfo
  have hkpos : 0 < k.length := by
    rcases Nat.eq_zero_or_pos k.length with h | h
    · omega
    · exact h
  obtain ⟨b', o', e', _, _, hc'⟩ := hr.at_ (k := 0) (by rw [dv_len]; omega)
  subst e'
  have hadd : ∀ (b o j : Nat), (⟨b, o, none⟩ : Addr).add j = ⟨b, o + j, none⟩ := by
    intro b o j
    unfold Addr.add
    split
    · rename_i h0; subst h0; rfl
    · rfl
  cases A with
  | none =>
    obtain ⟨h0, rfl⟩ := hnil rfl
    have hl : l = [] := List.eq_nil_of_length_eq_zero h0
    subst hl
    obtain ⟨v', w', h1, h2, h3, _⟩ := run_appD w ty (OwnD.nil w w.heap.size) hr (c := c) rfl hbytes (Nat.le_refl _)
    exact ⟨v', w', h1, h2, h3⟩
  | some a =>
    have holds : ∀ j u, (dv l)[j]? = some u → w.cell? (a.add j) = some u := by
      intro j u hu
      rcases hs with h | ⟨b, o, e, _, _, hc⟩
      · rw [h] at hu; cases hu
      · cases e
        rw [hadd]
        exact hc j u hu
    obtain ⟨v', w', hrun, h2, h3⟩ := run_append_arg_grows (P := Try.prog) w 25 ty 23 i (.agg #[.int .i64 0, .int .i64 0]) 2 16 Try.underlying25 hi hz hz1 hz2 rfl (by omega) a l.length cap (dv l) (dv_len l) holds
      ⟨b', o', none⟩ k.length c (dv k) (dv_len k) (fun j u hu => by rw [hadd]; exact hc' j u hu) hfull (by simp only [maxLen]; omega) (by omega)
    exact ⟨v', w', hrun, by rw [OwnD, dv_append, List.length_append]; exact h2, h3⟩
section
variable {ops : Array Oper} {rest : List Oper} {o : Oper} {a : Act} {Q : Exit → Act → World → Prop} {w : World} {s x : Operand}
theorem wp_appFD {K : Act → World → Prop} (ho : o.op = .call { callee := .builtin .append, args := #[s, x], argTypes := #[25, 25] })
    {B B' : Nat} {A A' : Option Addr} {n m c cap : Nat} {l k : List D2} (hsl : Sl w B A (dv l)) (hn : n = l.length) (hr : Sl w B' A' (dv k)) (hm : m = k.length)
    (hs : a.eval s = .slice A n cap) (hx : a.eval x = .slice A' m c) (hfull : cap < n + m) (hnil : A = none → n = 0 ∧ cap = 0) (hle : n ≤ cap) (hbytes : l.length + k.length ≤ 1000000000)
    (h : ∀ v' w', OwnD w' w.heap.size v' (l ++ k) → w.grownBy w' none → K (a.put o.dst v') w') : o.wp Try.prog a w K Q := by
  obtain ⟨v', w', hrun, h2, h3⟩ := run_appFD w o.type hsl hn hr (c := c) hm hfull hnil hle hbytes
  unfold Oper.wp execOp
  simp only [ho, resolve, invoke, builtin, Sem.run_bind, Sem.run_pure, Result.andThen_ok, List.map_toArray, List.map_cons, List.map_nil, hs, hx, hrun]
  exact h v' w' h2 h3
theorem appD (hgd : o.guard = none) (ho : o.op = .call { callee := .builtin .append, args := #[s, x], argTypes := #[25, 25] })
    {base : Nat} {v : Value} {l : List D2} (hown : OwnD w base v l) {B : Nat} {A : Option Addr} {m c : Nat} {k : List D2} (hr : Sl w B A (dv k)) (hm : m = k.length)
    (hs : a.eval s = v) (hx : a.eval x = .slice A m c) (hl : l.length + k.length ≤ 1000000000) (hbase : base ≤ w.heap.size)
    (h : ∀ v' w', OwnD w' base v' (l ++ k) → w.grownBy w' v.ownBlock → (v'.ownBlock = v.ownBlock ∨ v'.ownBlock = some w.heap.size) → wpList Try.prog ops Q rest (a.put o.dst v') w') : wpList Try.prog ops Q (o :: rest) a w :=
  wpList_plain hgd fun _ hK => wp_appD ho hown hr hm hs hx hl hbase fun v' w' h2 h3 h4 => hK _ _ (h v' w' h2 h3 h4)
theorem appFD (hgd : o.guard = none) (ho : o.op = .call { callee := .builtin .append, args := #[s, x], argTypes := #[25, 25] })
    {B B' : Nat} {A A' : Option Addr} {n m c cap : Nat} {l k : List D2} (hsl : Sl w B A (dv l)) (hn : n = l.length) (hr : Sl w B' A' (dv k)) (hm : m = k.length)
    (hs : a.eval s = .slice A n cap) (hx : a.eval x = .slice A' m c) (hfull : cap < n + m) (hnil : A = none → n = 0 ∧ cap = 0) (hle : n ≤ cap) (hbytes : l.length + k.length ≤ 1000000000)
    (h : ∀ v' w', OwnD w' w.heap.size v' (l ++ k) → w.grownBy w' none → wpList Try.prog ops Q rest (a.put o.dst v') w') : wpList Try.prog ops Q (o :: rest) a w :=
  wpList_plain hgd fun _ hK => wp_appFD ho hsl hn hr hm hs hx hfull hnil hle hbytes fun v' w' h2 h3 => hK _ _ (h v' w' h2 h3)
theorem appFDG (hgd : Region.wanted o (yielded ops a.tmps) = true) (ho : o.op = .call { callee := .builtin .append, args := #[s, x], argTypes := #[25, 25] })
    {B B' : Nat} {A A' : Option Addr} {n m c cap : Nat} {l k : List D2} (hsl : Sl w B A (dv l)) (hn : n = l.length) (hr : Sl w B' A' (dv k)) (hm : m = k.length)
    (hs : a.eval s = .slice A n cap) (hx : a.eval x = .slice A' m c) (hfull : cap < n + m) (hnil : A = none → n = 0 ∧ cap = 0) (hle : n ≤ cap) (hbytes : l.length + k.length ≤ 1000000000)
    (h : ∀ v' w', OwnD w' w.heap.size v' (l ++ k) → w.grownBy w' none → wpList Try.prog ops Q rest (a.put o.dst v') w') : wpList Try.prog ops Q (o :: rest) a w :=
  BigFrame.wpList_want hgd fun _ hK => wp_appFD ho hsl hn hr hm hs hx hfull hnil hle hbytes fun v' w' h2 h3 => hK _ _ (h v' w' h2 h3)
end
theorem below_none {w w' : World} (hg : w.grownBy w' none) : Below w.heap.size w w' := ⟨hg.os, hg.tape, hg.output, hg.size, fun k hk => hg.block k hk (fun e => by cases e)⟩
theorem OwnD.lower {w : World} {base base' : Nat} {v : Value} {l : List D2} (h : OwnD w base v l) (hb : base' ≤ base) : OwnD w base' v l := by
  refine ⟨h.1, ?_⟩
  rcases h.2 with h' | ⟨g, cap, cur, e, hg, h'⟩
  · exact .inl h'
  · exact .inr ⟨g, cap, cur, e, Nat.le_trans hb hg, h'⟩
theorem OwnD.lit (w : World) (_ : TypeId) (x : D2) : OwnD (w.alloc (.cells #[.int .i64 x.r, .int .i64 x.q] 23)) w.heap.size (.slice (some ⟨w.heap.size, 0, none⟩) 1 1) [x] :=
  World.ownsRow_lit (base := w.heap.size) (e := 23) (size := 2) w #[.int .i64 x.r, .int .i64 x.q] 1 (Nat.le_refl _) (by simp [maxLen]) rfl
/-- where x stands in l -/
theorem insD_at : ∀ (l : List D2) (x : D2) (j : Nat), j ≤ l.length → (∀ i, i < j → (l[i]?.getD ⟨0, 0⟩).lt x = true) → (j = l.length ∨ (l[j]?.getD ⟨0, 0⟩).lt x = false) →
    insD l x = if j < l.length ∧ l[j]?.getD ⟨0, 0⟩ = x then l else l.take j ++ [x] ++ l.drop j
  | [], x, j, hj, _, _ => by
    obtain rfl : j = 0 := by simpa using hj
    simp [insD]
  | y :: l, x, 0, _, _, h => by
    have h' : y.lt x = false := by rcases h with h | h; · simp at h
                                   · simpa using h
    rw [insD, if_neg (by simp [h'])]
    by_cases e : y = x
    · rw [if_pos e, if_pos ⟨by simp, by simpa using e⟩]
    · rw [if_neg e, if_neg (by rintro ⟨_, h⟩; exact e (by simpa using h))]; rfl
  | y :: l, x, j + 1, hj, hl, h => by
    have h0 : y.lt x = true := by simpa using hl 0 (by omega)
    have ih := insD_at l x j (by simpa using hj) (fun i hi => by simpa using hl (i + 1) (by omega)) (by simpa using h)
    rw [insD, if_pos h0, ih]
    by_cases e : j < l.length ∧ l[j]?.getD ⟨0, 0⟩ = x
    · rw [if_pos e, if_pos ⟨by simpa using e.1, by simpa using e.2⟩]
    · rw [if_neg e, if_neg (by simpa using e)]; rfl
theorem insD_len : ∀ (l : List D2) (x : D2), (insD l x).length ≤ l.length + 1
  | [], x => by simp [insD]
  | y :: l, x => by
    have := insD_len l x
    unfold insD
    split
    · simp; omega
    · split <;> simp
theorem insD_ne (l : List D2) (x : D2) : insD l x ≠ [] := by
  cases l with
  | nil => simp [insD]
  | cons y l => unfold insD; split <;> (try split) <;> simp
theorem fold_len (l : List D2) : ∀ o : List D2, (l.foldl insD o).length ≤ o.length + l.length := by
  induction l with
  | nil => intro o; simp
  | cons x t ih =>
    intro o
    have := ih (insD o x)
    have := insD_len o x
    simp at *; omega
theorem sortD_snoc {l : List D2} {k : Nat} (hk : k < l.length) : sortD (l.take (k + 1)) = insD (sortD (l.take k)) (l[k]?.getD ⟨0, 0⟩) := by
  rw [List.take_succ_eq_append_getElem hk, sortD, List.foldl_append, List.getElem?_eq_getElem hk]; rfl
theorem sortD_len (l : List D2) : (sortD l).length ≤ l.length := by
  have := fold_len l []
  simpa [sortD] using this
end Go.Proofs.Ytpeecgphmcihaaa

