/- append of one slice behind a row of slices of the call's own. -/
import Derived.Test.YtkgmbpbbgkjidaaMat
import Derived.Test.YtkgmbpbbgkjidaaPar
namespace Go.Proofs.Ytkgmbpbbgkjidaa
open Go.RowKit

abbrev OwnS (w : World) (base : Nat) (v : Value) (vs : List Value) : Prop := w.ownsRow base 25 1 v vs.length vs
theorem slinfo : (Try.prog.info? 25).map (fun i => (i.zero, i.size, i.bytes)) = some (some (.slice none 0 0), 1, 24) := by kernel_rfl
theorem OwnS.nil (w : World) (base : Nat) : OwnS w base (.slice none 0 0) [] := World.ownsRow_nil w base _ 1
theorem OwnS.form {w : World} {base : Nat} {v : Value} {vs : List Value} (h : OwnS w base v vs) : ∃ A c, v = .slice A vs.length c ∧ vs.length ≤ c ∧ c ≤ maxLen ∧ Sl w w.heap.size A vs := by
  rcases h.2 with ⟨rfl, hn⟩ | ⟨g, cap, cur, rfl, hb, hg, hn, hm, hcs, ht⟩
  · exact ⟨none, 0, by rw [hn], by omega, by simp [maxLen], .inl (List.eq_nil_of_length_eq_zero hn)⟩
  · have hlt : g < w.heap.size := (Array.getElem?_eq_some_iff.1 hg).1
    refine ⟨_, cap, rfl, hn, hm, .inr ⟨g, 0, rfl, hlt, hlt, fun j u hu => ?_⟩⟩
    have := h.cells (g := g) rfl j u hu
    rw [Nat.zero_add]
    rw [addr0] at this
    exact this
theorem OwnS.below {w w' : World} {base : Nat} {v : Value} {vs : List Value} (h : OwnS w base v vs) (hb : Below w.heap.size w w') : OwnS w' base v vs :=
  h.kept (row := none) ⟨hb.os, hb.tape, hb.output, hb.size, fun k hk _ => hb.block k hk⟩ (by cases hv : v.ownBlock <;> simp)
theorem run_appS (w : World) (ty : TypeId) {base : Nat} {v : Value} {vs : List Value} (hown : OwnS w base v vs) {g c : Nat} {x : Value} (hcell : w.cell? ⟨g, 0, none⟩ = some x) (hx : x.oneCell' = true) (hn : vs.length + 1 ≤ 1000000) (hbase : base ≤ w.heap.size) :
    ∃ v' w', (Builtin.append_ #[22, 22] ty #[v, .slice (some ⟨g, 0, none⟩) 1 c]).run Try.prog w = .ok v' w' ∧ OwnS w' base v' (vs ++ [x]) ∧ w.grownBy w' v.ownBlock ∧ (v'.ownBlock = v.ownBlock ∨ v'.ownBlock = some w.heap.size) := by
  obtain ⟨i, hi, hz, hz1, hz2⟩ := info_parts slinfo
  obtain ⟨v', w', hrun, h2, h3, _, h5⟩ := run_append_own_at (P := Try.prog) w base 22 ty 25 i (.slice none 0 0) 1 24 Try.underlying22 hi hz hz1 hz2 rfl (by omega) v vs.length vs hown ⟨g, 0, none⟩ 1 c [x]
    rfl (fun j u hu => by
      match j, hu with
      | 0, hu => simp at hu; subst hu; simpa [Addr.add] using hcell
      | j + 1, hu => simp at hu) (fun u hu => by simp at hu; subst hu; exact hx) (by simp only [maxLen]; omega) (by omega) hbase
  exact ⟨v', w', hrun, by simpa [OwnS] using h2, h3, h5⟩
section
variable {ops : Array Oper} {rest : List Oper} {o : Oper} {a : Act} {Q : Exit → Act → World → Prop} {w : World} {s x : Operand}
theorem wp_appS {K : Act → World → Prop} (ho : o.op = .call { callee := .builtin .append, args := #[s, x], argTypes := #[22, 22] })
    {base : Nat} {v : Value} {vs : List Value} (hown : OwnS w base v vs) {g c : Nat} {u : Value} (hcell : w.cell? ⟨g, 0, none⟩ = some u) (hu : u.oneCell' = true) (hn : vs.length + 1 ≤ 1000000)
    (hs : a.eval s = v) (hx : a.eval x = .slice (some ⟨g, 0, none⟩) 1 c) (hbase : base ≤ w.heap.size)
    (h : ∀ v' w', OwnS w' base v' (vs ++ [u]) → w.grownBy w' v.ownBlock → (v'.ownBlock = v.ownBlock ∨ v'.ownBlock = some w.heap.size) → K (a.put o.dst v') w') : o.wp Try.prog a w K Q := by
  obtain ⟨v', w', hrun, h2, h3, h4⟩ := run_appS w o.type hown hcell hu hn hbase (c := c)
  unfold Oper.wp execOp
  simp only [ho, resolve, invoke, builtin, Sem.run_bind, Sem.run_pure, Result.andThen_ok, List.map_toArray, List.map_cons, List.map_nil, hs, hx, hrun]
  exact h v' w' h2 h3 h4
theorem appSG (hgd : Region.wanted o (yielded ops a.tmps) = true) (ho : o.op = .call { callee := .builtin .append, args := #[s, x], argTypes := #[22, 22] })
    {base : Nat} {v : Value} {vs : List Value} (hown : OwnS w base v vs) {g c : Nat} {u : Value} (hcell : w.cell? ⟨g, 0, none⟩ = some u) (hu : u.oneCell' = true) (hn : vs.length + 1 ≤ 1000000)
    (hs : a.eval s = v) (hx : a.eval x = .slice (some ⟨g, 0, none⟩) 1 c) (hbase : base ≤ w.heap.size)
    (h : ∀ v' w', OwnS w' base v' (vs ++ [u]) → w.grownBy w' v.ownBlock → (v'.ownBlock = v.ownBlock ∨ v'.ownBlock = some w.heap.size) → wpList Try.prog ops Q rest (a.put o.dst v') w') : wpList Try.prog ops Q (o :: rest) a w :=
  BigFrame.wpList_want hgd fun _ hK => wp_appS ho hown hcell hu hn hs hx hbase fun v' w' h2 h3 h4 => hK _ _ (h v' w' h2 h3 h4)
end
end Go.Proofs.Ytkgmbpbbgkjidaa

