/- Rows of int64 of the call's own: append. -/
import Derived.Test.YtdpkmabojlihmaaRgM
namespace Go.Proofs.Ytdpkmabojlihmaa
open Go.RowKit Go.Proofs.Ytdpkmabojlihmaa.Pl Go.Proofs.Ytdpkmabojlihmaa.Sp

abbrev OwnZ (w : World) (base : Nat) (v : Value) (l : List Int) : Prop := w.ownsRow base 2 1 v l.length (zv l)
theorem zinfo : (Try.prog.info? 2).map (fun i => (i.zero, i.size, i.bytes)) = some (some (.int .i64 0), 1, 8) := by kernel_rfl
theorem OwnZ.nil (w : World) (base : Nat) : OwnZ w base (.slice none 0 0) [] := World.ownsRow_nil w base _ 1
theorem zv_app (a b : List Int) : zv (a ++ b) = zv a ++ zv b := by simp [zv]
theorem zv_one (l : List Int) : ∀ u ∈ zv l, u.oneCell' = true := by
  intro u hu
  simp only [zv, List.mem_map] at hu
  obtain ⟨c, _, rfl⟩ := hu
  rfl
theorem OwnZ.form {w : World} {base : Nat} {v : Value} {l : List Int} (h : OwnZ w base v l) : ∃ A c, v = .slice A l.length c ∧ Sl w w.heap.size A (zv l) ∧ l.length ≤ c ∧ c ≤ maxLen := by
  rcases h.2 with ⟨rfl, hn⟩ | ⟨g, cap, cur, rfl, hb, hg, hn, hm, hcs, ht⟩
  · have := List.eq_nil_of_length_eq_zero hn
    subst this
    exact ⟨none, 0, rfl, .inl rfl, by simp, by simp [maxLen]⟩
  · have hlt : g < w.heap.size := (Array.getElem?_eq_some_iff.1 hg).1
    refine ⟨_, cap, rfl, .inr ⟨g, 0, rfl, hlt, hlt, fun j u hu => ?_⟩, hn, hm⟩
    have := h.cells (g := g) rfl j u hu
    rw [Nat.zero_add]
    rw [addr0] at this
    exact this
theorem OwnZ.below {w w' : World} {base : Nat} {v : Value} {l : List Int} (h : OwnZ w base v l) (hb : Below w.heap.size w w') : OwnZ w' base v l :=
  h.kept (row := none) ⟨hb.os, hb.tape, hb.output, hb.size, fun k hk _ => hb.block k hk⟩ (by cases hv : v.ownBlock <;> simp)
theorem own_belowZ {w wr w1 : World} {x : Value} {B : Nat} {l : List Int} (hb : Below B w wr) (hB : B ≤ wr.heap.size) (hown : OwnZ wr B x l) (hg : wr.grownBy w1 x.ownBlock) : Below B w w1 :=
  hb.trans (below_of_grown hg (fun g e => (hown.lt g e).1) hB)
theorem run_appZ (w : World) (ty : TypeId) {base : Nat} {v : Value} {l : List Int} (hown : OwnZ w base v l) {B : Nat} {A : Option Addr} {m c : Nat} {k : List Int} (hr : Sl w B A (zv k)) (hm : m = k.length)
    (hl : l.length + k.length ≤ 1000000000) (hbase : base ≤ w.heap.size) :
    ∃ v' w', (Builtin.append_ #[35, 35] ty #[v, .slice A m c]).run Try.prog w = .ok v' w' ∧ OwnZ w' base v' (l ++ k) ∧ w.grownBy w' v.ownBlock ∧ (v'.ownBlock = v.ownBlock ∨ v'.ownBlock = some w.heap.size) := by
  subst hm
  obtain ⟨i, hi, hz, hz1, hz2⟩ := info_parts zinfo
  rcases A with _ | ad
  · have hk : k = [] := by
      rcases hr with h | ⟨b, o, h, _⟩
      · have := zv_len k
        rw [h] at this
        exact List.eq_nil_of_length_eq_zero (by simp at this; omega)
      · cases h
    subst hk
    refine ⟨v, w, ?_, by simpa using hown, World.grownBy.refl w _, .inl rfl⟩
    rcases hown.2 with ⟨e, h0⟩ | ⟨g, cap', cur, e, hb0, hg0, hnc0, _⟩
    · subst e
      simp [Builtin.append_, run_underlying Try.underlying35, sizeOf, typeInfo, hi, Builtin.lenOf, Builtin.firstCells]
    · subst e
      simp [Builtin.append_, run_underlying Try.underlying35, sizeOf, typeInfo, hi, Builtin.lenOf, Builtin.firstCells, loadCells, hnc0, storeCells]
  · obtain ⟨v', w', hrun, h2, h3, _, h5⟩ := run_append_own_at (P := Try.prog) w base 35 ty 2 i (.int .i64 0) 1 8 Try.underlying35 hi hz hz1 hz2 rfl (by omega) v l.length (zv l) hown ad k.length c (zv k)
      (by rw [zv_len, Nat.mul_one]) (fun j u hu => by
        rcases hr with h | ⟨b, o, h, _, _, hc⟩
        · rw [h] at hu; simp at hu
        · injection h with h
          subst h
          have : (⟨b, o, none⟩ : Addr).add j = ⟨b, o + j, none⟩ := by
            unfold Addr.add
            split
            · rename_i h0; subst h0; rfl
            · rfl
          rw [this]; exact hc j u hu) (zv_one k) (by simp only [maxLen]; omega) (by omega) hbase
    exact ⟨v', w', hrun, by rw [OwnZ, zv_app, List.length_append]; exact h2, h3, h5⟩
section
variable {ops : Array Oper} {rest : List Oper} {o : Oper} {a : Act} {Q : Exit → Act → World → Prop} {w : World} {s x : Operand}
theorem wp_appZ {K : Act → World → Prop} (ho : o.op = .call { callee := .builtin .append, args := #[s, x], argTypes := #[35, 35] })
    {base : Nat} {v : Value} {l : List Int} (hown : OwnZ w base v l) {B : Nat} {A : Option Addr} {m c : Nat} {k : List Int} (hr : Sl w B A (zv k)) (hm : m = k.length)
    (hs : a.eval s = v) (hx : a.eval x = .slice A m c) (hl : l.length + k.length ≤ 1000000000) (hbase : base ≤ w.heap.size)
    (h : ∀ v' w', OwnZ w' base v' (l ++ k) → w.grownBy w' v.ownBlock → (v'.ownBlock = v.ownBlock ∨ v'.ownBlock = some w.heap.size) → K (a.put o.dst v') w') : o.wp Try.prog a w K Q := by
  obtain ⟨v', w', hrun, h2, h3, h4⟩ := run_appZ w o.type hown hr hm hl hbase (c := c)
  unfold Oper.wp execOp
  simp only [ho, resolve, invoke, builtin, Sem.run_bind, Sem.run_pure, Result.andThen_ok, List.map_toArray, List.map_cons, List.map_nil, hs, hx, hrun]
  exact h v' w' h2 h3 h4
theorem appZ (hgd : o.guard = none) (ho : o.op = .call { callee := .builtin .append, args := #[s, x], argTypes := #[35, 35] })
    {base : Nat} {v : Value} {l : List Int} (hown : OwnZ w base v l) {B : Nat} {A : Option Addr} {m c : Nat} {k : List Int} (hr : Sl w B A (zv k)) (hm : m = k.length)
    (hs : a.eval s = v) (hx : a.eval x = .slice A m c) (hl : l.length + k.length ≤ 1000000000) (hbase : base ≤ w.heap.size)
    (h : ∀ v' w', OwnZ w' base v' (l ++ k) → w.grownBy w' v.ownBlock → (v'.ownBlock = v.ownBlock ∨ v'.ownBlock = some w.heap.size) → wpList Try.prog ops Q rest (a.put o.dst v') w') : wpList Try.prog ops Q (o :: rest) a w :=
  wpList_plain hgd fun _ hK => wp_appZ ho hown hr hm hs hx hl hbase fun v' w' h2 h3 h4 => hK _ _ (h v' w' h2 h3 h4)
end
theorem boxZ (w : World) (x : Int) : Below w.heap.size w (w.alloc (.cells #[.int .i64 x] 2)) := balloc (Below.refl _ _) _
theorem Sl.oneZ (w : World) (x : Int) : Sl (w.alloc (.cells #[.int .i64 x] 2)) (w.alloc (.cells #[.int .i64 x] 2)).heap.size (some ⟨w.heap.size, 0, none⟩) (zv [x]) :=
  (Sl.new w 2 #[.int .i64 x] (0, 0)).more (by simp)
end Go.Proofs.Ytdpkmabojlihmaa

