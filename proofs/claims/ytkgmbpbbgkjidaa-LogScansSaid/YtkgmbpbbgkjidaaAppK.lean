/- Memory: append behind a row of the call's own; the row itself stays what it was. -/
import Derived.Test.YtkgmbpbbgkjidaaApp
namespace Go.Proofs.Ytkgmbpbbgkjidaa
open Go.RowKit

theorem run_app_kept (w : World) (ty : TypeId) {base : Nat} {Av : Option Addr} {n cap : Nat} {l : List UInt8} (hown : OwnB w base (.slice Av n cap) l) {B : Nat} {A : Option Addr} {m c : Nat} {k : List UInt8} (hr : Sl w B A (bv k)) (hm : m = k.length)
    (hbytes : l.length + k.length ≤ 140737488355328) (hbase : base ≤ w.heap.size) :
    ∃ v' w', (Builtin.append_ #[25, 25] ty #[.slice Av n cap, .slice A m c]).run Try.prog w = .ok v' w' ∧ OwnB w' base v' (l ++ k) ∧ w.grownBy w' (Value.slice Av n cap).ownBlock ∧ Sl w' w'.heap.size Av (bv l) := by
  obtain ⟨A', c', e, hnc, _, hs, hnone, hsome⟩ := hown.form
  injection e with e1 e2 e3
  subst e1 e2 e3
  by_cases hk0 : k = []
  · subst hk0
    subst hm
    obtain ⟨i, hi, hz, hz1, hz2⟩ := info_parts u8info
    refine ⟨_, w, ?_, by simpa using hown, World.grownBy.refl w _, hs⟩
    rcases hown.2 with ⟨e, h0⟩ | ⟨g, cap', cur, e, _⟩
    · injection e with e1 e2 e3
      subst e1
      simp only [e2, e3]
      rcases A with _ | ad <;> simp [Builtin.append_, run_underlying Try.underlying25, sizeOf, typeInfo, hi, Builtin.lenOf, Builtin.firstCells, loadCells, loadCellsFrom]
    · injection e with e1 e2 e3
      subst e1
      rcases A with _ | ad <;> simp [Builtin.append_, run_underlying Try.underlying25, sizeOf, typeInfo, hi, Builtin.lenOf, Builtin.firstCells, loadCells, loadCellsFrom, hnc, storeCells]
  · have hkpos : 0 < k.length := List.length_pos_iff.2 hk0
    by_cases hfit : l.length + m ≤ cap
    · obtain ⟨v', w', hrun, h2, h3, h4⟩ := run_app w ty hown hr (c := c) hm hbytes hbase
      refine ⟨v', w', hrun, h2, h3, ?_⟩
      rcases hown.2 with ⟨e, h0⟩ | ⟨g, cap', cur, e, hb, hg, hn, hcm, hcs, ht⟩
      · injection e with e1 e2 e3
        subst e1
        have : l = [] := List.eq_nil_of_length_eq_zero e2
        subst this
        exact Sl.nil
      · injection e with e1 e2 e3
        subst e1 e3
        obtain ⟨i, hi, hz, hz1, hz2⟩ := info_parts u8info
        obtain ⟨b', o', e', _, _, hc'⟩ := hr.at_ (k := 0) (by simpa using hkpos)
        subst e'
        have hadd : ∀ (b o j : Nat), (⟨b, o, none⟩ : Addr).add j = ⟨b, o + j, none⟩ := by
          intro b o j
          unfold Addr.add
          split
          · rename_i h0; subst h0; rfl
          · rfl
        have hr' := run_append_room (P := Try.prog) w 25 ty 5 i Try.underlying25 hi g l.length cap cur hg ⟨b', o', none⟩ m c (bv k) (by rw [hz1]; simp [hm]) (fun j u hu => by rw [hadd]; exact hc' j u hu) (bv_one k) hfit
          (by rw [hz1]; simp; omega)
        rw [hr'] at hrun
        injection hrun with hv' _
        subst hv'
        obtain ⟨A2, c2, e2, _, _, hs2, _⟩ := h2.form
        injection e2 with e2 _ _
        subst e2
        have := hs2.tk l.length
        rwa [bv_take, List.take_left' rfl] at this
    · obtain ⟨v', w', hrun, h2, h3⟩ := run_appF w ty hs rfl hr (c := c) hm (by omega) (fun h => by
        have := hnone h
        subst this
        rcases hown.2 with ⟨e, h0⟩ | ⟨g, cap', cur, e, hb, hg, hn, hcm, hcs, ht⟩
        · injection e with e1 e2 e3; exact ⟨e2, e3⟩
        · injection e with e1; rw [h] at e1; cases e1) hnc hbytes
      have hb := below_of_grown (B := w.heap.size) h3 (fun g e => by cases e) (Nat.le_refl _)
      exact ⟨v', w', hrun, h2.base_le hbase, ⟨h3.os, h3.tape, h3.output, h3.size, fun k hk _ => h3.block k hk (by simp)⟩, (hs.below hb).more hb.size⟩
section
variable {ops : Array Oper} {rest : List Oper} {o : Oper} {a : Act} {Q : Exit → Act → World → Prop} {w : World} {s x : Operand}
theorem appK (hgd : Region.wanted o (yielded ops a.tmps) = true) (ho : o.op = .call { callee := .builtin .append, args := #[s, x], argTypes := #[25, 25] })
    {base : Nat} {Av : Option Addr} {n cap : Nat} {l : List UInt8} (hown : OwnB w base (.slice Av n cap) l) {B : Nat} {A : Option Addr} {m c : Nat} {k : List UInt8} (hr : Sl w B A (bv k)) (hm : m = k.length)
    (hs : a.eval s = .slice Av n cap) (hx : a.eval x = .slice A m c) (hbytes : l.length + k.length ≤ 140737488355328) (hbase : base ≤ w.heap.size)
    (h : ∀ v' w', OwnB w' base v' (l ++ k) → w.grownBy w' (Value.slice Av n cap).ownBlock → Sl w' w'.heap.size Av (bv l) → wpList Try.prog ops Q rest (a.put o.dst v') w') : wpList Try.prog ops Q (o :: rest) a w :=
  BigFrame.wpList_want hgd fun _ hK => by
    obtain ⟨v', w', hrun, h2, h3, h4⟩ := run_app_kept w o.type hown hr (c := c) hm hbytes hbase
    unfold Oper.wp execOp
    simp only [ho, resolve, invoke, builtin, Sem.run_bind, Sem.run_pure, Result.andThen_ok, List.map_toArray, List.map_cons, List.map_nil, hs, hx, hrun]
    exact hK _ _ (h v' w' h2 h3 h4)
end
end Go.Proofs.Ytkgmbpbbgkjidaa

