/- Flags: the ids of a walk, collected: slices.AppendSeq, slices.Collect. -/
import Derived.Test.YtjijhmeagjhfoaaFlK
import Derived.Test.YtjijhmeagjhfoaaIdE
import Derived.RangeFuncBox
namespace Go.Proofs.Ytjijhmeagjhfoaa
open Go.RowKit Go.Maps Go.Shelf
attribute [local go_sem] Oper.semAt_some
set_option maxRecDepth 20000

theorem ET.Own.keptN {P : Program} {t e : TypeId} {α : Type} {E : ET P t e α} {W W' : World} {base : Nat} {v : Value} {l : List α} (h : E.Own W base v l) {row : Option Nat} (hg : W.grownBy W' row) (hr : ∀ r, row = some r → ∃ o : Obj, W.heap[r]? = some o ∧ o.isCells = false) : E.Own W' base v l := by
  refine h.keep hg ?_
  rcases h.2 with ⟨rfl, _⟩ | ⟨g, cap, cur, rfl, hb, hgo, _⟩
  · exact .inl rfl
  · refine .inr fun e => ?_
    obtain ⟨o, ho, hc⟩ := hr g e.symm
    rw [hgo] at ho
    cases ho
    cases hc
theorem ET.Own.rowC {P : Program} {t e : TypeId} {α : Type} {E : ET P t e α} {W : World} {base : Nat} {v : Value} {l : List α} (h : E.Own W base v l) : ∀ g, v.ownBlock = some g → base ≤ g ∧ g < W.heap.size ∧ ∀ o : Obj, W.heap[g]? = some o → o.isCells = true := by
  rcases h.2 with ⟨rfl, _⟩ | ⟨g, cap, cur, rfl, hb, hgo, _⟩
  · intro g e; cases e
  · intro k e; cases e; exact ⟨hb, (Array.getElem?_eq_some_iff.1 hgo).1, fun o ho => by rw [hgo] at ho; cases ho; rfl⟩
theorem At.keptN {W W' : World} {g : Nat} {vs : List Value} (h : At W g vs) (hv : vs ≠ []) {row : Option Nat} (hg : W.grownBy W' row) (hr : ∀ r, row = some r → ∃ o : Obj, W.heap[r]? = some o ∧ o.isCells = false) : At W' g vs := by
  refine h.grown hg fun e => ?_
  obtain ⟨o, ho, hc⟩ := hr g e
  cases vs with
  | nil => exact hv rfl
  | cons u us =>
    have := h.c 0 (v := u) rfl
    cases o <;> simp [World.cell?, ho] at this <;> cases hc
section
variable {F : Fence} {n : Nat} {P : Program} {t e : TypeId} {α : Type} {E : ET P t e α} {ops : Array Oper} {rest : List Oper} {o : Oper} {a : Act} {Q : Exit → Act → World → Prop} {w : World} {s x : Operand}
theorem appEI (hgd : o.guard = none) (ho : o.op = .call { callee := .builtin .append, args := #[s, x], argTypes := #[t, t] })
    {base : Nat} {v : Value} {l : List α} (hown : E.Own w base v l) {B : Nat} {A : Option Addr} {m c : Nat} {k : List α} (hr : Sl w B A (E.dv k)) (hm : m = k.length)
    (hs : a.eval s = v) (hx : a.eval x = .slice A m c) (hl : l.length + k.length ≤ 100000000000) (hbase : base ≤ w.heap.size)
    (h : ∀ v' w', E.Own w' base v' (l ++ k) → w.grownBy w' v.ownBlock → (v'.ownBlock = v.ownBlock ∨ v'.ownBlock = some w.heap.size) → wpListIn F n P ops Q rest (a.put o.dst v') w') : wpListIn F n P ops Q (o :: rest) a w := by
  refine wpListIn_plain hgd fun K' hK' => ?_
  obtain ⟨v', w', hrun, h2, h3, _, h4⟩ := run_appE w o.type hown hr hm hl hbase (c := c)
  refine ⟨fun f hf => ?_, ?_⟩
  · simp [Oper.about, ho, resolve, Target.leads] at hf
  · rw [Oper.semAt_plain F _ _ (by rw [ho]; intro c hc'; cases hc')]
    unfold execOp
    simp only [ho, resolve, invoke, builtin, Sem.run_bind, Sem.run_pure, Result.andThen_ok, List.map_toArray, List.map_cons, List.map_nil, hs, hx, hrun]
    exact hK' _ _ (h v' w' h2 h3 h4)
end

def IdsI (w0 : World) (pre : List ID) (W : World) : Prop := ∃ v, Boxed W w0.heap.size 62 v ∧ EI.Own W (w0.heap.size + 1) v pre ∧ Below w0.heap.size w0 W ∧ w0.heap.size + 1 ≤ W.heap.size
def IdsP (w W : World) (v : Value) (pre : List ID) : Prop := Boxed W w.heap.size 62 v ∧ EI.Own W (w.heap.size + 1) v pre ∧ Below w.heap.size w W ∧ w.heap.size + 1 ≤ W.heap.size
theorem ids_own {w W W2 : World} {v : Value} {pre : List ID} {x : ID} (h : IdsP w W v pre) (h2 : W2 = W.alloc (.cells (EI.cells x).toArray 25)) : EI.Own W2 (w.heap.size + 1) v pre := by
  subst h2
  exact h.2.1.below ((Below.refl _ _).alloc (Nat.le_refl _) _)
theorem ids_sl {W W2 : World} {x : ID} (h2 : W2 = W.alloc (.cells (EI.cells x).toArray 25)) : Sl W2 W2.heap.size (some ⟨W.heap.size, 0, none⟩) (EI.dv [x]) := by
  subst h2
  have := At.new W 25 (EI.cells x).toArray
  have h := At.sl this
  simpa [ET.dv] using h
theorem ids_base {w W W2 : World} {v : Value} {pre : List ID} {x : ID} (h : IdsP w W v pre) (h2 : W2 = W.alloc (.cells (EI.cells x).toArray 25)) : w.heap.size + 1 ≤ W2.heap.size := by
  subst h2
  have := h.2.2.2
  simp; omega
theorem ids_box {w W W2 W3 : World} {v : Value} {pre : List ID} {x : ID} (h : IdsP w W v pre) (h2 : W2 = W.alloc (.cells (EI.cells x).toArray 25)) (hg : W2.grownBy W3 v.ownBlock) : Boxed W3 w.heap.size 62 v := by
  have h1 := (h.1.alloc (.cells (EI.cells x).toArray 25))
  rw [← h2] at h1
  exact h1.kept hg (fun e => by have := (h.2.1.rowC _ e.symm).1; omega)
theorem ids_step {w W W2 W3 : World} {v v' : Value} {pre : List ID} {x : ID} {B : Nat} (h : IdsP w W v pre) (h2 : W2 = W.alloc (.cells (EI.cells x).toArray 25))
    (h3 : EI.Own W3 (w.heap.size + 1) v' (pre ++ [x]) ∧ W2.grownBy W3 v.ownBlock ∧ (v'.ownBlock = v.ownBlock ∨ v'.ownBlock = some W2.heap.size)) :
    KeepsFrom B W (W3.setCell ⟨w.heap.size, 0, none⟩ v') ∧ KeepsWalks W (W3.setCell ⟨w.heap.size, 0, none⟩ v') ∧ IdsI w (pre ++ [x]) (W3.setCell ⟨w.heap.size, 0, none⟩ v') := by
  obtain ⟨h3, hg, hv⟩ := h3
  have hbox := ids_box h h2 hg
  obtain ⟨i1, i2, i3, i4⟩ := h
  have hb : Below W.heap.size W W2 := by rw [h2]; exact (Below.refl _ _).alloc (Nat.le_refl _) _
  have g2 : W.grownBy W2 none := grown_of_below hb none
  have r := i2.rowC
  have hs23 := hg.size
  have hs12 := hb.size
  have gs1 := grownBy_setCell' W3 w.heap.size v'
  have kp : KeepsOthers W W3 := (KeepsOthers.of_grownBy g2 (fun j o e => by cases e)).trans (KeepsOthers.of_grownBy hg fun j o e ho => by
    rw [hb.block j (r j e).2.1] at ho
    exact (r j e).2.2 o ho)
  have hbel : Below w.heap.size W (W3.setCell ⟨w.heap.size, 0, none⟩ v') := by
    have b2 : Below w.heap.size W W2 := hb.mono (by omega)
    have b3 : Below w.heap.size W2 W3 := below_of_grown hg (fun g e => by have := (r g e).1; omega) (by omega)
    exact (b2.trans b3).setCell (Nat.le_refl _) _
  refine ⟨(kp.trans (KeepsOthers.setCell _ _ _)).from _, ⟨hbel.size, fun k o hk ho => ?_⟩, v', hbox.set v', ?_, i3.trans hbel, Nat.le_trans i4 hbel.size⟩
  · have hklt := (Array.getElem?_eq_some_iff.1 hk).1
    have hnc : o.isCells = false := by cases o <;> first | rfl | cases ho
    have hk1 : k ≠ w.heap.size := by
      rintro rfl
      have := i1
      rw [Boxed, hk] at this
      cases this
      cases hnc
    have hk2 : some k ≠ v.ownBlock := fun e => by
      have := (r k e.symm).2.2 o hk
      rw [hnc] at this; cases this
    rw [Below.heap_setCell _ _ _ _ (fun e => hk1 e), hg.block k (by omega) hk2, hb.block k hklt]
    exact hk
  · refine h3.keep gs1 (.inr fun e => ?_)
    have := (h3.rowC _ e).1
    omega
set_option maxHeartbeats 1600000 in
theorem AppendSeq_in (n : Nat) (g : Nat) (lb : Array Value) (eg : ∀ args w, (callFunc g args).run Try.prog w = .ok (.enter g args) w) (S : List ID → Prop) (N : Nat) (hN : N ≤ 1000000) (w : World) (hseq : SeqGives Fence.wide (n - 1) Try.prog g lb ID.v S N w) :
    CallsIn Fence.wide n Try.prog 44 #[.slice none 0 0, .func (.func g) #[] lb] w fun e w' => ∃ v xs, e = .returned v ∧ S xs ∧ EI.Own w' w.heap.size v xs ∧ Below w.heap.size w w' := by
  refine callsIn_of_wp_marks Try.func44 rfl trivial ?_ rfl
  simp only [Try.ntmps44, List.size_toArray, List.length_cons, List.length_nil, Nat.reduceAdd, Nat.reduceSub, Array.replicate_succ, Array.replicate_zero, List.push_toArray, List.append_toArray, List.nil_append, List.cons_append]
  have b1 : Below w.heap.size w (w.alloc (.cells #[.slice none 0 0] 62)) := (Below.refl _ w).alloc (Nat.le_refl _) _
  have x1 := Boxed.new w 62 (.slice none 0 0)
  have hs1 : (w.alloc (.cells #[.slice none 0 0] 62)).heap.size = w.heap.size + 1 := by simp
  gi_wp2
  generalize w.alloc (.cells #[.slice none 0 0] 62) = w1 at *
  have HS1 := Lib.hid hs1
  refine range_G rfl eg hseq b1 (by rfl) (IdsI w) ?hI ?h0 (fun x a' W => ∃ g5, a' = { tmps := #[.slice none 0 0, .func (.func g) #[] lb, .pointer (some ⟨w.heap.size, 0, none⟩), undef, .slice none 0 0, .pointer (some ⟨g5, 0, none⟩), .func (.func g) #[] lb, x.v, undef, undef, undef, undef, undef], defers := [] } ∧ At W g5 (bv x.l) ∧ w.heap.size < g5) ?hA ?assign ?body ?done
  case hI =>
    rintro s W W' row ⟨v, i1, i2, i3, i4⟩ hg hr
    have hr' : ∀ r, row = some r → ∃ o : Obj, W.heap[r]? = some o ∧ o.isCells = false := fun r e => (hr r e).2
    exact ⟨v, i1.kept hg (fun e => by have := (hr _ e.symm).1; rw [HS1.out] at this; omega), i2.keptN hg hr', i3.grown hg i3.size (fun k e => by have := (hr k e).1; rw [HS1.out] at this; omega), Nat.le_trans i4 hg.size⟩
  case h0 => exact ⟨.slice none 0 0, x1, ET.Own.nil _ _, b1, by rw [HS1.out]; exact Nat.le_refl _⟩
  case hA =>
    rintro x a' _ W W' row ⟨g5, e, hA, hlt⟩ hg hr
    exact ⟨g5, e, hA.keptN (fun e => by have := congrArg List.length e; rw [bv_len, x.h] at this; cases this) hg (fun r e => (hr r e).2), hlt⟩
  case assign =>
    intro l x W K hW hK
    have HL := Lib.hid (show (bv x.l).length = 32 by rw [bv_len, x.h])
    have HW := Lib.hid hW
    clear hW hs1
    rw [show (#[7].zip #[x.v]).foldl (fun (t : Array Value) (q : Tmp × Value) => t.setIfInBounds q.1 q.2) #[.slice none 0 0, .func (.func g) #[] lb, .pointer (some ⟨w.heap.size, 0, none⟩), undef, .slice none 0 0, undef, .func (.func g) #[] lb, undef, undef, undef, undef, undef, undef] = #[.slice none 0 0, .func (.func g) #[] lb, .pointer (some ⟨w.heap.size, 0, none⟩), undef, .slice none 0 0, undef, .func (.func g) #[] lb, x.v, undef, undef, undef, undef, undef] from by simp]
    unfold ID.v at *
    gi_wp2_with (first
      | (refine opValIV rfl (by rfl) (ex_al32 rfl) ?_; intro w3 hw3; have hq3 := Lib.hid (eq_s2 hw3); clear hw3; simp only [Act.put, List.setIfInBounds_toArray, List.set_cons_zero, List.set_cons_succ])
      | (refine opSkipIV rfl (by rfl) (ex_st32 rfl rfl rfl hq3.out.2.1 (by rfl) HL.out (bv_one _)) ?_; intro w4 hw4; have hq4 := Lib.hid (key_s4 HL.out hq3.out hw4); clear hw4; simp only [Act.put])
      | gi_in)
    exact hK _ _ hq4.out.2 ⟨_, rfl, hq4.out.1, by have := HW.out; rw [HS1.out] at this; omega⟩
  case body =>
    rintro l pre x a' W ⟨v, i1, i2, i3, i4⟩ hlen ⟨g5, rfl, hA, hlt⟩ hsz
    refine wpIn_block ?_
    have z1 := i1.cell
    have HI := Lib.hid (And.intro i1 (And.intro i2 (And.intro i3 i4)))
    have HL := Lib.hid (show (bv x.l).length = 32 by rw [bv_len, x.h])
    have HA := Lib.hid hA
    have HN := Lib.hid (show pre.length + 1 ≤ 100000000000 by omega)
    clear hlen hA i1 i2 i3 i4 hsz hlt hs1
    unfold ID.v at *
    gi_wp2_with (first
      | (refine opValI rfl (by rfl) (ex_ld32 rfl rfl HA.out HL.out) ?_; simp only [Act.put, List.setIfInBounds_toArray, List.set_cons_zero, List.set_cons_succ])
      | (refine opValIV rfl (by rfl) (EI.ex_bs1 rfl x rfl) ?_; intro w2 hw2; have hq2 := Lib.hid hw2; clear hw2; simp only [Act.put, List.setIfInBounds_toArray, List.set_cons_zero, List.set_cons_succ])
      | (refine appEI (m := 1) rfl rfl (ids_own HI.out hq2.out) (ids_sl hq2.out) rfl rfl rfl (by simpa using HN.out) (ids_base HI.out hq2.out) ?_
         intro v3 w3 hown3 hg3 hv3
         obtain ⟨A3, c3, rfl, _⟩ := hown3.form
         have hq3 := Lib.hid (And.intro hown3 (And.intro hg3 hv3))
         have z3 := (ids_box HI.out hq2.out hg3).cell
         have z4 := (ids_box HI.out hq2.out hg3).frozen
         clear hown3 hg3 hv3
         simp only [Act.put, List.setIfInBounds_toArray, List.set_cons_zero, List.set_cons_succ])
      | gi_in)
    have hfin := ids_step (B := w1.heap.size) HI.out hq2.out hq3.out
    rw [List.length_append] at hfin
    exact hfin
  case done =>
    rintro D xs W hD hS ⟨v, i1, i2, i3, i4⟩ hK
    obtain ⟨Av, cv, rfl, _⟩ := i2.form
    have HD := Lib.hid hD
    have HX := Lib.hid (And.intro i2 (And.intro i3 i4))
    have z1 := i1.cell
    clear hD i2 i3 i4 hs1
    gi_wp2
    refine ⟨by simp, .inl ⟨_, _, rfl, run_takeDeferred (w := W) hK, ?_⟩⟩
    refine ⟨_, by simp [results, Try.results44, go_sem]; rfl, ?_⟩
    have gp := grownBy_putObj' W D (.deferred none)
    have hcD : ∀ r, some D = some r → ∃ o : Obj, W.heap[r]? = some o ∧ o.isCells = false := fun r e => by cases e; exact ⟨_, hK, rfl⟩
    refine ⟨_, xs, rfl, hS, ET.Own.lower (HX.out.1.keptN gp hcD) (by omega), HX.out.2.1.grown gp HX.out.2.1.size (fun k e => by cases e; have := HD.out; rw [HS1.out] at this; omega)⟩
theorem Collect_in (n : Nat) (g : Nat) (lb : Array Value) (eg : ∀ args w, (callFunc g args).run Try.prog w = .ok (.enter g args) w) (S : List ID → Prop) (N : Nat) (hN : N ≤ 1000000) (w : World) (hseq : SeqGives Fence.wide (n - 1 - 1) Try.prog g lb ID.v S N w) :
    CallsIn Fence.wide n Try.prog 38 #[.func (.func g) #[] lb] w fun e w' => ∃ v xs, e = .returned v ∧ S xs ∧ EI.Own w' w.heap.size v xs ∧ Below w.heap.size w w' := by
  refine callsIn_of_wp Try.func38 rfl trivial ?_ rfl
  simp only [Try.ntmps38, List.size_toArray, List.length_cons, List.length_nil, Nat.reduceAdd, Nat.reduceSub, Array.replicate_succ, Array.replicate_zero, List.push_toArray, List.append_toArray, List.nil_append, List.cons_append]
  gi_wp2
  refine ⟨trivial, fun h => (by simp [Fence.wide] at h), (AppendSeq_in (n - 1) g lb eg S N hN w hseq).mono ?_⟩
  rintro e w' ⟨v, xs, rfl, h1, h2, h3⟩
  obtain ⟨Av, cv, rfl, _⟩ := h2.form
  gi_wp2
  go_ret
  exact ⟨_, xs, rfl, h1, h2, h3⟩
end Go.Proofs.Ytjijhmeagjhfoaa

