/- Records: Scan. -/
import Derived.Test.YtkgmbpbbgkjidaaLi
import Derived.Test.YtkgmbpbbgkjidaaLift
import Derived.Test.YtkgmbpbbgkjidaaAppS
namespace Go.Proofs.Ytkgmbpbbgkjidaa
open Go.RowKit Go.Shelf Go.Proofs.Ytkgmbpbbgkjidaa.Pl Go.Proofs.Ytkgmbpbbgkjidaa.Pc
attribute [local go_sem] Oper.semAt_some

theorem kb0 (W : World) : KB #[] W := ⟨Nat.zero_le _, fun k hk => absurd hk (Nat.not_lt_zero k)⟩
theorem bstartInH {P : Program} {ops : Array Oper} {Q : Exit → Act → World → Prop} (h : Array Obj) {id l n : Nat} {a : Act} {w : World} (hm : P.follows .mixedOrders = true) (hnd : ∀ o ∈ ops, ∀ c, o.op ≠ .defer c) (hQ : ¬ LetsOut Q)
    (hh : wpB P ops Q h ops.size (Array.replicate ops.size false) a w.drew) : (Code.region id ops true).wpIn (Fence.wide.inRound l) n P Q a w := bstartIn (KB h) hm hnd hQ hh
theorem Sl.keptN {W W' : World} {A : Option Addr} {xs : List Value} (h : Sl W W.heap.size A xs) {row : Option Nat} (hg : W.grownBy W' row) (hr : ∀ r, row = some r → ∃ o : Obj, W.heap[r]? = some o ∧ o.isCells = false) : Sl W' W'.heap.size A xs := by
  rcases h with h | ⟨b, o, e, h1, h2, hc⟩
  · exact .inl h
  · exact .inr ⟨b, o, e, Nat.lt_of_lt_of_le h1 hg.size, Nat.lt_of_lt_of_le h2 hg.size, fun j u hu => cell_kept (hc j u hu) hg hr⟩
theorem SlcIs.keptN {W W' : World} {v : Value} {l : List UInt8} (h : SlcIs W v l) {row : Option Nat} (hg : W.grownBy W' row) (hr : ∀ r, row = some r → ∃ o : Obj, W.heap[r]? = some o ∧ o.isCells = false) : SlcIs W' v l := by
  obtain ⟨A, c, e, h1, h2, h3⟩ := h
  exact ⟨A, c, e, h1.keptN hg hr, h2, h3⟩
theorem OwnS.keptN {W W' : World} {base : Nat} {v : Value} {vs : List Value} (h : OwnS W base v vs) {row : Option Nat} (hg : W.grownBy W' row) (hr : ∀ r, row = some r → ∃ o : Obj, W.heap[r]? = some o ∧ o.isCells = false) : OwnS W' base v vs := by
  refine h.kept hg ?_
  rcases h.2 with ⟨rfl, _⟩ | ⟨g, cap, cur, rfl, hb, hgo, _⟩
  · exact .inl rfl
  · refine .inr fun e => ?_
    obtain ⟨o, ho, hc⟩ := hr g e.symm
    rw [hgo] at ho
    cases ho
    cases hc
theorem OwnB.keptN {W W' : World} {base : Nat} {v : Value} {l : List UInt8} (h : OwnB W base v l) {row : Option Nat} (hg : W.grownBy W' row) (hr : ∀ r, row = some r → ∃ o : Obj, W.heap[r]? = some o ∧ o.isCells = false) : OwnB W' base v l := by
  refine h.keep hg ?_
  rcases h.2 with ⟨rfl, _⟩ | ⟨g, cap, cur, rfl, hb, hgo, _⟩
  · exact .inl rfl
  · refine .inr fun e => ?_
    obtain ⟨o, ho, hc⟩ := hr g e.symm
    rw [hgo] at ho
    cases ho
    cases hc
theorem OwnB.row {W : World} {base : Nat} {v : Value} {l : List UInt8} (h : OwnB W base v l) : ∀ g, v.ownBlock = some g → base ≤ g ∧ g < W.heap.size := by
  rcases h.2 with ⟨rfl, _⟩ | ⟨g, cap, cur, rfl, hb, hgo, _⟩
  · intro g e; cases e
  · intro k e; cases e; exact ⟨hb, (Array.getElem?_eq_some_iff.1 hgo).1⟩
theorem OwnS.row {W : World} {base : Nat} {v : Value} {l : List Value} (h : OwnS W base v l) : ∀ g, v.ownBlock = some g → base ≤ g ∧ g < W.heap.size ∧ ∀ o : Obj, W.heap[g]? = some o → o.isCells = true := by
  rcases h.2 with ⟨rfl, _⟩ | ⟨g, cap, cur, rfl, hb, hgo, _⟩
  · intro g e; cases e
  · intro k e; cases e; exact ⟨hb, (Array.getElem?_eq_some_iff.1 hgo).1, fun o ho => by rw [hgo] at ho; cases ho; rfl⟩
def ScanPost (w : World) (r : List (List UInt8) × Nat) (e : Ending) (w' : World) : Prop := ∃ A c, e = .returned (.tuple #[.slice A r.1.length c, .int .i64 (r.2 : Int)]) ∧ Mat w' A r.1 ∧ r.1.length ≤ c ∧ c ≤ maxLen ∧ Below w.heap.size w w'
theorem records_in (n : Nat) (A : Option Addr) (nb c : Nat) (w : World) :
    CallsIn Fence.wide n Try.prog 39 #[.slice A nb c] w fun e w' => e = .returned (.func (.func 57) #[] #[.pointer (some ⟨w.heap.size, 0, none⟩)]) ∧ w' = w.alloc (.cells #[.slice A nb c] 25) := by
  refine callsIn_of_wp Try.func39 rfl trivial ?_ rfl
  simp only [Try.ntmps39, List.size_toArray, List.length_cons, List.length_nil, Nat.reduceAdd, Nat.reduceSub, Array.replicate_succ, Array.replicate_zero, List.push_toArray, List.append_toArray, List.nil_append, List.cons_append]
  gi_wp2
  go_ret
  exact ⟨rfl, rfl⟩
/-- what is held between two rounds: the records, their row, the end -/
def ScanI (w0 : World) (g4 g5 : Nat) (pre : List RecX) (W : World) : Prop := ∃ (v : Value) (vs : List Value), Boxed W g4 22 v ∧ Boxed W g5 3 (.int .i64 (lastE pre : Int)) ∧ OwnS W (w0.heap.size + 3) v vs ∧ vs.length = pre.length ∧ (∀ (i : Nat) (u : Value), vs[i]? = some u → OwnB W (w0.heap.size + 3) u ((pre.map RecX.l)[i]?.getD []) ∧ (u.ownBlock = none ∨ u.ownBlock ≠ v.ownBlock)) ∧ Below w0.heap.size w0 W ∧ w0.heap.size + 3 ≤ W.heap.size
theorem scan_step {w W W2 W3 : World} {B : Nat} {pre : List RecX} {x : RecX} {v v' u : Value} {vs : List Value} (hsz : w.heap.size + 3 ≤ W.heap.size)
    (i1 : Boxed W w.heap.size 22 v) (i2 : Boxed W (w.heap.size + 1) 3 (.int .i64 (lastE pre : Int))) (i3 : OwnS W (w.heap.size + 3) v vs) (i4 : vs.length = pre.length)
    (i5 : ∀ (i : Nat) (u : Value), vs[i]? = some u → OwnB W (w.heap.size + 3) u ((pre.map RecX.l)[i]?.getD []) ∧ (u.ownBlock = none ∨ u.ownBlock ≠ v.ownBlock)) (i6 : Below w.heap.size w W)
    (hb : Below W.heap.size W W2) (hu : OwnB W2 W.heap.size u x.l) (h3 : OwnS W3 (w.heap.size + 3) v' (vs ++ [u])) (hg : W2.grownBy W3 v.ownBlock) (hv : v'.ownBlock = v.ownBlock ∨ v'.ownBlock = some W2.heap.size) :
    KeepsFrom B W ((W3.setCell ⟨w.heap.size, 0, none⟩ v').setCell ⟨w.heap.size + 1, 0, none⟩ (.int .i64 (x.e : Int))) ∧ KpB w.heap.size (w.heap.size + 2) W ((W3.setCell ⟨w.heap.size, 0, none⟩ v').setCell ⟨w.heap.size + 1, 0, none⟩ (.int .i64 (x.e : Int))) ∧ ScanI w w.heap.size (w.heap.size + 1) (pre ++ [x]) ((W3.setCell ⟨w.heap.size, 0, none⟩ v').setCell ⟨w.heap.size + 1, 0, none⟩ (.int .i64 (x.e : Int))) := by
  have g2 : W.grownBy W2 none := ⟨hb.os, hb.tape, hb.output, hb.size, fun k hk _ => hb.block k hk⟩
  have r := i3.row
  have hs23 := hg.size
  have hs12 := hb.size
  have nr : ∀ k, k < w.heap.size + 3 → some k ≠ v.ownBlock := fun k hk e => by have := (r k e.symm).1; omega
  have nr' : ∀ k, k < w.heap.size + 3 → some k ≠ v'.ownBlock := fun k hk e => by
    have := (h3.row k e.symm).1
    omega
  have gs1 := grownBy_setCell' W3 w.heap.size v'
  have gs2 := grownBy_setCell' (W3.setCell ⟨w.heap.size, 0, none⟩ v') (w.heap.size + 1) (.int .i64 (x.e : Int))
  have kp : KeepsOthers W W3 := (KeepsOthers.of_grownBy g2 (fun j o e => by cases e)).trans (KeepsOthers.of_grownBy hg fun j o e ho => by
    rw [hb.block j (r j e).2.1] at ho
    exact (r j e).2.2 o ho)
  have bl : ∀ k, k < w.heap.size → ((W3.setCell ⟨w.heap.size, 0, none⟩ v').setCell ⟨w.heap.size + 1, 0, none⟩ (.int .i64 (x.e : Int))).heap[k]? = W.heap[k]? := fun k hk => by
    rw [Below.heap_setCell _ _ _ _ (by simp only; omega), Below.heap_setCell _ _ _ _ (by simp only; omega), hg.block k (by omega) (nr k (by omega)), hb.block k (by omega)]
  have hbel : Below w.heap.size W ((W3.setCell ⟨w.heap.size, 0, none⟩ v').setCell ⟨w.heap.size + 1, 0, none⟩ (.int .i64 (x.e : Int))) := by
    have b2 : Below w.heap.size W W2 := hb.mono (by omega)
    have b3 : Below w.heap.size W2 W3 := below_of_grown hg (fun g e => by have := (r g e).1; omega) (by omega)
    exact ((b2.trans b3).setCell (Nat.le_refl _) _).setCell (by simp) _
  refine ⟨((kp.trans (KeepsOthers.setCell _ _ _)).trans (KeepsOthers.setCell _ _ _)).from _, ⟨hbel, ?_⟩, v', vs ++ [u], ?_, ?_, ?_, ?_, ?_, i6.trans hbel, Nat.le_trans (by omega) hbel.size⟩
  · rw [Below.heap_setCell _ _ _ _ (by simp), Below.heap_setCell _ _ _ _ (by simp), hg.block _ (by omega) (nr _ (by omega)), hb.block _ (by omega)]
  · exact ((((i1.kept g2 (by simp)).kept hg (nr _ (by omega))).set v').other (by omega) _)
  · rw [lastE_snoc]
    exact (((i2.kept g2 (by simp)).kept hg (nr _ (by omega))).other (by omega) _).set _
  · exact (h3.kept gs1 (.inr (fun e => nr' _ (by omega) e.symm))).kept gs2 (.inr (fun e => nr' _ (by omega) e.symm))
  · rw [List.length_append, List.length_append, i4, List.length_singleton, List.length_singleton]
  · intro i y hy
    have fin : ∀ l, OwnB W2 (w.heap.size + 3) y l → (y.ownBlock = none ∨ y.ownBlock ≠ v.ownBlock) → OwnB ((W3.setCell ⟨w.heap.size, 0, none⟩ v').setCell ⟨w.heap.size + 1, 0, none⟩ (.int .i64 (x.e : Int))) (w.heap.size + 3) y l ∧ (y.ownBlock = none ∨ y.ownBlock ≠ v'.ownBlock) := fun l hy hn => by
      have hr := hy.row
      refine ⟨((hy.keep hg hn).keep gs1 (.inr fun e => by have := (hr _ e).1; omega)).keep gs2 (.inr fun e => by have := (hr _ e).1; omega), ?_⟩
      rcases hv with e | e
      · rw [e]; exact hn
      · refine .inr fun e' => ?_
        rw [e] at e'
        have := (hr _ e').2
        omega
    by_cases hi : i < vs.length
    · rw [List.getElem?_append_left hi] at hy
      have := i5 i y hy
      rw [List.map_append, List.getElem?_append_left (by rw [List.length_map]; omega)]
      exact fin _ (this.1.below hb) this.2
    · rw [List.getElem?_append_right (by omega)] at hy
      match hd : i - vs.length, hy with
      | 0, hy =>
        simp at hy
        subst hy
        have hi' : i = (pre.map RecX.l).length := by rw [List.length_map]; omega
        rw [hi', List.map_append, List.getElem?_append_right (Nat.le_refl _), Nat.sub_self]
        refine fin _ (hu.base_le (by omega)) ?_
        cases hu0 : u.ownBlock with
        | none => exact .inl rfl
        | some g =>
          refine .inr fun e' => ?_
          have h1 := (hu.row g hu0).1
          have h2 := (r g e'.symm).2.1
          omega
      | j + 1, hy => simp at hy
set_option maxRecDepth 100000 in
set_option maxHeartbeats 3200000 in
theorem Scan_any (w : World) (A : Option Addr) (nb c : Nat) (b : List UInt8) (hb : Sl w w.heap.size A (bv b)) (h0 : nb = b.length) (hc : nb ≤ c) (hm : c ≤ maxLen) (hbl : b.length ≤ 300000) :
    Calls Try.prog 23 #[.slice A nb c] w (ScanPost w (Lg.scan b)) := by
  refine (callsIn_wide (n := 8)).1 ?_
  refine callsIn_of_wp_marks Try.func23 rfl trivial ?_ rfl
  simp only [Try.ntmps23, List.size_toArray, List.length_cons, List.length_nil, Nat.reduceAdd, Nat.reduceSub, Array.replicate_succ, Array.replicate_zero, List.push_toArray, List.append_toArray, List.nil_append, List.cons_append]
  have H0 := Lib.hid h0
  clear h0
  have x4 := ((Boxed.new w 22 (.slice none 0 0)).alloc (.cells #[.int .i64 0] 3)).alloc (.cells #[.slice A nb c] 25)
  have x5 := (Boxed.new (w.alloc (.cells #[.slice none 0 0] 22)) 3 (.int .i64 0)).alloc (.cells #[.slice A nb c] 25)
  rw [World.size_alloc] at x5
  have xB := Boxed.new ((w.alloc (.cells #[.slice none 0 0] 22)).alloc (.cells #[.int .i64 0] 3)) 25 (.slice A nb c)
  have hsB : ((w.alloc (.cells #[.slice none 0 0] 22)).alloc (.cells #[.int .i64 0] 3)).heap.size = w.heap.size + 2 := by simp
  rw [hsB] at xB
  have hs3 : (((w.alloc (.cells #[.slice none 0 0] 22)).alloc (.cells #[.int .i64 0] 3)).alloc (.cells #[.slice A nb c] 25)).heap.size = w.heap.size + 3 := by simp
  have b3 : Below w.heap.size w (((w.alloc (.cells #[.slice none 0 0] 22)).alloc (.cells #[.int .i64 0] 3)).alloc (.cells #[.slice A nb c] 25)) := (((Below.refl _ w).alloc (Nat.le_refl _) _).alloc (by simp) _).alloc (by simp; omega) _
  gi_wp2
  refine ⟨trivial, (records_in _ A nb c _).mono ?_⟩
  rintro e w3 ⟨rfl, rfl⟩
  rw [hsB]
  gi_wp2
  generalize ((w.alloc (.cells #[.slice none 0 0] 22)).alloc (.cells #[.int .i64 0] 3)).alloc (.cells #[.slice A nb c] 25) = w3 at *
  have hL := hb.below b3
  have hseq : SeqR (8 - 1) Try.prog 57 #[.pointer (some ⟨w.heap.size + 2, 0, none⟩)] RecX.encs (KpB w.heap.size (w.heap.size + 2)) RecX.R (ScanIs b) w3 := fun l J W hW hJ hY hJ0 =>
    records1_in (8 - 1) l (w.heap.size + 2) w.heap.size A nb c b H0.out hc hm hbl J hJ hY W ((hW.cell (p := ⟨w.heap.size + 2, 0, none⟩) (by simp only; omega)).trans xB.cell) (by have := hW.size; omega) (hL.below (hW.mono (by omega))) hJ0
  refine range_R rfl (enters_of Try.func57 (by kernel_rfl) rfl) hseq (fun h k => h.trans k) ?hKb (Below.refl _ _) (fun _ => rfl) (ScanI w w.heap.size (w.heap.size + 1)) ?hI ?hR ?h0 (fun x => { tmps := #[.slice A nb c, undef, .slice none 0 0, .int .i64 0, .pointer (some ⟨w.heap.size, 0, none⟩), .pointer (some ⟨w.heap.size + 1, 0, none⟩), .slice x.A x.l.length x.c, .int .i64 (x.e : Int), .slice A nb c, .func (.func 57) #[] #[.pointer (some ⟨w.heap.size + 2, 0, none⟩)], .slice x.A x.l.length x.c, .int .i64 (x.e : Int), undef, undef, undef, undef, undef, undef, undef, undef], defers := [] }) ?assign ?body ?done
  case hKb =>
    intro W l o o' hl ho h1 h2
    exact ⟨belowK_b (w := w3) (by omega) W l o o' hl ho h1 h2, World.putObj_heap_other (by omega)⟩
  case hI =>
    rintro s W W' row ⟨v, vs, i1, i2, i3, i4, i5, i6, i7⟩ hg hr
    have hr' : ∀ r, row = some r → ∃ o : Obj, W.heap[r]? = some o ∧ o.isCells = false := fun r e => (hr r e).2
    exact ⟨v, vs, i1.kept hg (fun e => by have := (hr _ e.symm).1; omega), i2.kept hg (fun e => by have := (hr _ e.symm).1; omega), i3.keptN hg hr', i4, fun i u hu => ⟨(i5 i u hu).1.keptN hg hr', (i5 i u hu).2⟩, i6.grown hg i6.size (fun k e => by have := (hr k e).1; omega), Nat.le_trans i7 hg.size⟩
  case hR =>
    rintro pre x _ W W' row ⟨r1, r2⟩ hg hr
    exact ⟨r1.keptN hg (fun r e => (hr r e).2), r2⟩
  case h0 => exact ⟨.slice none 0 0, [], x4, x5, OwnS.nil _ _, rfl, fun i u hu => by simp at hu, b3, by omega⟩
  case assign =>
    intro l x W K hK
    simp only [RecX.encs]
    gi_wp2
    exact hK
  case body =>
    rintro l pre x W ⟨v, vs, i1, i2, i3, i4, i5, i6, i7⟩ ⟨r1, r2, r3, r4, r5⟩
    refine wpIn_block ?_
    have f0 : W.drew.cell? ⟨w.heap.size, 0, none⟩ = some v := i1.cell
    refine bstartInH (#[]) (by kernel_rfl) (by intro o ho c; simp only [List.mem_toArray, List.mem_cons, List.not_mem_nil, or_false] at ho; rcases ho with rfl | rfl | rfl | rfl | rfl | rfl | rfl | rfl <;> (intro h; cases h)) (by rintro ⟨_, _, h⟩; exact h) ?_
    refine btake 1 (oi := _) (v := ?_) (by simp only [List.getElem?_toArray, List.getElem?_cons_succ, List.getElem?_cons_zero]; rfl) (by kernel_rfl) (by exact fun _ _ _ h => h) (by first | assumption | exact KB.refl _ | exact kb0 _) (.inl ⟨by rfl, fun W hW => ?_⟩) ?_; rotate_left
    · (go_simp; first | done | with_reducible rfl)
    try simp only [Act.put, List.setIfInBounds_toArray, List.set_cons_zero, List.set_cons_succ]
    refine btake 5 (oi := _) (v := ?_) (by simp only [List.getElem?_toArray, List.getElem?_cons_succ, List.getElem?_cons_zero]; rfl) (by kernel_rfl) (by exact fun _ _ _ h => h) (by first | assumption | exact KB.refl _ | exact kb0 _) (.inl ⟨by rfl, fun W hW => ?_⟩) ?_; rotate_left
    · (go_simp; first | done | with_reducible rfl)
    try simp only [Act.put, List.setIfInBounds_toArray, List.set_cons_zero, List.set_cons_succ]
    refine bopH2 0 2 (oi := _) (oj := _) (by simp only [List.getElem?_toArray, List.getElem?_cons_zero]; rfl) (by simp only [List.getElem?_toArray, List.getElem?_cons_succ, List.getElem?_cons_zero]; rfl) (by kernel_rfl) (by first | assumption | exact KB.refl _ | exact kb0 _) (by rfl) (by rfl) (fun K hK => ?_) (fun K hK => ?_)
    · -- 0: Op.load 22 (Operand.tmp 4)
      go_simp
      skip
      refine hK.out _ _ (kb0 _) ?_; clear hK K
      try simp only [Act.put, List.setIfInBounds_toArray, List.set_cons_zero, List.set_cons_succ]
      -- 2: Op.call { callee := Callee.value (Operand.func 40), args := #[Operand.tmp 13], argTypes := #[25] }
      refine bopH 2 (o := _) (by simp only [List.getElem?_toArray, List.getElem?_cons_succ, List.getElem?_cons_zero]; rfl) (by kernel_rfl) (by first | assumption | exact KB.refl _ | exact kb0 _) (by rfl) (fun K hK => ?_)
      go_simp
      refine (Clone_any W.drew W.heap.size x.A x.l.length x.c x.l r1 rfl (by omega)).mono ?_
      rintro e w2 ⟨A2, c2, rfl, hown2, hb2⟩
      have f1 : w2.cell? ⟨w.heap.size, 0, none⟩ = some v := (World.cell?_of_block (w := W) (hb2.block _ i1.lt)).trans i1.cell
      have hbw : Below W.heap.size W w2 := Below.trans (Below.drew (Below.refl W.heap.size W)) hb2
      have hs2 : W.heap.size ≤ w2.heap.size := hb2.size
      have f2 : (w2.alloc (.cells #[.slice A2 x.l.length c2] 25)).cell? ⟨w.heap.size, 0, none⟩ = some v := (World.cell?_alloc_lt _ _ _ (Nat.lt_of_lt_of_le i1.lt hb2.size)).trans f1
      refine hK.out _ _ (kb0 _) ?_; clear hK K
      try simp only [Act.put, List.setIfInBounds_toArray, List.set_cons_zero, List.set_cons_succ]
      -- 3: Op.buildSlice 22 1 #[(0, Operand.tmp 14)]
      refine bopH 3 (o := _) (by simp only [List.getElem?_toArray, List.getElem?_cons_succ, List.getElem?_cons_zero]; rfl) (by kernel_rfl) (by first | assumption | exact KB.refl _ | exact kb0 _) (by rfl) (fun K hK => ?_)
      go_simp
      skip
      refine hK.out _ _ (kb0 _) ?_; clear hK K
      try simp only [Act.put, List.setIfInBounds_toArray, List.set_cons_zero, List.set_cons_succ]
      -- 4: Op.call { callee := Callee.builtin Builtin.append, args := #[Operand.tmp 12, Operand.tmp 15], argTypes := #[22, 22] }
      refine bopH 4 (o := _) (by simp only [List.getElem?_toArray, List.getElem?_cons_succ, List.getElem?_cons_zero]; rfl) (by kernel_rfl) (by first | assumption | exact KB.refl _ | exact kb0 _) (by rfl) (fun K hK => ?_)
      have xn := (Boxed.new w2 25 (.slice A2 x.l.length c2)).cell
      refine wp_appS rfl ((i3.below (Below.refl _ _).drew).below (hb2.alloc hb2.size (.cells #[.slice A2 x.l.length c2] 25))) xn rfl (by omega) rfl rfl (by simp; omega) ?_
      intro v3 w4 hown3 hg3 hv3
      have hst := scan_step (B := w3.heap.size) (x := x) i7 i1 i2 i3 i4 i5 i6 (hbw.alloc hbw.size (.cells #[.slice A2 x.l.length c2] 25)) (OwnB.below hown2 ((Below.refl _ _).alloc (Nat.le_refl _) _)) hown3 hg3 hv3
      have nr3 : ∀ k, k < w.heap.size + 3 → some k ≠ v.ownBlock := fun k hk e => by have := (i3.row k e.symm).1; omega
      have y4 : Boxed w4 w.heap.size 22 v := ((hb2.alloc hb2.size (.cells #[.slice A2 x.l.length c2] 25)).block _ i1.lt).trans i1 |> fun h => Boxed.kept h hg3 (nr3 _ (by omega))
      have y5 : Boxed w4 (w.heap.size + 1) 3 (.int .i64 (lastE pre : Int)) := ((hb2.alloc hb2.size (.cells #[.slice A2 x.l.length c2] 25)).block _ i2.lt).trans i2 |> fun h => Boxed.kept h hg3 (nr3 _ (by omega))
      obtain ⟨A3, c3, rfl, _⟩ := hown3.form
      have hlen : (vs ++ [Value.slice A2 x.l.length c2]).length = pre.length + 1 := by simp [i4]
      rw [hlen] at hst
      have y6 := y5.other (B' := w.heap.size) (by omega) (.slice A3 (pre.length + 1) c3)
      have z4 := y4.cell
      have z4f := y4.frozen
      have z6 := y6.cell
      have z6f := y6.frozen
      refine hK.out _ _ (kb0 _) ?_; clear hK K
      try simp only [Act.put, List.setIfInBounds_toArray, List.set_cons_zero, List.set_cons_succ]
      -- 6: Op.store 22 (Operand.tmp 4) (Operand.tmp 16)
      refine bopH 6 (o := _) (by simp only [List.getElem?_toArray, List.getElem?_cons_succ, List.getElem?_cons_zero]; rfl) (by kernel_rfl) (by first | assumption | exact KB.refl _ | exact kb0 _) (by rfl) (fun K hK => ?_)
      go_simp
      skip
      refine hK.out _ _ (kb0 _) ?_; clear hK K
      try simp only [Act.put, List.setIfInBounds_toArray, List.set_cons_zero, List.set_cons_succ]
      -- 7: Op.store 3 (Operand.tmp 5) (Operand.tmp 17)
      refine bopH 7 (o := _) (by simp only [List.getElem?_toArray, List.getElem?_cons_succ, List.getElem?_cons_zero]; rfl) (by kernel_rfl) (by first | assumption | exact KB.refl _ | exact kb0 _) (by rfl) (fun K hK => ?_)
      go_simp
      skip
      refine hK.out _ _ (kb0 _) ?_; clear hK K
      try simp only [Act.put, List.setIfInBounds_toArray, List.set_cons_zero, List.set_cons_succ]
      refine bdone (by kernel_rfl) ?_
      exact hst
    · -- 2: Op.call { callee := Callee.value (Operand.func 40), args := #[Operand.tmp 13], argTypes := #[25] }
      go_simp
      refine (Clone_any W.drew W.heap.size x.A x.l.length x.c x.l r1 rfl (by omega)).mono ?_
      rintro e w2 ⟨A2, c2, rfl, hown2, hb2⟩
      have f1 : w2.cell? ⟨w.heap.size, 0, none⟩ = some v := (World.cell?_of_block (w := W) (hb2.block _ i1.lt)).trans i1.cell
      have hbw : Below W.heap.size W w2 := Below.trans (Below.drew (Below.refl W.heap.size W)) hb2
      have hs2 : W.heap.size ≤ w2.heap.size := hb2.size
      have f2 : (w2.alloc (.cells #[.slice A2 x.l.length c2] 25)).cell? ⟨w.heap.size, 0, none⟩ = some v := (World.cell?_alloc_lt _ _ _ (Nat.lt_of_lt_of_le i1.lt hb2.size)).trans f1
      refine hK.out _ _ (kb0 _) ?_; clear hK K
      try simp only [Act.put, List.setIfInBounds_toArray, List.set_cons_zero, List.set_cons_succ]
      refine bopH2 0 3 (oi := _) (oj := _) (by simp only [List.getElem?_toArray, List.getElem?_cons_zero]; rfl) (by simp only [List.getElem?_toArray, List.getElem?_cons_succ, List.getElem?_cons_zero]; rfl) (by kernel_rfl) (by first | assumption | exact KB.refl _ | exact kb0 _) (by rfl) (by rfl) (fun K hK => ?_) (fun K hK => ?_)
      · -- 0: Op.load 22 (Operand.tmp 4)
        go_simp
        skip
        refine hK.out _ _ (kb0 _) ?_; clear hK K
        try simp only [Act.put, List.setIfInBounds_toArray, List.set_cons_zero, List.set_cons_succ]
        -- 3: Op.buildSlice 22 1 #[(0, Operand.tmp 14)]
        refine bopH 3 (o := _) (by simp only [List.getElem?_toArray, List.getElem?_cons_succ, List.getElem?_cons_zero]; rfl) (by kernel_rfl) (by first | assumption | exact KB.refl _ | exact kb0 _) (by rfl) (fun K hK => ?_)
        go_simp
        skip
        refine hK.out _ _ (kb0 _) ?_; clear hK K
        try simp only [Act.put, List.setIfInBounds_toArray, List.set_cons_zero, List.set_cons_succ]
        -- 4: Op.call { callee := Callee.builtin Builtin.append, args := #[Operand.tmp 12, Operand.tmp 15], argTypes := #[22, 22] }
        refine bopH 4 (o := _) (by simp only [List.getElem?_toArray, List.getElem?_cons_succ, List.getElem?_cons_zero]; rfl) (by kernel_rfl) (by first | assumption | exact KB.refl _ | exact kb0 _) (by rfl) (fun K hK => ?_)
        have xn := (Boxed.new w2 25 (.slice A2 x.l.length c2)).cell
        refine wp_appS rfl ((i3.below (Below.refl _ _).drew).below (hb2.alloc hb2.size (.cells #[.slice A2 x.l.length c2] 25))) xn rfl (by omega) rfl rfl (by simp; omega) ?_
        intro v3 w4 hown3 hg3 hv3
        have hst := scan_step (B := w3.heap.size) (x := x) i7 i1 i2 i3 i4 i5 i6 (hbw.alloc hbw.size (.cells #[.slice A2 x.l.length c2] 25)) (OwnB.below hown2 ((Below.refl _ _).alloc (Nat.le_refl _) _)) hown3 hg3 hv3
        have nr3 : ∀ k, k < w.heap.size + 3 → some k ≠ v.ownBlock := fun k hk e => by have := (i3.row k e.symm).1; omega
        have y4 : Boxed w4 w.heap.size 22 v := ((hb2.alloc hb2.size (.cells #[.slice A2 x.l.length c2] 25)).block _ i1.lt).trans i1 |> fun h => Boxed.kept h hg3 (nr3 _ (by omega))
        have y5 : Boxed w4 (w.heap.size + 1) 3 (.int .i64 (lastE pre : Int)) := ((hb2.alloc hb2.size (.cells #[.slice A2 x.l.length c2] 25)).block _ i2.lt).trans i2 |> fun h => Boxed.kept h hg3 (nr3 _ (by omega))
        obtain ⟨A3, c3, rfl, _⟩ := hown3.form
        have hlen : (vs ++ [Value.slice A2 x.l.length c2]).length = pre.length + 1 := by simp [i4]
        rw [hlen] at hst
        have y6 := y5.other (B' := w.heap.size) (by omega) (.slice A3 (pre.length + 1) c3)
        have z4 := y4.cell
        have z4f := y4.frozen
        have z6 := y6.cell
        have z6f := y6.frozen
        refine hK.out _ _ (kb0 _) ?_; clear hK K
        try simp only [Act.put, List.setIfInBounds_toArray, List.set_cons_zero, List.set_cons_succ]
        -- 6: Op.store 22 (Operand.tmp 4) (Operand.tmp 16)
        refine bopH 6 (o := _) (by simp only [List.getElem?_toArray, List.getElem?_cons_succ, List.getElem?_cons_zero]; rfl) (by kernel_rfl) (by first | assumption | exact KB.refl _ | exact kb0 _) (by rfl) (fun K hK => ?_)
        go_simp
        skip
        refine hK.out _ _ (kb0 _) ?_; clear hK K
        try simp only [Act.put, List.setIfInBounds_toArray, List.set_cons_zero, List.set_cons_succ]
        -- 7: Op.store 3 (Operand.tmp 5) (Operand.tmp 17)
        refine bopH 7 (o := _) (by simp only [List.getElem?_toArray, List.getElem?_cons_succ, List.getElem?_cons_zero]; rfl) (by kernel_rfl) (by first | assumption | exact KB.refl _ | exact kb0 _) (by rfl) (fun K hK => ?_)
        go_simp
        skip
        refine hK.out _ _ (kb0 _) ?_; clear hK K
        try simp only [Act.put, List.setIfInBounds_toArray, List.set_cons_zero, List.set_cons_succ]
        refine bdone (by kernel_rfl) ?_
        exact hst
      · -- 3: Op.buildSlice 22 1 #[(0, Operand.tmp 14)]
        go_simp
        skip
        refine hK.out _ _ (kb0 _) ?_; clear hK K
        try simp only [Act.put, List.setIfInBounds_toArray, List.set_cons_zero, List.set_cons_succ]
        -- 0: Op.load 22 (Operand.tmp 4)
        refine bopH 0 (o := _) (by simp only [List.getElem?_toArray, List.getElem?_cons_zero]; rfl) (by kernel_rfl) (by first | assumption | exact KB.refl _ | exact kb0 _) (by rfl) (fun K hK => ?_)
        go_simp
        skip
        refine hK.out _ _ (kb0 _) ?_; clear hK K
        try simp only [Act.put, List.setIfInBounds_toArray, List.set_cons_zero, List.set_cons_succ]
        -- 4: Op.call { callee := Callee.builtin Builtin.append, args := #[Operand.tmp 12, Operand.tmp 15], argTypes := #[22, 22] }
        refine bopH 4 (o := _) (by simp only [List.getElem?_toArray, List.getElem?_cons_succ, List.getElem?_cons_zero]; rfl) (by kernel_rfl) (by first | assumption | exact KB.refl _ | exact kb0 _) (by rfl) (fun K hK => ?_)
        have xn := (Boxed.new w2 25 (.slice A2 x.l.length c2)).cell
        refine wp_appS rfl ((i3.below (Below.refl _ _).drew).below (hb2.alloc hb2.size (.cells #[.slice A2 x.l.length c2] 25))) xn rfl (by omega) rfl rfl (by simp; omega) ?_
        intro v3 w4 hown3 hg3 hv3
        have hst := scan_step (B := w3.heap.size) (x := x) i7 i1 i2 i3 i4 i5 i6 (hbw.alloc hbw.size (.cells #[.slice A2 x.l.length c2] 25)) (OwnB.below hown2 ((Below.refl _ _).alloc (Nat.le_refl _) _)) hown3 hg3 hv3
        have nr3 : ∀ k, k < w.heap.size + 3 → some k ≠ v.ownBlock := fun k hk e => by have := (i3.row k e.symm).1; omega
        have y4 : Boxed w4 w.heap.size 22 v := ((hb2.alloc hb2.size (.cells #[.slice A2 x.l.length c2] 25)).block _ i1.lt).trans i1 |> fun h => Boxed.kept h hg3 (nr3 _ (by omega))
        have y5 : Boxed w4 (w.heap.size + 1) 3 (.int .i64 (lastE pre : Int)) := ((hb2.alloc hb2.size (.cells #[.slice A2 x.l.length c2] 25)).block _ i2.lt).trans i2 |> fun h => Boxed.kept h hg3 (nr3 _ (by omega))
        obtain ⟨A3, c3, rfl, _⟩ := hown3.form
        have hlen : (vs ++ [Value.slice A2 x.l.length c2]).length = pre.length + 1 := by simp [i4]
        rw [hlen] at hst
        have y6 := y5.other (B' := w.heap.size) (by omega) (.slice A3 (pre.length + 1) c3)
        have z4 := y4.cell
        have z4f := y4.frozen
        have z6 := y6.cell
        have z6f := y6.frozen
        refine hK.out _ _ (kb0 _) ?_; clear hK K
        try simp only [Act.put, List.setIfInBounds_toArray, List.set_cons_zero, List.set_cons_succ]
        -- 6: Op.store 22 (Operand.tmp 4) (Operand.tmp 16)
        refine bopH 6 (o := _) (by simp only [List.getElem?_toArray, List.getElem?_cons_succ, List.getElem?_cons_zero]; rfl) (by kernel_rfl) (by first | assumption | exact KB.refl _ | exact kb0 _) (by rfl) (fun K hK => ?_)
        go_simp
        skip
        refine hK.out _ _ (kb0 _) ?_; clear hK K
        try simp only [Act.put, List.setIfInBounds_toArray, List.set_cons_zero, List.set_cons_succ]
        -- 7: Op.store 3 (Operand.tmp 5) (Operand.tmp 17)
        refine bopH 7 (o := _) (by simp only [List.getElem?_toArray, List.getElem?_cons_succ, List.getElem?_cons_zero]; rfl) (by kernel_rfl) (by first | assumption | exact KB.refl _ | exact kb0 _) (by rfl) (fun K hK => ?_)
        go_simp
        skip
        refine hK.out _ _ (kb0 _) ?_; clear hK K
        try simp only [Act.put, List.setIfInBounds_toArray, List.set_cons_zero, List.set_cons_succ]
        refine bdone (by kernel_rfl) ?_
        exact hst
  case done =>
    rintro D xs W hD hS ⟨v, vs, i1, i2, i3, i4, i5, i6, i7⟩ hK
    obtain ⟨Av, cv, rfl, k1, k2, k3⟩ := i3.form
    have I4 := Lib.hid i4
    clear i4
    have z1 := cellB i1.cell
    have z2 := cellB i2.cell
    gi_wp2
    refine wpIn_onlyN ?_
    refine bstartWB (by kernel_rfl) (by rintro ⟨_, _, h⟩; exact h) ?_
    refine btake 0 (oi := _) (v := ?_) (by simp only [List.getElem?_toArray, List.getElem?_cons_zero]; rfl) (by kernel_rfl) (by exact fun _ _ _ h => h) (by first | assumption | exact KB.refl _) (.inl ⟨by rfl, fun W hW => ?_⟩) ?_; rotate_left
    · (go_simp; first | done | with_reducible rfl)
    try simp only [Act.put, List.setIfInBounds_toArray, List.set_cons_zero, List.set_cons_succ]
    refine btake 1 (oi := _) (v := ?_) (by simp only [List.getElem?_toArray, List.getElem?_cons_succ, List.getElem?_cons_zero]; rfl) (by kernel_rfl) (by exact fun _ _ _ h => h) (by first | assumption | exact KB.refl _) (.inl ⟨by rfl, fun W hW => ?_⟩) ?_; rotate_left
    · (go_simp; first | done | with_reducible rfl)
    try simp only [Act.put, List.setIfInBounds_toArray, List.set_cons_zero, List.set_cons_succ]
    refine btake 2 (oi := _) (v := ?_) (by simp only [List.getElem?_toArray, List.getElem?_cons_succ, List.getElem?_cons_zero]; rfl) (by kernel_rfl) (by exact fun _ _ _ h => h) (by first | assumption | exact KB.refl _) (.inl ⟨by rfl, fun W hW => ?_⟩) ?_; rotate_left
    · (go_simp; first | done | with_reducible rfl)
    try simp only [Act.put, List.setIfInBounds_toArray, List.set_cons_zero, List.set_cons_succ]
    refine btake 3 (oi := _) (v := ?_) (by simp only [List.getElem?_toArray, List.getElem?_cons_succ, List.getElem?_cons_zero]; rfl) (by kernel_rfl) (by exact fun _ _ _ h => h) (by first | assumption | exact KB.refl _) (.inl ⟨by rfl, fun W hW => ?_⟩) ?_; rotate_left
    · (go_simp; first | done | with_reducible rfl)
    try simp only [Act.put, List.setIfInBounds_toArray, List.set_cons_zero, List.set_cons_succ]
    refine bdone (by kernel_rfl) ?_
    simp only [onlyN, Exit.then]
    gi_wp2
    refine ⟨by simp, .inl ⟨_, _, rfl, run_takeDeferred (w := W.drew) hK, ?_⟩⟩
    have hsx : Lg.scan b = (xs.map RecX.l, lastE xs) := hS
    have hlx : (xs.map RecX.l).length = vs.length := by rw [List.length_map]; exact I4.out.symm
    have hlD : D < W.heap.size := (Array.getElem?_eq_some_iff.1 hK).1
    have gp := grownBy_putObj' W.drew D (.deferred none)
    have hcD : ∀ r, some D = some r → ∃ o : Obj, W.drew.heap[r]? = some o ∧ o.isCells = false := fun r e => by cases e; exact ⟨_, hK, rfl⟩
    refine ⟨_, by simp [results, Try.results23, go_sem]; rfl, ?_⟩
    refine ⟨Av, cv, by rw [hsx, hlx], ?_, by rw [hsx, hlx]; exact k1, k2, ?_⟩
    · rw [hsx]
      refine ⟨vs, Sl.keptN (W := W.drew) k3 gp hcD, hlx.symm, fun i u hu => ?_⟩
      have := OwnB.keptN (W := W.drew) (i5 i u hu).1 gp hcD
      obtain ⟨A', c', rfl, _⟩ := this.form
      exact SlcIs.of this
    · have : Below w.heap.size w W.drew := i6.drew
      exact this.grown gp this.size (fun k e => by cases e; omega)
end Go.Proofs.Ytkgmbpbbgkjidaa

