/- A region that draws its order, with operations that make memory or call in whatever order: each is shown to yield what its own predicate says, once what it waits for does. -/
import Derived.Test.YthpooogjlmaemaaReg
namespace Go.Proofs.Ythpooogjlmaemaa
open Go.RowKit

/-- what one operation of a region yields -/
structure Yld where
  j : Nat
  d : Option Tmp
  pr : Value → World → Prop
  st : ∀ (v : Value) (w w' : World), pr v w → KB w.heap w' → pr v w'
def Yld.eq (j : Nat) (d : Option Tmp) (x : Value) : Yld := ⟨j, d, fun v _ => v = x, fun _ _ _ h _ => h⟩
def puts (L : List Yld) (vs : Nat → Value) (a : Act) : Act := L.foldl (fun a s => a.put s.d (vs s.j)) a
def waits (ops : Array Oper) (j : Nat) : List Nat := ((ops[j]?.map (·.after.toList)).getD []).filterMap fun e => if Region.binds .any e = true then some e.on else none
def parOk (ops : Array Oper) (L : List Yld) : Bool :=
  L.all (fun s => (ops[s.j]?.map (·.dst)) == some s.d) && (List.range ops.size).all (fun j => (waits ops j).all (· < j))
theorem put_put (a : Act) (d : Option Tmp) (u v : Value) : (a.put d u).put d v = a.put d v := by
  cases d with
  | none => rfl
  | some d => simp [Act.put]
theorem puts_put : ∀ (L : List Yld) (vs : Nat → Value) (a : Act) (d : Option Tmp) (v : Value), (∀ s ∈ L, ∀ x, d = some x → s.d ≠ some x) → (puts L vs a).put d v = puts L vs (a.put d v)
  | [], _, _, _, _, _ => rfl
  | s :: L, vs, a, d, v, h => by
    show (puts L vs (a.put s.d (vs s.j))).put d v = puts L vs ((a.put d v).put s.d (vs s.j))
    rw [puts_put L vs _ d v fun t ht => h t (List.mem_cons_of_mem _ ht)]
    rw [Act.put_comm a v (vs s.j) fun x hx => h s (List.mem_cons_self ..) x hx]
def upd (vs : Nat → Value) (j : Nat) (v : Value) : Nat → Value := fun i => if i = j then v else vs i
theorem puts_upd_not : ∀ (L : List Yld) (vs : Nat → Value) (a : Act) (j : Nat) (v : Value), (∀ s ∈ L, s.j ≠ j) → puts L (upd vs j v) a = puts L vs a
  | [], _, _, _, _, _ => rfl
  | s :: L, vs, a, j, v, h => by
    show puts L (upd vs j v) (a.put s.d (upd vs j v s.j)) = puts L vs (a.put s.d (vs s.j))
    rw [puts_upd_not L vs _ j v fun t ht => h t (List.mem_cons_of_mem _ ht)]
    have : upd vs j v s.j = vs s.j := if_neg (h s (List.mem_cons_self ..))
    rw [this]
/-- the destinations differ, the places too -/
def parNodup : List Yld → Prop
  | [] => True
  | s :: L => (∀ t ∈ L, t.j ≠ s.j ∧ ∀ x, s.d = some x → t.d ≠ some x) ∧ parNodup L
def parNodupB : List Yld → Bool
  | [] => true
  | s :: L => L.all (fun t => t.j != s.j && (s.d == none || t.d != s.d)) && parNodupB L
theorem parNodup_of : ∀ {L : List Yld}, parNodupB L = true → parNodup L
  | [], _ => trivial
  | s :: L, h => by
    simp only [parNodupB, Bool.and_eq_true, List.all_eq_true] at h
    refine ⟨fun t ht => ?_, parNodup_of h.2⟩
    have := h.1 t ht
    simp only [bne_iff_ne, Bool.or_eq_true, beq_iff_eq] at this
    refine ⟨this.1, fun x hx he => ?_⟩
    rcases this.2 with h' | h'
    · rw [h'] at hx; cases hx
    · exact h' (he.trans hx.symm)
theorem puts_upd : ∀ (L : List Yld) (vs : Nat → Value) (a : Act) (s : Yld) (v : Value), parNodup L → s ∈ L → puts L (upd vs s.j v) a = (puts L vs a).put s.d v
  | [], _, _, _, _, _, h => by cases h
  | t :: L, vs, a, s, v, hn, h => by
    rcases List.mem_cons.1 h with rfl | h
    · show puts L (upd vs s.j v) (a.put s.d (upd vs s.j v s.j)) = (puts L vs (a.put s.d (vs s.j))).put s.d v
      rw [puts_upd_not L vs _ _ _ fun t ht => (hn.1 t ht).1, puts_put L vs _ _ _ fun t ht => (hn.1 t ht).2, put_put]
      have : upd vs s.j v s.j = v := if_pos rfl
      rw [this]
    · show puts L (upd vs s.j v) (a.put t.d (upd vs s.j v t.j)) = (puts L vs (a.put t.d (vs t.j))).put s.d v
      have : upd vs s.j v t.j = vs t.j := if_neg (fun e => (hn.1 s h).1 e.symm)
      rw [this, puts_upd L vs _ s v hn.2 h]
theorem put_self (a : Act) (d : Option Tmp) : a.put d ((d.map (a.tmps.getD · undef)).getD undef) = a := by
  cases d with
  | none => rfl
  | some d =>
    obtain ⟨tmps, defers⟩ := a
    simp only [Act.put, Option.map_some, Option.getD_some, Act.mk.injEq, and_true]
    apply Array.ext_getElem?
    intro i
    rw [Array.getElem?_setIfInBounds]
    split
    · subst_vars
      split
      · rename_i h; simp [h]
      · rename_i h; simp at h; simp [h]
    · rfl
theorem puts_self : ∀ (L : List Yld) (a : Act), parNodup L → ∃ vs, puts L vs a = a
  | [], a, _ => ⟨fun _ => undef, rfl⟩
  | s :: L, a, hn => by
    obtain ⟨vs, h⟩ := puts_self L a hn.2
    refine ⟨upd vs s.j ((s.d.map (a.tmps.getD · undef)).getD undef), ?_⟩
    show puts L (upd vs s.j _) (a.put s.d (upd vs s.j _ s.j)) = a
    have : upd vs s.j ((s.d.map (a.tmps.getD · undef)).getD undef) s.j = (s.d.map (a.tmps.getD · undef)).getD undef := if_pos rfl
    rw [this, put_self, puts_upd_not L vs _ _ _ fun t ht => (hn.1 t ht).1, h]
theorem count_set : ∀ (l : List Bool) (i : Nat), l[i]? = some false → (l.set i true).count false + 1 = l.count false
  | [], _, h => by simp at h
  | b :: l, 0, h => by simp at h; subst h; simp
  | b :: l, i + 1, h => by
    have := count_set l i (by simpa using h)
    simp only [List.set_cons_succ, List.count_cons]
    omega
theorem count_none : ∀ (l : List Bool), l.count false = 0 → ∀ i : Nat, l[i]? ≠ some false
  | [], _, i => by simp
  | b :: l, h, 0 => by
    simp only [List.count_cons] at h
    intro e
    simp at e; subst e; simp at h
  | b :: l, h, i + 1 => by
    simp only [List.count_cons] at h
    simpa using count_none l (by omega) i
theorem getD_false {l : Array Bool} {i : Nat} : l.getD i true = false ↔ l.toList[i]? = some false := by
  simp only [Array.getD_eq_getD_getElem?, Array.getElem?_toList]
  cases h : l[i]? with
  | none => simp
  | some b => simp
section
variable {P : Program} {ops : Array Oper} {Q : Exit → Act → World → Prop}
theorem waits_lt {j : Nat} {o : Oper} (ho : ops[j]? = some o) {L : List Yld} (hok : parOk ops L = true) : ∀ e ∈ o.after, Region.binds .any e = true → e.on < j := by
  intro e he hb
  simp only [parOk, Bool.and_eq_true, List.all_eq_true, List.mem_range, decide_eq_true_eq] at hok
  refine hok.2 j (Array.getElem?_eq_some_iff.1 ho).1 e.on ?_
  unfold waits
  rw [ho]
  simp only [Option.map_some, Option.getD_some, List.mem_filterMap]
  exact ⟨e, by simpa using he, by rw [if_pos hb]⟩
theorem ready_nil {L : List Yld} (hok : parOk ops L = true) {listed : Array Bool} (hs : listed.size = ops.size) (h : Region.ready .any ops listed = []) : ∀ j, listed.getD j true ≠ false := by
  intro j
  induction j using Nat.strongRecOn with
  | _ j ih =>
    intro hj
    have hlt : j < ops.size := by
      have := getD_false.1 hj
      have := (List.getElem?_eq_some_iff.1 this).1
      simp at this; omega
    have : j ∈ Region.ready .any ops listed := by
      refine mem_ready.2 ⟨hj, ops[j], Array.getElem?_eq_getElem hlt, fun e he hb => ?_⟩
      have hlt' := waits_lt (Array.getElem?_eq_getElem hlt) hok e he hb
      have := ih e.on hlt'
      have hsz : e.on < listed.size := by omega
      simp [Array.getD, hsz] at this ⊢
      exact this
    rw [h] at this
    cases this
theorem bpar_aux (L : List Yld) (hok : parOk ops L = true) (hn : parNodup L) {a0 : Act} {h : Array Obj} {w0 : World}
    (hstep : ∀ s ∈ L, ∀ (vs : Nat → Value) (w : World), KB h w → Below w0.heap.size w0 w → (∀ t ∈ L, (waits ops s.j).contains t.j = true → t.pr (vs t.j) w) →
      wpOp P ops Q s.j (fun a' w' => ∃ v, a' = (puts L vs a0).put s.d v ∧ s.pr v w' ∧ Below w.heap.size w w') (puts L vs a0) w)
    (hend : ∀ (vs : Nat → Value) (w : World), KB h w → Below w0.heap.size w0 w → (∀ t ∈ L, t.pr (vs t.j) w) → Q .normal (puts L vs a0) w) :
    ∀ (fuel : Nat) (listed : Array Bool) (vs : Nat → Value) (w : World), listed.size = ops.size → listed.toList.count false ≤ fuel → (∀ j, listed.getD j true = false → ∃ s ∈ L, s.j = j) →
      (∀ t ∈ L, listed.getD t.j true = true → t.pr (vs t.j) w) → KB h w → Below w0.heap.size w0 w → wpB P ops Q h fuel listed (puts L vs a0) w := by
  have all : ∀ (listed : Array Bool) (vs : Nat → Value) (w : World), (∀ j, listed.getD j true ≠ false) → (∀ t ∈ L, listed.getD t.j true = true → t.pr (vs t.j) w) → KB h w → Below w0.heap.size w0 w → Q .normal (puts L vs a0) w := by
    intro listed vs w hall hpr hk hb
    exact hend vs w hk hb fun t ht => hpr t ht (by have := hall t.j; simpa using this)
  intro fuel
  induction fuel with
  | zero =>
    intro listed vs w hs hc hun hpr hk hb
    have hall : ∀ j, listed.getD j true ≠ false := fun j hj => count_none listed.toList (by omega) j (getD_false.1 hj)
    refine ⟨?_, all listed vs w hall hpr hk hb⟩
    cases hr : Region.ready .any ops listed with
    | nil => rfl
    | cons j t => exact absurd (mem_ready.1 (by rw [hr]; exact List.mem_cons_self ..)).1 (hall j)
  | succ fuel ih =>
    intro listed vs w hs hc hun hpr hk hb
    refine ⟨fun hr => all listed vs w (ready_nil hok hs hr) hpr hk hb, fun j hj => ?_⟩
    obtain ⟨hju, o, ho, hdep⟩ := mem_ready.1 hj
    obtain ⟨s, hsL, rfl⟩ := hun j hju
    refine wpOp_mono ?_ (hstep s hsL vs w hk hb fun t ht hw => ?_)
    · rintro a' w' ⟨v, rfl, hv, hbw⟩
      have hkw := KB.of hbw
      refine ⟨hk.trans hkw, ?_⟩
      rw [← puts_upd L vs a0 s v hn hsL]
      refine ih _ _ _ (by simpa using hs) ?_ ?_ ?_ (hk.trans hkw) (bstep hb hbw)
      · have := count_set listed.toList s.j (getD_false.1 hju)
        rw [Array.toList_setIfInBounds]; omega
      · intro i hi
        refine hun i ?_
        by_cases he : s.j = i
        · subst he; exact hju
        · rwa [getD_set_ne true he] at hi
      · intro t ht hl
        by_cases he : t.j = s.j
        · have hts : t = s := by
            by_cases hne : t = s
            · exact hne
            · exfalso
              have : ∀ (M : List Yld), parNodup M → t ∈ M → s ∈ M → False := by
                intro M
                induction M with
                | nil => intro _ h; cases h
                | cons x M ihM =>
                  intro hnM h1 h2
                  rcases List.mem_cons.1 h1 with e1 | g1
                  · rcases List.mem_cons.1 h2 with e2 | g2
                    · exact hne (e1.trans e2.symm)
                    · subst e1; exact (hnM.1 s g2).1 he.symm
                  · rcases List.mem_cons.1 h2 with e2 | g2
                    · subst e2; exact (hnM.1 t g1).1 he
                    · exact ihM hnM.2 g1 g2
              exact this L hn ht hsL
          subst hts
          have : upd vs t.j v t.j = v := if_pos rfl
          rw [this]; exact hv
        · have : upd vs s.j v t.j = vs t.j := if_neg he
          rw [this]
          rw [getD_set_ne true (Ne.symm he)] at hl
          exact t.st _ _ _ (hpr t ht hl) hkw
    · unfold waits at hw
      rw [ho] at hw
      simp only [Option.map_some, Option.getD_some, List.contains_iff_mem, List.mem_filterMap] at hw
      obtain ⟨e, he, heq⟩ := hw
      split at heq
      · rename_i hb
        injection heq with heq
        have := hdep e (by simpa using he) hb
        rw [heq] at this
        refine hpr t ht ?_
        by_cases hb' : t.j < listed.size
        · simp [Array.getD, hb'] at this ⊢; exact this
        · simp [Array.getD, hb'] at this
      · cases heq
/-- The rest of a region, in whatever order. -/
theorem bpar (L : List Yld) (hok : parOk ops L = true) (hn : parNodupB L = true) {a0 : Act} {h : Array Obj} {fuel : Nat} {listed : Array Bool} {w : World}
    (hl : (listed.size == ops.size && decide (listed.toList.count false ≤ fuel) && (List.range ops.size).all (fun j => listed.getD j true || L.any (·.j == j)) && L.all (fun s => !listed.getD s.j true)) = true)
    (hk : KB h w)
    (hstep : ∀ s ∈ L, ∀ (vs : Nat → Value) (W : World), KB h W → Below w.heap.size w W → (∀ t ∈ L, (waits ops s.j).contains t.j = true → t.pr (vs t.j) W) →
      wpOp P ops Q s.j (fun a' w' => ∃ v, a' = (puts L vs a0).put s.d v ∧ s.pr v w' ∧ Below W.heap.size W w') (puts L vs a0) W)
    (hend : ∀ (vs : Nat → Value) (W : World), KB h W → Below w.heap.size w W → (∀ t ∈ L, t.pr (vs t.j) W) → Q .normal (puts L vs a0) W) : wpB P ops Q h fuel listed a0 w := by
  simp only [Bool.and_eq_true, beq_iff_eq, decide_eq_true_eq, List.all_eq_true, List.mem_range, Bool.or_eq_true, List.any_eq_true, Bool.not_eq_true'] at hl
  obtain ⟨vs, hvs⟩ := puts_self L a0 (parNodup_of hn)
  have := bpar_aux (P := P) (Q := Q) L hok (parNodup_of hn) hstep hend fuel listed vs w hl.1.1.1 hl.1.1.2 (fun j hj => ?_) (fun t ht h' => ?_) hk (Below.refl _ _)
  · rwa [hvs] at this
  · have hlt : j < ops.size := by
      have := (List.getElem?_eq_some_iff.1 (getD_false.1 hj)).1
      have h2 := hl.1.1.1
      simp at this; omega
    rcases hl.1.2 j hlt with h' | ⟨s, hs, he⟩
    · rw [hj] at h'; cases h'
    · exact ⟨s, hs, he⟩
  · have := hl.2 t ht
    rw [h'] at this; cases this
theorem wpOp_of {j : Nat} {o : Oper} {K : Act → World → Prop} {a : Act} {w : World} (ho : ops[j]? = some o) (hw : Region.wanted o (yielded ops a.tmps) = true) (h : o.wp P a w K Q) : wpOp P ops Q j K a w := by
  unfold wpOp
  simp only [ho, hw, if_true]
  exact .inl h
theorem wpOp_off {j : Nat} {o : Oper} {K : Act → World → Prop} {a : Act} {w : World} (ho : ops[j]? = some o) (hw : Region.wanted o (yielded ops a.tmps) = false) (h : K (a.put o.dst undef) w) : wpOp P ops Q j K a w := by
  unfold wpOp
  simp only [ho, hw]
  exact h
theorem par_of {j : Nat} {o : Oper} {d : Option Tmp} {pr : Value → World → Prop} {a : Act} {w : World} (ho : ops[j]? = some o) (hw : Region.wanted o (yielded ops a.tmps) = true)
    (h : ∀ K : Act → World → Prop, Shut (∀ (a' : Act) (v : Value) (w' : World), a' = a.put d v → pr v w' → Below w.heap.size w w' → K a' w') → o.wp P a w K Q) :
    wpOp P ops Q j (fun a' w' => ∃ v, a' = a.put d v ∧ pr v w' ∧ Below w.heap.size w w') a w :=
  wpOp_of ho hw (h _ (fun _a' v _w' h1 h2 h3 => ⟨v, h1, h2, h3⟩))
theorem par_off {j : Nat} {o : Oper} {d : Option Tmp} {pr : Value → World → Prop} {a : Act} {w : World} (ho : ops[j]? = some o) (hw : Region.wanted o (yielded ops a.tmps) = false) (hd : o.dst = d)
    (h : pr undef w) : wpOp P ops Q j (fun a' w' => ∃ v, a' = a.put d v ∧ pr v w' ∧ Below w.heap.size w w') a w := by
  subst hd
  exact wpOp_off ho hw ⟨undef, rfl, h, Below.refl _ w⟩
end
section
variable {P : Program} {ops : Array Oper} {Q : Exit → Act → World → Prop}
/-- Two operations may come up now: both ways. -/
theorem bopH2 (i j : Nat) {oi oj : Oper} {h : Array Obj} {fuel : Nat} {listed : Array Bool} {a : Act} {w : World} (hi : ops[i]? = some oi) (hj : ops[j]? = some oj) (hok : (Region.ready .any ops listed == [i, j]) = true) (_hS : KB h w)
    (hwi : Region.wanted oi (yielded ops a.tmps) = true) (hwj : Region.wanted oj (yielded ops a.tmps) = true)
    (hri : ∀ K : Act → World → Prop, Shut (∀ a' w', KB h w' → wpB P ops Q h fuel (listed.setIfInBounds i true) a' w' → K a' w') → oi.wp P a w K Q)
    (hrj : ∀ K : Act → World → Prop, Shut (∀ a' w', KB h w' → wpB P ops Q h fuel (listed.setIfInBounds j true) a' w' → K a' w') → oj.wp P a w K Q) : wpB P ops Q h (fuel + 1) listed a w := by
  have hok' : Region.ready .any ops listed = [i, j] := by simpa using hok
  refine wpAnyH_all hok' (by simp) fun k hk => ?_
  rcases List.mem_cons.1 hk with rfl | hk
  · unfold wpOp
    simp only [hi, hwi, if_true]
    exact .inl (hri _ (fun a' w' hk hb => ⟨hk, hb⟩))
  · obtain rfl : k = j := by simpa using hk
    unfold wpOp
    simp only [hj, hwj, if_true]
    exact .inl (hrj _ (fun a' w' hk hb => ⟨hk, hb⟩))
end
/-! operations under a guard that says yes -/
theorem appG {ops : Array Oper} {rest : List Oper} {o : Oper} {a : Act} {Q : Exit → Act → World → Prop} {w : World} {s x : Operand} (hgd : Region.wanted o (yielded ops a.tmps) = true) (ho : o.op = .call { callee := .builtin .append, args := #[s, x], argTypes := #[28, 28] })
    {base : Nat} {v : Value} {l : List UInt8} (hown : OwnB w base v l) {B : Nat} {A : Option Addr} {m c : Nat} {k : List UInt8} (hr : Sl w B A (bv k)) (hm : m = k.length)
    (hs : a.eval s = v) (hx : a.eval x = .slice A m c) (hbytes : l.length + k.length ≤ 140737488355328) (hbase : base ≤ w.heap.size)
    (h : ∀ v' w', OwnB w' base v' (l ++ k) → w.grownBy w' v.ownBlock → (v'.ownBlock = v.ownBlock ∨ v'.ownBlock = some w.heap.size) → wpList Try.prog ops Q rest (a.put o.dst v') w') : wpList Try.prog ops Q (o :: rest) a w :=
  BigFrame.wpList_want hgd fun _ hK => wp_app ho hown hr hm hs hx hbytes hbase fun v' w' h2 h3 h4 => hK _ _ (h v' w' h2 h3 h4)
theorem OwnB.one (w : World) (a : Nat) (ha : a < 256) : OwnB (w.alloc (.cells #[.int .u8 (a : Int)] 5)) w.heap.size (.slice (some ⟨w.heap.size, 0, none⟩) 1 1) [UInt8.ofNat a] := by
  have := OwnB.lit w w.heap.size [UInt8.ofNat a] (Nat.le_refl _) (by simp [maxLen])
  rw [← one_bv a ha] at this
  exact this
theorem Sl.two (w : World) (a b : Nat) (ha : a < 256) (hb : b < 256) : Sl (w.alloc (.cells #[.int .u8 (a : Int), .int .u8 (b : Int)] 5)) (w.heap.size + 1) (some ⟨w.heap.size, 0, none⟩) (bv [UInt8.ofNat a, UInt8.ofNat b]) := by
  have := Sl.new w 5 #[.int .u8 (a : Int), .int .u8 (b : Int)] (0, 0)
  rw [← two_bv a b ha hb]
  simpa using this
theorem OwnB.lower {w : World} {base base' : Nat} {v : Value} {l : List UInt8} (h : OwnB w base v l) (hb : base' ≤ base) : OwnB w base' v l := by
  refine ⟨h.1, ?_⟩
  rcases h.2 with h' | ⟨g, cap, cur, e, hb', rest⟩
  · exact .inl h'
  · exact .inr ⟨g, cap, cur, e, Nat.le_trans hb hb', rest⟩
theorem OwnB.oneG (w : World) (a : Nat) (ha : a < 256) {base : Nat} (hb : base ≤ w.heap.size) : OwnB (w.alloc (.cells #[.int .u8 (a : Int)] 5)) base (.slice (some ⟨w.heap.size, 0, none⟩) 1 1) [UInt8.ofNat a] := (OwnB.one w a ha).lower hb
theorem OwnB.apartN {w : World} {base n m : Nat} {v : Value} {l : List UInt8} (h : OwnB w base v l) : (Value.slice (some ⟨w.heap.size, 0, none⟩) n m).ownBlock = none ∨ (Value.slice (some ⟨w.heap.size, 0, none⟩) n m).ownBlock ≠ v.ownBlock := by
  right
  intro e
  have := (h.lt w.heap.size (by rw [← e]; rfl)).2
  omega
theorem OwnB.apartO {w w' : World} {base : Nat} {v v' : Value} {l l' : List UInt8} (h : OwnB w base v l) (h' : OwnB w' w.heap.size v' l') : v.ownBlock = none ∨ v.ownBlock ≠ v'.ownBlock := by
  cases hv : v.ownBlock with
  | none => exact .inl rfl
  | some k =>
    right
    intro e
    have h1 := (h.lt k hv).2
    have h2 := (h'.lt k e.symm).1
    omega
end Go.Proofs.Ythpooogjlmaemaa

