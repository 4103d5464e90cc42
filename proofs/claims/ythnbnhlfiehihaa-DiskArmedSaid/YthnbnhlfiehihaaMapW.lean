/- Maps as lists of pairs: the operations in the walk. -/
import Derived.Test.YthnbnhlfiehihaaMaps
import Derived.Test.YthnbnhlfiehihaaPar
import Derived.RangeFuncSeq
import Derived.Sort.MapsRangeIn
namespace Go.Proofs.Ythnbnhlfiehihaa
open Go.RowKit Go.Maps

section
variable {P : Program} {t k e : TypeId} {α β : Type} {T : MT P t k e α β} {w w' : World} {b : Nat} {L : List (α × β)}
/-- v := m[x] -/
theorem MapIs.look1_run [DecidableEq α] (h : MapIs T w b L) {x : α} (hx : T.okK x) : (Instr.lookup t (.map (some b)) (T.mkK x) false).run P w = .ok (T.mkV ((look L x).getD T.zero)) w := by
  have hap := h.apart
  obtain ⟨h0, es, h1, h2⟩ := h
  have hR0 : T.R (T.mkV T.zero) = some (T.enc T.zero, []) := by simp [MT.R, T.decMk]
  obtain ⟨v, ps, hrun, hv⟩ := h1.lookup T.keyed T.ty (T.zeroV w) hR0 (T.key x hx)
  obtain ⟨es', e1, hape, _⟩ := h1.entries T.keyed
  injection e1 with e1
  subst e1
  simp only [MT.R, Option.map_eq_some_iff] at hv
  obtain ⟨d, hd, hd2⟩ := hv
  have hv2 := T.mkDec v d hd
  simp only [Prod.mk.injEq] at hd2
  rw [hrun]
  cases hl : look L x with
  | none =>
    have hno : ∀ q ∈ es, q.1 ≠ T.litK x := by
      intro q hq e
      obtain ⟨p, hp, rfl⟩ := List.mem_map.1 (h2.mem_iff.1 hq)
      exact look_none hl p hp (T.litInj _ _ (h0 p hp) hx e)
    rw [WideAt.atKey_none _ hno] at hd2
    have hdz : d = T.zero := T.encInj _ _ hd2.1
    rw [hv2, hdz]
    rfl
  | some y =>
    have hm : (T.litK x, T.enc y) ∈ es := h2.mem_iff.2 (List.mem_map.2 ⟨(x, y), look_mem hl, rfl⟩)
    rw [WideAt.atKey_mem _ (T.isKey hx) hape hm] at hd2
    have hdz : d = y := T.encInj _ _ hd2.1.symm |>.symm ▸ rfl
    rw [hv2, hdz]
    rfl
def delA [DecidableEq α] (L : List (α × β)) (x : α) : List (α × β) := L.filter fun p => p.1 ≠ x
theorem look_putA [DecidableEq α] (L : List (α × β)) (x : α) (c : β) (y : α) : look (putA L x c) y = if y = x then some c else look L y := by
  unfold look putA
  rw [List.find?_cons]
  by_cases e : x = y
  · subst e; simp
  · rw [if_neg (fun h => e h.symm)]
    simp only [e, decide_false]
    rw [List.find?_filter]
    congr 1
    congr 1
    funext p
    by_cases e2 : p.1 = y
    · subst e2
      have : p.1 ≠ x := fun h => e h.symm
      simp [this]
    · simp [e2]
theorem look_delA [DecidableEq α] (L : List (α × β)) (x y : α) : look (delA L x) y = if y = x then none else look L y := by
  unfold look delA
  rw [List.find?_filter]
  by_cases e : y = x
  · subst e
    rw [if_pos rfl]
    rw [List.find?_eq_none.2 (by
      intro p _
      by_cases e2 : p.1 = y <;> simp [e2])]
    rfl
  · rw [if_neg e]
    congr 1
    congr 1
    funext p
    by_cases e2 : p.1 = y
    · subst e2; simp [e]
    · simp [e2]
/-- two maps that tell the same are the same pairs -/
theorem perm_of_look [DecidableEq α] {L M : List (α × β)} (hL : L.Pairwise fun p q => p.1 ≠ q.1) (hM : M.Pairwise fun p q => p.1 ≠ q.1) (h : ∀ x, look L x = look M x) : L.Perm M := by
  have nd : ∀ {K : List (α × β)}, K.Pairwise (fun p q => p.1 ≠ q.1) → K.Nodup := fun hK => hK.imp fun {p q} h e => h (by rw [e])
  refine (List.perm_ext_iff_of_nodup (nd hL) (nd hM)).2 fun p => ⟨fun hp => ?_, fun hp => ?_⟩
  · exact look_mem ((h p.1).symm.trans (find_mem hL hp))
  · exact look_mem ((h p.1).trans (find_mem hM hp))
theorem apart_put [DecidableEq α] {L : List (α × β)} (hL : L.Pairwise fun p q => p.1 ≠ q.1) (x : α) (c : β) : (putA L x c).Pairwise fun p q => p.1 ≠ q.1 := by
  unfold putA
  refine List.pairwise_cons.2 ⟨fun q hq => ?_, hL.filter _⟩
  have := (List.mem_filter.1 hq).2
  simp at this
  exact fun e => this e.symm
theorem len_putA [DecidableEq α] {L : List (α × β)} (hL : L.Pairwise fun p q => p.1 ≠ q.1) (x : α) (c : β) : (putA L x c).length = if (look L x).isSome then L.length else L.length + 1 := by
  unfold putA
  rw [List.length_cons]
  cases hl : look L x with
  | none =>
    have : L.filter (fun p => decide (p.1 ≠ x)) = L := List.filter_eq_self.2 fun p hp => by simpa using look_none hl p hp
    rw [this]; rfl
  | some d =>
    have hm := look_mem hl
    have h2 : (L.filter fun p => decide (p.1 ≠ x)).length + 1 = L.length := by
      clear hl
      induction L with
      | nil => cases hm
      | cons q L ih =>
        obtain ⟨h1, h3⟩ := List.pairwise_cons.1 hL
        rcases List.mem_cons.1 hm with e | hm'
        · subst e
          have : L.filter (fun p => decide (p.1 ≠ x)) = L := List.filter_eq_self.2 fun p hp => by simpa using fun e => h1 p hp e.symm
          rw [List.filter_cons, if_neg (by simp), this]; rfl
        · have : q.1 ≠ x := h1 _ hm'
          rw [List.filter_cons, if_pos (by simpa using this), List.length_cons, List.length_cons, ← ih h3 hm']
    simpa using h2
/-- delete(m, x) -/
theorem MapIs.drop_run [DecidableEq α] (h : MapIs T w b L) {x : α} (hx : T.okK x) (ty : TypeId) : ∃ w', (Builtin.delete_ #[t, k] ty #[.map (some b), T.mkK x]).run P w = .ok (.tuple #[]) w' ∧ MapIs T w' b (delA L x) ∧ w.mapTurned w' b := by
  obtain ⟨h0, es, h1, h2⟩ := h
  obtain ⟨w', hrun, ho, ht⟩ := h1.drop T.keyed T.ty (T.key x hx) ty
  rw [DataW.del_eq, ChangeMaps.delKey] at ho
  have hp : (es.filter (ChangeMaps.notKey (T.litK x))).Perm ((delA L x).map T.ent) := by
    change (es.filter fun p => !p.1.sameKey (T.litK x)).Perm _
    unfold delA
    refine (h2.filter _).trans ?_
    rw [List.filter_map]
    refine List.Perm.of_eq ?_
    congr 1
    refine List.filter_congr fun p hp => ?_
    simp only [Function.comp, MT.ent]
    by_cases e : p.1 = x
    · subst e
      simp [WideAt.sameKey_self (T.isKey hx)]
    · have : (T.litK p.1).sameKey (T.litK x) = false := by
        cases hs : (T.litK p.1).sameKey (T.litK x)
        · rfl
        · exact absurd (T.litInj _ _ (h0 p hp) hx (WideAt.sameKey_eq hs)) e
      simp [this, e]
  refine ⟨w', hrun, ⟨fun p hp => h0 p (List.mem_filter.1 hp).1, _, ?_, hp⟩, ht⟩
  have := owns_len ho
  rw [hp.length_eq, List.length_map] at this
  exact this
theorem MapIs.clone {b' : Nat} (h : MapIs T w b L) (h' : ∀ D : DataW Unit, w.ownsMap P k T.R b L.length D → w'.ownsMap P k T.R b' L.length D) : MapIs T w' b' L := by
  obtain ⟨h0, es, h1, h2⟩ := h
  exact ⟨h0, es, h' _ h1, h2⟩
theorem MapIs.turned {L' : List (α × β)} {b' : Nat} (h : MapIs T w b' L') (ht : w.mapTurned w' b) (hne : b' ≠ b) : MapIs T w' b' L' := h.kept ht.grown (fun e => hne (Option.some.inj e))
theorem RangeIs.of_walks [DecidableEq α] {r : Nat} {rem : List α} (h : RangeIs T w b r L rem) (hk : KeepsWalks w w') : RangeIs T w' b r L rem := by
  obtain ⟨h0, es, left, cnt, h1, h2⟩ := h
  exact ⟨h0, es, left, cnt, h1.of_walks hk, h2⟩
theorem MapIs.kb (h : MapIs T w b L) (hk : KB w.heap w') : MapIs T w' b L := by
  obtain ⟨h0, es, ⟨es', clock, hb, h1⟩, h2⟩ := h
  exact ⟨h0, es, ⟨es', clock, (hk.2 b (Array.getElem?_eq_some_iff.1 hb).1).trans hb, h1⟩, h2⟩
theorem MapIs.drew (h : MapIs T w b L) : MapIs T w.drew b L := h
theorem MapIs.notCells (h : MapIs T w b L) {cs : Array Value} {ty : TypeId} {fr : Nat × Nat} : w.heap[b]? ≠ some (.cells cs ty fr) := by
  obtain ⟨_, es, ⟨es', clock, hb, _⟩, _⟩ := h
  rw [hb]; simp
theorem decOf_ex {β : Type} (mk : β → Value) : ∃ dec : Value → Option β, (∀ v c, dec v = some c → v = mk c) ∧ ((∀ a b, mk a = mk b → a = b) → ∀ c, dec (mk c) = some c) := by
  classical
  refine ⟨fun v => if h : ∃ c, mk c = v then some h.choose else none, fun v c h => ?_, fun hi c => ?_⟩
  · dsimp only at h
    split at h
    · rename_i hh
      have := hh.choose_spec
      injection h with h
      rw [h] at this
      exact this.symm
    · cases h
  · have hh : ∃ c', mk c' = mk c := ⟨c, rfl⟩
    dsimp only
    rw [dif_pos hh]
    exact congrArg some (hi _ _ hh.choose_spec)
noncomputable def decOf {β : Type} (mk : β → Value) : Value → Option β := (decOf_ex mk).choose
theorem mk_decOf {β : Type} {mk : β → Value} {v : Value} {c : β} (h : decOf mk v = some c) : v = mk c := (decOf_ex mk).choose_spec.1 v c h
theorem decOf_mk {β : Type} {mk : β → Value} (hi : ∀ a b, mk a = mk b → a = b) (c : β) : decOf mk (mk c) = some c := (decOf_ex mk).choose_spec.2 hi c
/-! ### at the operation -/
section
variable {ops : Array Oper} {rest : List Oper} {o : Oper} {a : Act} {Q : Exit → Act → World → Prop} {m x y : Operand}
theorem ex_look [DecidableEq α] (h : MapIs T w b L) (ho : o.op = .lookup t m x true) (hm : a.eval m = .map (some b)) {c : α} (hx : a.eval x = T.mkK c) (hc : T.okK c) :
    (execOp a.eval o).run P w = .ok (.value (.tuple #[T.mkV ((look L c).getD T.zero), .bool (look L c).isSome])) w := by
  have := h.look_run hc
  simp [execOp, ho, hm, hx, this, Result.andThen]
theorem ex_look1 [DecidableEq α] (h : MapIs T w b L) (ho : o.op = .lookup t m x false) (hm : a.eval m = .map (some b)) {c : α} (hx : a.eval x = T.mkK c) (hc : T.okK c) :
    (execOp a.eval o).run P w = .ok (.value (T.mkV ((look L c).getD T.zero))) w := by
  have := h.look1_run hc
  simp [execOp, ho, hm, hx, this, Result.andThen]
theorem mput [DecidableEq α] (hg : o.guard = none) (ho : o.op = .mapUpdate t m x y) (h : MapIs T w b L) (hn : L.length < maxLen) (hm : a.eval m = .map (some b)) {c : α} (hx : a.eval x = T.mkK c) (hc : T.okK c) {d : β} (hy : a.eval y = T.mkV d)
    (hK : ∀ w', MapIs T w' b (putA L c d) → w.mapTurned w' b → wpList P ops Q rest (a.put o.dst undef) w') : wpList P ops Q (o :: rest) a w := by
  refine wpList_plain hg fun K' hK' => ?_
  obtain ⟨w', hrun, h1, h2⟩ := h.store_run hn hc d
  unfold Oper.wp
  simp [execOp, ho, hm, hx, hy, hrun, Result.andThen]
  exact hK' _ _ (hK w' h1 h2)
theorem wp_mput [DecidableEq α] {K : Act → World → Prop} (ho : o.op = .mapUpdate t m x y) (h : MapIs T w b L) (hn : L.length < maxLen) (hm : a.eval m = .map (some b)) {c : α} (hx : a.eval x = T.mkK c) (hc : T.okK c) {d : β} (hy : a.eval y = T.mkV d)
    (hK : ∀ w', MapIs T w' b (putA L c d) → w.mapTurned w' b → K (a.put o.dst undef) w') : o.wp P a w K Q := by
  obtain ⟨w', hrun, h1, h2⟩ := h.store_run hn hc d
  unfold Oper.wp
  simp [execOp, ho, hm, hx, hy, hrun, Result.andThen]
  exact hK w' h1 h2
theorem mlook [DecidableEq α] (hg : o.guard = none) (h : MapIs T w b L) (ho : o.op = .lookup t m x true) (hm : a.eval m = .map (some b)) {c : α} (hx : a.eval x = T.mkK c) (hc : T.okK c)
    (hK : wpList P ops Q rest (a.put o.dst (.tuple #[T.mkV ((look L c).getD T.zero), .bool (look L c).isSome])) w) : wpList P ops Q (o :: rest) a w := by
  refine wpList_plain hg fun K' hK' => ?_
  unfold Oper.wp
  rw [ex_look h ho hm hx hc]
  exact hK' _ _ hK
theorem mlook1 [DecidableEq α] (hg : o.guard = none) (h : MapIs T w b L) (ho : o.op = .lookup t m x false) (hm : a.eval m = .map (some b)) {c : α} (hx : a.eval x = T.mkK c) (hc : T.okK c)
    (hK : wpList P ops Q rest (a.put o.dst (T.mkV ((look L c).getD T.zero))) w) : wpList P ops Q (o :: rest) a w := by
  refine wpList_plain hg fun K' hK' => ?_
  unfold Oper.wp
  rw [ex_look1 h ho hm hx hc]
  exact hK' _ _ hK
theorem mrange [DecidableEq α] (hg : o.guard = none) (ho : o.op = .range t m) (h : MapIs T w b L) (hm : a.eval m = .map (some b))
    (hK : ∀ w', RangeIs T w' b w.heap.size L (L.map (·.1)) → w.grownBy w' none → w'.heap.size = w.heap.size + 1 → wpList P ops Q rest (a.put o.dst (.pointer (some ⟨w.heap.size, 0, none⟩))) w') : wpList P ops Q (o :: rest) a w := by
  refine wpList_plain hg fun K' hK' => ?_
  obtain ⟨w', hrun, h1, h2, h3⟩ := h.range_run
  unfold Oper.wp
  simp [execOp, ho, hm, hrun, Result.andThen]
  exact hK' _ _ (hK w' h1 h2 h3)
theorem mnext [DecidableEq α] (hg : o.guard = none) (ho : o.op = .next x false) {r : Nat} {rem : List α} (h : RangeIs T w b r L rem) (hx : a.eval x = .pointer (some ⟨r, 0, none⟩))
    (hD : rem = [] → wpList P ops Q rest (a.put o.dst (.tuple #[.bool false])) w)
    (hM : ∀ c d w', c ∈ rem → T.okK c → look L c = some d → RangeIs T w' b r L (rem.erase c) → w.grownBy w' (some r) → w'.heap.size = w.heap.size → (Instr.entry (.pointer (some ⟨r, 0, none⟩))).run P w' = .ok (.tuple #[T.mkK c, T.mkV d]) w' → w'.rangeLeft b r < w.rangeLeft b r →
      wpList P ops Q rest (a.put o.dst (.tuple #[.bool true, T.mkK c, T.mkV d])) w') : wpList P ops Q (o :: rest) a w := by
  refine wpList_plain hg fun K' hK' => ?_
  unfold Oper.wp
  rcases h.next_run o.type with ⟨h0, hrun⟩ | ⟨c, d, w', hc, hok, hl, hrun, hr, hgr, hsz, hen, hlt⟩
  · simp [execOp, ho, hx, hrun, Result.andThen]
    exact hK' _ _ (hD h0)
  · simp [execOp, ho, hx, hrun, Result.andThen]
    exact hK' _ _ (hM c d w' hc hok hl hr hgr hsz hen hlt)
variable {F : Fence} {n : Nat}
theorem mrangeI [DecidableEq α] (hg : o.guard = none) (ho : o.op = .range t m) (h : MapIs T w b L) (hm : a.eval m = .map (some b))
    (hK : ∀ w', RangeIs T w' b w.heap.size L (L.map (·.1)) → w.grownBy w' none → w'.heap.size = w.heap.size + 1 → wpListIn F n P ops Q rest (a.put o.dst (.pointer (some ⟨w.heap.size, 0, none⟩))) w') : wpListIn F n P ops Q (o :: rest) a w := by
  refine wpListIn_plain hg fun K' hK' => ?_
  obtain ⟨w', hrun, h1, h2, h3⟩ := h.range_run
  unfold Oper.wpIn
  refine ⟨by simp [Oper.about, ho], ?_⟩
  rw [Oper.semAt_plain F _ _ (by rw [ho]; intro c hc'; cases hc')]
  simp [execOp, ho, hm, hrun, Result.andThen]
  exact hK' _ _ (hK w' h1 h2 h3)
theorem mnextI [DecidableEq α] (hg : o.guard = none) (ho : o.op = .next x false) {r : Nat} {rem : List α} (h : RangeIs T w b r L rem) (hx : a.eval x = .pointer (some ⟨r, 0, none⟩))
    (hD : rem = [] → wpListIn F n P ops Q rest (a.put o.dst (.tuple #[.bool false])) w)
    (hM : ∀ c d w', c ∈ rem → T.okK c → look L c = some d → RangeIs T w' b r L (rem.erase c) → w.grownBy w' (some r) → w'.heap.size = w.heap.size → (Instr.entry (.pointer (some ⟨r, 0, none⟩))).run P w' = .ok (.tuple #[T.mkK c, T.mkV d]) w' → w'.rangeLeft b r < w.rangeLeft b r →
      wpListIn F n P ops Q rest (a.put o.dst (.tuple #[.bool true, T.mkK c, T.mkV d])) w') : wpListIn F n P ops Q (o :: rest) a w := by
  refine wpListIn_plain hg fun K' hK' => ?_
  unfold Oper.wpIn
  refine ⟨by simp [Oper.about, ho], ?_⟩
  rw [Oper.semAt_plain F _ _ (by rw [ho]; intro c hc'; cases hc')]
  rcases h.next_run o.type with ⟨h0, hrun⟩ | ⟨c, d, w', hc, hok, hl, hrun, hr, hgr, hsz, hen, hlt⟩
  · simp [execOp, ho, hx, hrun, Result.andThen]
    exact hK' _ _ (hD h0)
  · simp [execOp, ho, hx, hrun, Result.andThen]
    exact hK' _ _ (hM c d w' hc hok hl hr hgr hsz hen hlt)
end
end
end Go.Proofs.Ythnbnhlfiehihaa

