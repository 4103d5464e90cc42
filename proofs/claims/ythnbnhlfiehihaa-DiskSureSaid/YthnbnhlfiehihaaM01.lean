/- Maps as lists of pairs: the operations in the walk. -/
import Derived.RangeFuncSeq
import Derived.Sort.MapsRangeIn
import Derived.Laws.StructEq
import Derived.Test.YthnbnhlfiehihaaM00
namespace Go.Proofs.Ythnbnhlfiehihaa
open Go.RowKit Go.Maps

section
variable {P : Program} {t k e : TypeId} {α β : Type} {T : MT P t k e α β} {w w' : World} {b : Nat} {L : List (α × β)}
/-- v := m[x] -/
theorem MapIs.look1_run [DecidableEq α] (h : MapIs T w b L) {x : α} (hx : T.okK x) : (Instr.lookup t (.map (some b)) (T.mkK x) false).run P w = .ok (T.mkV ((look L x).getD T.zero)) w := by
  have hap := h.apart
  obtain ⟨h0, es, h1, h2⟩ := h
  have hR0 : T.R (T.mkV T.zero) = some (T.enc T.zero, []) := by simp [MT.R, T.decMk]
  obtain ⟨v, ps, hrun, hv⟩ := h1.lookup T.keyed T.ty (T.zeroV w) hR0 (T.key x hx)
  obtain ⟨es', e1, hape, _⟩ := h1.entries T.keyed
  injection e1 with e1
  subst e1
  simp only [MT.R, Option.map_eq_some_iff] at hv
  obtain ⟨d, hd, hd2⟩ := hv
  have hv2 := T.mkDec v d hd
  simp only [Prod.mk.injEq] at hd2
  rw [hrun]
  cases hl : look L x with
  | none =>
    have hno : ∀ q ∈ es, q.1 ≠ T.litK x := by
      intro q hq e
      obtain ⟨p, hp, rfl⟩ := List.mem_map.1 (h2.mem_iff.1 hq)
      exact look_none hl p hp (T.litInj _ _ (h0 p hp) hx e)
    rw [WideAt.atKey_none _ hno] at hd2
    have hdz : d = T.zero := T.encInj _ _ hd2.1
    rw [hv2, hdz]
    rfl
  | some y =>
    have hm : (T.litK x, T.enc y) ∈ es := h2.mem_iff.2 (List.mem_map.2 ⟨(x, y), look_mem hl, rfl⟩)
    rw [WideAt.atKey_mem _ (T.isKey hx) hape hm] at hd2
    have hdz : d = y := T.encInj _ _ hd2.1.symm |>.symm ▸ rfl
    rw [hv2, hdz]
    rfl
def delA [DecidableEq α] (L : List (α × β)) (x : α) : List (α × β) := L.filter fun p => p.1 ≠ x
theorem look_putA [DecidableEq α] (L : List (α × β)) (x : α) (c : β) (y : α) : look (putA L x c) y = if y = x then some c else look L y := by
  unfold look putA
  rw [List.find?_cons]
  by_cases e : x = y
  · subst e; simp
  · rw [if_neg (fun h => e h.symm)]
    simp only [e, decide_false]
    rw [List.find?_filter]
    congr 1
    congr 1
    funext p
    by_cases e2 : p.1 = y
    · subst e2
      have : p.1 ≠ x := fun h => e h.symm
      simp [this]
    · simp [e2]
theorem look_delA [DecidableEq α] (L : List (α × β)) (x y : α) : look (delA L x) y = if y = x then none else look L y := by
  unfold look delA
  rw [List.find?_filter]
  by_cases e : y = x
  · subst e
    rw [if_pos rfl]
    rw [List.find?_eq_none.2 (by
      intro p _
      by_cases e2 : p.1 = y <;> simp [e2])]
    rfl
  · rw [if_neg e]
    congr 1
    congr 1
    funext p
    by_cases e2 : p.1 = y
    · subst e2; simp [e]
    · simp [e2]
/-- two maps that tell the same are the same pairs -/
theorem perm_of_look [DecidableEq α] {L M : List (α × β)} (hL : L.Pairwise fun p q => p.1 ≠ q.1) (hM : M.Pairwise fun p q => p.1 ≠ q.1) (h : ∀ x, look L x = look M x) : L.Perm M := by
  have nd : ∀ {K : List (α × β)}, K.Pairwise (fun p q => p.1 ≠ q.1) → K.Nodup := fun hK => hK.imp fun {p q} h e => h (by rw [e])
  refine (List.perm_ext_iff_of_nodup (nd hL) (nd hM)).2 fun p => ⟨fun hp => ?_, fun hp => ?_⟩
  · exact look_mem ((h p.1).symm.trans (find_mem hL hp))
  · exact look_mem ((h p.1).trans (find_mem hM hp))
theorem apart_put [DecidableEq α] {L : List (α × β)} (hL : L.Pairwise fun p q => p.1 ≠ q.1) (x : α) (c : β) : (putA L x c).Pairwise fun p q => p.1 ≠ q.1 := by
  unfold putA
  refine List.pairwise_cons.2 ⟨fun q hq => ?_, hL.filter _⟩
  have := (List.mem_filter.1 hq).2
  simp at this
  exact fun e => this e.symm
theorem len_putA [DecidableEq α] {L : List (α × β)} (hL : L.Pairwise fun p q => p.1 ≠ q.1) (x : α) (c : β) : (putA L x c).length = if (look L x).isSome then L.length else L.length + 1 := by
  unfold putA
  rw [List.length_cons]
  cases hl : look L x with
  | none =>
    have : L.filter (fun p => decide (p.1 ≠ x)) = L := List.filter_eq_self.2 fun p hp => by simpa using look_none hl p hp
    rw [this]; rfl
  | some d =>
    have hm := look_mem hl
    have h2 : (L.filter fun p => decide (p.1 ≠ x)).length + 1 = L.length := by
      clear hl
      induction L with
      | nil => cases hm
      | cons q L ih =>
        obtain ⟨h1, h3⟩ := List.pairwise_cons.1 hL
        rcases List.mem_cons.1 hm with e | hm'
        · subst e
          have : L.filter (fun p => decide (p.1 ≠ x)) = L := List.filter_eq_self.2 fun p hp => by simpa using fun e => h1 p hp e.symm
          rw [List.filter_cons, if_neg (by simp), this]; rfl
        · have : q.1 ≠ x := h1 _ hm'
          rw [List.filter_cons, if_pos (by simpa using this), List.length_cons, List.length_cons, ← ih h3 hm']
    simpa using h2
/-- delete(m, x) -/
theorem MapIs.drop_run [DecidableEq α] (h : MapIs T w b L) {x : α} (hx : T.okK x) (ty : TypeId) : ∃ w', (Builtin.delete_ #[t, k] ty #[.map (some b), T.mkK x]).run P w = .ok (.tuple #[]) w' ∧ MapIs T w' b (delA L x) ∧ w.mapTurned w' b := by
  obtain ⟨h0, es, h1, h2⟩ := h
  obtain ⟨w', hrun, ho, ht⟩ := h1.drop T.keyed T.ty (T.key x hx) ty
  rw [DataW.del_eq, ChangeMaps.delKey] at ho
  have hp : (es.filter (ChangeMaps.notKey (T.litK x))).Perm ((delA L x).map T.ent) := by
    change (es.filter fun p => !p.1.sameKey (T.litK x)).Perm _
    unfold delA
    refine (h2.filter _).trans ?_
    rw [List.filter_map]
    refine List.Perm.of_eq ?_
    congr 1
    refine List.filter_congr fun p hp => ?_
    simp only [Function.comp, MT.ent]
    by_cases e : p.1 = x
    · subst e
      simp [WideAt.sameKey_self (T.isKey hx)]
    · have : (T.litK p.1).sameKey (T.litK x) = false := by
        cases hs : (T.litK p.1).sameKey (T.litK x)
        · rfl
        · exact absurd (T.litInj _ _ (h0 p hp) hx (WideAt.sameKey_eq hs)) e
      simp [this, e]
  refine ⟨w', hrun, ⟨fun p hp => h0 p (List.mem_filter.1 hp).1, _, ?_, hp⟩, ht⟩
  have := owns_len ho
  rw [hp.length_eq, List.length_map] at this
  exact this
theorem MapIs.clone {b' : Nat} (h : MapIs T w b L) (h' : ∀ D : DataW Unit, w.ownsMap P k T.R b L.length D → w'.ownsMap P k T.R b' L.length D) : MapIs T w' b' L := by
  obtain ⟨h0, es, h1, h2⟩ := h
  exact ⟨h0, es, h' _ h1, h2⟩
theorem MapIs.turned {L' : List (α × β)} {b' : Nat} (h : MapIs T w b' L') (ht : w.mapTurned w' b) (hne : b' ≠ b) : MapIs T w' b' L' := h.kept ht.grown (fun e => hne (Option.some.inj e))
theorem RangeIs.of_walks [DecidableEq α] {r : Nat} {rem : List α} (h : RangeIs T w b r L rem) (hk : KeepsWalks w w') : RangeIs T w' b r L rem := by
  obtain ⟨h0, es, left, cnt, h1, h2⟩ := h
  exact ⟨h0, es, left, cnt, h1.of_walks hk, h2⟩
theorem MapIs.kb (h : MapIs T w b L) (hk : KB w.heap w') : MapIs T w' b L := by
  obtain ⟨h0, es, ⟨es', clock, hb, h1⟩, h2⟩ := h
  exact ⟨h0, es, ⟨es', clock, (hk.2 b (Array.getElem?_eq_some_iff.1 hb).1).trans hb, h1⟩, h2⟩
theorem MapIs.drew (h : MapIs T w b L) : MapIs T w.drew b L := h
theorem MapIs.notCells (h : MapIs T w b L) {cs : Array Value} {ty : TypeId} {fr : Nat × Nat} : w.heap[b]? ≠ some (.cells cs ty fr) := by
  obtain ⟨_, es, ⟨es', clock, hb, _⟩, _⟩ := h
  rw [hb]; simp
theorem decOf_ex {β : Type} (mk : β → Value) : ∃ dec : Value → Option β, (∀ v c, dec v = some c → v = mk c) ∧ ((∀ a b, mk a = mk b → a = b) → ∀ c, dec (mk c) = some c) := by
  classical
  refine ⟨fun v => if h : ∃ c, mk c = v then some h.choose else none, fun v c h => ?_, fun hi c => ?_⟩
  · dsimp only at h
    split at h
    · rename_i hh
      have := hh.choose_spec
      injection h with h
      rw [h] at this
      exact this.symm
    · cases h
  · have hh : ∃ c', mk c' = mk c := ⟨c, rfl⟩
    dsimp only
    rw [dif_pos hh]
    exact congrArg some (hi _ _ hh.choose_spec)
noncomputable def decOf {β : Type} (mk : β → Value) : Value → Option β := (decOf_ex mk).choose
theorem mk_decOf {β : Type} {mk : β → Value} {v : Value} {c : β} (h : decOf mk v = some c) : v = mk c := (decOf_ex mk).choose_spec.1 v c h
theorem decOf_mk {β : Type} {mk : β → Value} (hi : ∀ a b, mk a = mk b → a = b) (c : β) : decOf mk (mk c) = some c := (decOf_ex mk).choose_spec.2 hi c
/-! ### at the operation -/
section
variable {ops : Array Oper} {rest : List Oper} {o : Oper} {a : Act} {Q : Exit → Act → World → Prop} {m x y : Operand}
theorem ex_look [DecidableEq α] (h : MapIs T w b L) (ho : o.op = .lookup t m x true) (hm : a.eval m = .map (some b)) {c : α} (hx : a.eval x = T.mkK c) (hc : T.okK c) :
    (execOp a.eval o).run P w = .ok (.value (.tuple #[T.mkV ((look L c).getD T.zero), .bool (look L c).isSome])) w := by
  have := h.look_run hc
  simp [execOp, ho, hm, hx, this, Result.andThen]
theorem ex_look1 [DecidableEq α] (h : MapIs T w b L) (ho : o.op = .lookup t m x false) (hm : a.eval m = .map (some b)) {c : α} (hx : a.eval x = T.mkK c) (hc : T.okK c) :
    (execOp a.eval o).run P w = .ok (.value (T.mkV ((look L c).getD T.zero))) w := by
  have := h.look1_run hc
  simp [execOp, ho, hm, hx, this, Result.andThen]
theorem mput [DecidableEq α] (hg : o.guard = none) (ho : o.op = .mapUpdate t m x y) (h : MapIs T w b L) (hn : L.length < maxLen) (hm : a.eval m = .map (some b)) {c : α} (hx : a.eval x = T.mkK c) (hc : T.okK c) {d : β} (hy : a.eval y = T.mkV d)
    (hK : ∀ w', MapIs T w' b (putA L c d) → w.mapTurned w' b → wpList P ops Q rest (a.put o.dst undef) w') : wpList P ops Q (o :: rest) a w := by
  refine wpList_plain hg fun K' hK' => ?_
  obtain ⟨w', hrun, h1, h2⟩ := h.store_run hn hc d
  unfold Oper.wp
  simp [execOp, ho, hm, hx, hy, hrun, Result.andThen]
  exact hK' _ _ (hK w' h1 h2)
theorem wp_mput [DecidableEq α] {K : Act → World → Prop} (ho : o.op = .mapUpdate t m x y) (h : MapIs T w b L) (hn : L.length < maxLen) (hm : a.eval m = .map (some b)) {c : α} (hx : a.eval x = T.mkK c) (hc : T.okK c) {d : β} (hy : a.eval y = T.mkV d)
    (hK : ∀ w', MapIs T w' b (putA L c d) → w.mapTurned w' b → K (a.put o.dst undef) w') : o.wp P a w K Q := by
  obtain ⟨w', hrun, h1, h2⟩ := h.store_run hn hc d
  unfold Oper.wp
  simp [execOp, ho, hm, hx, hy, hrun, Result.andThen]
  exact hK w' h1 h2
theorem mlook [DecidableEq α] (hg : o.guard = none) (h : MapIs T w b L) (ho : o.op = .lookup t m x true) (hm : a.eval m = .map (some b)) {c : α} (hx : a.eval x = T.mkK c) (hc : T.okK c)
    (hK : wpList P ops Q rest (a.put o.dst (.tuple #[T.mkV ((look L c).getD T.zero), .bool (look L c).isSome])) w) : wpList P ops Q (o :: rest) a w := by
  refine wpList_plain hg fun K' hK' => ?_
  unfold Oper.wp
  rw [ex_look h ho hm hx hc]
  exact hK' _ _ hK
theorem mlook1 [DecidableEq α] (hg : o.guard = none) (h : MapIs T w b L) (ho : o.op = .lookup t m x false) (hm : a.eval m = .map (some b)) {c : α} (hx : a.eval x = T.mkK c) (hc : T.okK c)
    (hK : wpList P ops Q rest (a.put o.dst (T.mkV ((look L c).getD T.zero))) w) : wpList P ops Q (o :: rest) a w := by
  refine wpList_plain hg fun K' hK' => ?_
  unfold Oper.wp
  rw [ex_look1 h ho hm hx hc]
  exact hK' _ _ hK
theorem mrange [DecidableEq α] (hg : o.guard = none) (ho : o.op = .range t m) (h : MapIs T w b L) (hm : a.eval m = .map (some b))
    (hK : ∀ w', RangeIs T w' b w.heap.size L (L.map (·.1)) → w.grownBy w' none → w'.heap.size = w.heap.size + 1 → wpList P ops Q rest (a.put o.dst (.pointer (some ⟨w.heap.size, 0, none⟩))) w') : wpList P ops Q (o :: rest) a w := by
  refine wpList_plain hg fun K' hK' => ?_
  obtain ⟨w', hrun, h1, h2, h3⟩ := h.range_run
  unfold Oper.wp
  simp [execOp, ho, hm, hrun, Result.andThen]
  exact hK' _ _ (hK w' h1 h2 h3)
theorem mnext [DecidableEq α] (hg : o.guard = none) (ho : o.op = .next x false) {r : Nat} {rem : List α} (h : RangeIs T w b r L rem) (hx : a.eval x = .pointer (some ⟨r, 0, none⟩))
    (hD : rem = [] → wpList P ops Q rest (a.put o.dst (.tuple #[.bool false])) w)
    (hM : ∀ c d w', c ∈ rem → T.okK c → look L c = some d → RangeIs T w' b r L (rem.erase c) → w.grownBy w' (some r) → w'.heap.size = w.heap.size → (Instr.entry (.pointer (some ⟨r, 0, none⟩))).run P w' = .ok (.tuple #[T.mkK c, T.mkV d]) w' → w'.rangeLeft b r < w.rangeLeft b r →
      wpList P ops Q rest (a.put o.dst (.tuple #[.bool true, T.mkK c, T.mkV d])) w') : wpList P ops Q (o :: rest) a w := by
  refine wpList_plain hg fun K' hK' => ?_
  unfold Oper.wp
  rcases h.next_run o.type with ⟨h0, hrun⟩ | ⟨c, d, w', hc, hok, hl, hrun, hr, hgr, hsz, hen, hlt⟩
  · simp [execOp, ho, hx, hrun, Result.andThen]
    exact hK' _ _ (hD h0)
  · simp [execOp, ho, hx, hrun, Result.andThen]
    exact hK' _ _ (hM c d w' hc hok hl hr hgr hsz hen hlt)
variable {F : Fence} {n : Nat}
theorem mrangeI [DecidableEq α] (hg : o.guard = none) (ho : o.op = .range t m) (h : MapIs T w b L) (hm : a.eval m = .map (some b))
    (hK : ∀ w', RangeIs T w' b w.heap.size L (L.map (·.1)) → w.grownBy w' none → w'.heap.size = w.heap.size + 1 → wpListIn F n P ops Q rest (a.put o.dst (.pointer (some ⟨w.heap.size, 0, none⟩))) w') : wpListIn F n P ops Q (o :: rest) a w := by
  refine wpListIn_plain hg fun K' hK' => ?_
  obtain ⟨w', hrun, h1, h2, h3⟩ := h.range_run
  unfold Oper.wpIn
  refine ⟨by simp [Oper.about, ho], ?_⟩
  rw [Oper.semAt_plain F _ _ (by rw [ho]; intro c hc'; cases hc')]
  simp [execOp, ho, hm, hrun, Result.andThen]
  exact hK' _ _ (hK w' h1 h2 h3)
theorem mnextI [DecidableEq α] (hg : o.guard = none) (ho : o.op = .next x false) {r : Nat} {rem : List α} (h : RangeIs T w b r L rem) (hx : a.eval x = .pointer (some ⟨r, 0, none⟩))
    (hD : rem = [] → wpListIn F n P ops Q rest (a.put o.dst (.tuple #[.bool false])) w)
    (hM : ∀ c d w', c ∈ rem → T.okK c → look L c = some d → RangeIs T w' b r L (rem.erase c) → w.grownBy w' (some r) → w'.heap.size = w.heap.size → (Instr.entry (.pointer (some ⟨r, 0, none⟩))).run P w' = .ok (.tuple #[T.mkK c, T.mkV d]) w' → w'.rangeLeft b r < w.rangeLeft b r →
      wpListIn F n P ops Q rest (a.put o.dst (.tuple #[.bool true, T.mkK c, T.mkV d])) w') : wpListIn F n P ops Q (o :: rest) a w := by
  refine wpListIn_plain hg fun K' hK' => ?_
  unfold Oper.wpIn
  refine ⟨by simp [Oper.about, ho], ?_⟩
  rw [Oper.semAt_plain F _ _ (by rw [ho]; intro c hc'; cases hc')]
  rcases h.next_run o.type with ⟨h0, hrun⟩ | ⟨c, d, w', hc, hok, hl, hrun, hr, hgr, hsz, hen, hlt⟩
  · simp [execOp, ho, hx, hrun, Result.andThen]
    exact hK' _ _ (hD h0)
  · simp [execOp, ho, hx, hrun, Result.andThen]
    exact hK' _ _ (hM c d w' hc hok hl hr hgr hsz hen hlt)
end
end
end Go.Proofs.Ythnbnhlfiehihaa
/- Disks: lists rising by names (plain). -/
namespace Go.Proofs.Ythnbnhlfiehihaa

abbrev Nm := List UInt8
theorem nm_irrefl (x : Nm) : ¬ x < x := List.lt_irrefl x
theorem nm_trans {x y z : Nm} (h : x < y) (k : y < z) : x < z := List.lt_trans h k
theorem nm_total {x y : Nm} (h : ¬ x < y) (k : ¬ y < x) : x = y := List.le_antisymm (List.not_lt.1 k) (List.not_lt.1 h)
theorem nm_ne {x y : Nm} (h : x < y) : x ≠ y := fun e => nm_irrefl y (e ▸ h)
theorem nm_asymm {x y : Nm} (h : x < y) : ¬ y < x := fun k => nm_irrefl x (nm_trans h k)
section
variable {β γ : Type}
def RiseN (R : List (Nm × β)) : Prop := R.Pairwise fun p q => p.1 < q.1
theorem RiseN.apart {R : List (Nm × β)} (h : RiseN R) : R.Pairwise fun p q => p.1 ≠ q.1 := h.imp fun h => nm_ne h
def putN : List (Nm × β) → Nm → β → List (Nm × β)
  | [], x, c => [(x, c)]
  | (y, d) :: R, x, c => if y < x then (y, d) :: putN R x c else if y = x then (x, c) :: R else (x, c) :: (y, d) :: R
theorem lookN_cons (p : Nm × β) (R : List (Nm × β)) (x : Nm) : look (p :: R) x = if p.1 = x then some p.2 else look R x := by
  unfold look
  rw [List.find?_cons]
  by_cases e : p.1 = x
  · simp [e]
  · simp [e]
theorem lookN_nil (x : Nm) : look ([] : List (Nm × β)) x = none := rfl
theorem lookN_lt {R : List (Nm × β)} {x : Nm} (h : ∀ p ∈ R, x < p.1) : look R x = none := by
  induction R with
  | nil => rfl
  | cons p R ih =>
    rw [lookN_cons, if_neg (fun e => nm_ne (h p (by simp)) e.symm)]
    exact ih fun q hq => h q (by simp [hq])
theorem mem_putN {R : List (Nm × β)} {x : Nm} {m : β} {p : Nm × β} (h : p ∈ putN R x m) : p = (x, m) ∨ p ∈ R := by
  induction R with
  | nil => simp [putN] at h; left; rw [h]
  | cons q R ih =>
    obtain ⟨y, c⟩ := q
    unfold putN at h
    split at h
    · rcases List.mem_cons.1 h with e | h
      · right; simp [e]
      · rcases ih h with h | h
        · exact .inl h
        · right; simp [h]
    · split at h
      · rcases List.mem_cons.1 h with e | h
        · left; rw [e]
        · right; simp [h]
      · rcases List.mem_cons.1 h with e | h
        · left; rw [e]
        · right; exact h
theorem mem_putN_new (R : List (Nm × β)) (x : Nm) (m : β) : (x, m) ∈ putN R x m := by
  induction R with
  | nil => simp [putN]
  | cons q R ih =>
    obtain ⟨y, c⟩ := q
    unfold putN
    split
    · exact List.mem_cons_of_mem _ ih
    · split <;> simp
theorem rise_putN {R : List (Nm × β)} (h : RiseN R) (x : Nm) (m : β) : RiseN (putN R x m) := by
  induction R with
  | nil => simp [putN, RiseN]
  | cons q R ih =>
    obtain ⟨y, c⟩ := q
    obtain ⟨h1, h2⟩ := List.pairwise_cons.1 h
    unfold putN
    split
    · rename_i hlt
      refine List.pairwise_cons.2 ⟨fun p hp => ?_, ih h2⟩
      rcases mem_putN hp with e | hp
      · rw [e]; exact hlt
      · exact h1 p hp
    · rename_i hlt
      split
      · rename_i e
        subst e
        exact List.pairwise_cons.2 ⟨h1, h2⟩
      · rename_i hne
        have hxy : x < y := Classical.byContradiction fun hx => hne (nm_total hlt hx)
        refine List.pairwise_cons.2 ⟨fun p hp => ?_, h⟩
        rcases List.mem_cons.1 hp with e | hp
        · rw [e]; exact hxy
        · exact nm_trans hxy (h1 p hp)
theorem look_putN {R : List (Nm × β)} (h : RiseN R) (x : Nm) (m : β) (y : Nm) : look (putN R x m) y = if y = x then some m else look R y := by
  induction R with
  | nil =>
    rw [putN, lookN_cons, lookN_nil]
    by_cases e : y = x
    · subst e; simp
    · rw [if_neg (fun h => e h.symm), if_neg e]
  | cons q R ih =>
    obtain ⟨z, c⟩ := q
    obtain ⟨h1, h2⟩ := List.pairwise_cons.1 h
    unfold putN
    split
    · rename_i hlt
      rw [lookN_cons, lookN_cons, ih h2]
      have hzx : z ≠ x := nm_ne hlt
      by_cases e : z = y
      · subst e
        simp [hzx]
      · simp [e]
    · rename_i hlt
      split
      · rename_i e
        subst e
        rw [lookN_cons, lookN_cons]
        by_cases e : z = y
        · subst e; simp
        · have : ¬ y = z := fun h => e h.symm
          simp [e, this]
      · rename_i hne
        rw [lookN_cons]
        by_cases e : y = x
        · subst e; simp
        · have : ¬ x = y := fun h => e h.symm
          simp [e, this]
theorem rise_del {R : List (Nm × β)} (h : RiseN R) (x : Nm) : RiseN (delA R x) := h.filter _
theorem delA_none {R : List (Nm × β)} {x : Nm} (h : look R x = none) : delA R x = R := List.filter_eq_self.2 fun p hp => by simpa using look_none h p hp
/-! ### under maps -/
def mapN (f : β → γ) (R : List (Nm × β)) : List (Nm × γ) := R.map fun p => (p.1, f p.2)
theorem mapN_put (f : β → γ) (R : List (Nm × β)) (x : Nm) (m : β) : mapN f (putN R x m) = putN (mapN f R) x (f m) := by
  induction R with
  | nil => rfl
  | cons q R ih =>
    obtain ⟨y, c⟩ := q
    unfold putN mapN
    rw [List.map_cons]
    dsimp only
    split
    · rw [List.map_cons]; congr 1
    · split <;> rfl
theorem mapN_del (f : β → γ) (R : List (Nm × β)) (x : Nm) : mapN f (delA R x) = delA (mapN f R) x := by
  unfold mapN delA
  rw [List.filter_map]
  rfl
theorem mapN_look (f : β → γ) (R : List (Nm × β)) (x : Nm) : look (mapN f R) x = (look R x).map f := by
  induction R with
  | nil => rfl
  | cons q R ih =>
    rw [show mapN f (q :: R) = (q.1, f q.2) :: mapN f R from rfl, lookN_cons, lookN_cons, ih]
    split <;> rfl
theorem mapN_rise {f : β → γ} {R : List (Nm × β)} : RiseN (mapN f R) ↔ RiseN R := by
  unfold RiseN mapN
  rw [List.pairwise_map]
theorem mapN_len (f : β → γ) (R : List (Nm × β)) : (mapN f R).length = R.length := by simp [mapN]
theorem mapN_mapN {δ : Type} (f : β → γ) (g : γ → δ) (R : List (Nm × β)) : mapN g (mapN f R) = mapN (fun x => g (f x)) R := by simp [mapN]
theorem mapN_names (f : β → γ) (R : List (Nm × β)) : (mapN f R).map (·.1) = R.map (·.1) := by simp [mapN]
/-! ### as a map's pairs -/
theorem putN_perm {R : List (Nm × β)} (h : RiseN R) (x : Nm) (m : β) : (putA R x m).Perm (putN R x m) :=
  perm_of_look (apart_put h.apart x m) (rise_putN h x m).apart fun y => by rw [look_putA, look_putN h]
theorem len_putN {R : List (Nm × β)} (h : RiseN R) (x : Nm) (m : β) : (putN R x m).length = if (look R x).isSome then R.length else R.length + 1 := by
  rw [← (putN_perm h x m).length_eq, len_putA h.apart]
/-! ### sums -/
def sumN (len : β → Nat) : List (Nm × β) → Nat
  | [] => 0
  | p :: R => len p.2 + sumN len R
theorem sumN_perm (len : β → Nat) {R S : List (Nm × β)} (h : R.Perm S) : sumN len R = sumN len S := by
  induction h with
  | nil => rfl
  | cons x _ ih => simp only [sumN, ih]
  | swap x y l => simp only [sumN]; omega
  | trans _ _ ih1 ih2 => rw [ih1, ih2]
theorem sumN_del (len : β → Nat) {R : List (Nm × β)} (h : R.Pairwise fun p q => p.1 ≠ q.1) (x : Nm) : sumN len (delA R x) + ((look R x).map len).getD 0 = sumN len R := by
  induction R with
  | nil => rfl
  | cons q R ih =>
    obtain ⟨h1, h2⟩ := List.pairwise_cons.1 h
    rw [lookN_cons]
    unfold delA
    rw [List.filter_cons]
    by_cases e : q.1 = x
    · rw [if_neg (by simp [e]), if_pos e]
      have : R.filter (fun p => decide (p.1 ≠ x)) = R := List.filter_eq_self.2 fun p hp => by simpa using fun h3 => h1 p hp (e.trans h3.symm)
      rw [this]
      simp only [sumN, Option.map_some, Option.getD_some]
      omega
    · rw [if_pos (by simpa using e), if_neg e]
      have := ih h2
      unfold delA at this
      simp only [sumN]
      omega
theorem sumN_put (len : β → Nat) {R : List (Nm × β)} (h : RiseN R) (x : Nm) (m : β) : sumN len (putN R x m) + ((look R x).map len).getD 0 = sumN len R + len m := by
  rw [← sumN_perm len (putN_perm h x m)]
  have := sumN_del len h.apart x
  change sumN len ((x, m) :: delA R x) + _ = _
  simp only [sumN]
  omega
theorem sumN_le (len : β → Nat) {R : List (Nm × β)} {x : Nm} {m : β} (h : look R x = some m) : len m ≤ sumN len R := by
  induction R with
  | nil => cases h
  | cons q R ih =>
    rw [lookN_cons] at h
    simp only [sumN]
    split at h
    · injection h with h; rw [h]; omega
    · have := ih h; omega
theorem sumN_map (f : β → γ) (len : γ → Nat) (R : List (Nm × β)) : sumN len (mapN f R) = sumN (fun x => len (f x)) R := by
  induction R with
  | nil => rfl
  | cons q R ih => simp only [mapN, List.map_cons, sumN] at ih ⊢; rw [ih]
/-! ### by index: what the document does -/
theorem rise_at {R : List (Nm × β)} (h : RiseN R) {i j : Nat} {p q : Nm × β} (hij : i < j) (hi : R[i]? = some p) (hj : R[j]? = some q) : p.1 < q.1 := by
  obtain ⟨h1, e1⟩ := List.getElem?_eq_some_iff.1 hi
  obtain ⟨h2, e2⟩ := List.getElem?_eq_some_iff.1 hj
  have := List.pairwise_iff_getElem.1 h i j h1 h2 hij
  rw [e1, e2] at this
  exact this
theorem look_at {R : List (Nm × β)} (h : RiseN R) {k : Nat} {p : Nm × β} (hk : R[k]? = some p) : look R p.1 = some p.2 := find_mem h.apart (List.mem_of_getElem? hk)
theorem look_no {R : List (Nm × β)} {x : Nm} (h : ∀ (i : Nat) (p : Nm × β), R[i]? = some p → p.1 ≠ x) : look R x = none := by
  unfold look
  rw [List.find?_eq_none.2 fun p hp => ?_]
  · rfl
  · obtain ⟨i, hi⟩ := List.getElem?_of_mem hp
    simpa using h i p hi
theorem del_at {R : List (Nm × β)} (h : RiseN R) {k : Nat} {p : Nm × β} (hk : R[k]? = some p) : R.take k ++ R.drop (k + 1) = delA R p.1 := by
  induction R generalizing k with
  | nil => simp at hk
  | cons q R ih =>
    obtain ⟨h1, h2⟩ := List.pairwise_cons.1 h
    unfold delA
    rw [List.filter_cons]
    cases k with
    | zero =>
      simp only [List.getElem?_cons_zero, Option.some.injEq] at hk
      subst hk
      rw [if_neg (by simp)]
      simp only [List.take_zero, List.nil_append, Nat.zero_add, List.drop_succ_cons, List.drop_zero]
      exact (List.filter_eq_self.2 fun p hp => by simpa using fun h3 => nm_ne (h1 p hp) h3.symm).symm
    | succ k =>
      rw [List.getElem?_cons_succ] at hk
      have hlt := h1 p (List.mem_of_getElem? hk)
      rw [if_pos (by simpa using nm_ne hlt), List.take_succ_cons, List.drop_succ_cons, List.cons_append, ih h2 hk]
      rfl
theorem put_at {R : List (Nm × β)} (h : RiseN R) {k : Nat} {x : Nm} {m n : β} (hk : R[k]? = some (x, n)) : R.set k (x, m) = putN R x m := by
  induction R generalizing k with
  | nil => simp at hk
  | cons q R ih =>
    obtain ⟨h1, h2⟩ := List.pairwise_cons.1 h
    obtain ⟨y, c⟩ := q
    unfold putN
    cases k with
    | zero =>
      simp only [List.getElem?_cons_zero, Option.some.injEq, Prod.mk.injEq] at hk
      rw [hk.1, if_neg (nm_irrefl x), if_pos rfl]
      rfl
    | succ k =>
      rw [List.getElem?_cons_succ] at hk
      have hlt := h1 _ (List.mem_of_getElem? hk)
      rw [if_pos hlt, List.set_cons_succ, ih h2 hk]
theorem ins_at {R : List (Nm × β)} (h : RiseN R) {k : Nat} {x : Nm} {m : β} (hl : k ≤ R.length) (hlo : ∀ (i : Nat) (p : Nm × β), i < k → R[i]? = some p → p.1 < x) (hhi : ∀ (p : Nm × β), R[k]? = some p → ¬ p.1 < x) (hno : look R x = none) :
    R.take k ++ (x, m) :: R.drop k = putN R x m := by
  induction R generalizing k with
  | nil =>
    have : k = 0 := by simpa using hl
    subst this
    rfl
  | cons q R ih =>
    obtain ⟨h1, h2⟩ := List.pairwise_cons.1 h
    obtain ⟨y, c⟩ := q
    rw [lookN_cons] at hno
    have hyx : y ≠ x := fun e => by rw [if_pos e] at hno; cases hno
    rw [if_neg hyx] at hno
    unfold putN
    cases k with
    | zero =>
      have := hhi (y, c) rfl
      rw [if_neg this, if_neg hyx]
      rfl
    | succ k =>
      have := hlo 0 (y, c) (by omega) rfl
      rw [if_pos this, List.take_succ_cons, List.drop_succ_cons, List.cons_append, ih h2 (by simpa using hl) (fun i p hi hp => hlo (i + 1) p (by omega) (by simpa using hp)) (fun p hp => hhi p (by simpa using hp)) hno]
end
end Go.Proofs.Ythnbnhlfiehihaa
/- Disks: what a call does (plain). -/
namespace Go.Proofs.Ythnbnhlfiehihaa

/-- a file: its bytes, how many are sure -/
structure DF where
  b : List UInt8
  s : Nat
def DF.nil : DF := ⟨[], 0⟩
def DF.len (f : DF) : Nat := f.b.length
def DF.first (f : DF) (n : Nat) : DF := ⟨f.b.take n, min f.s n⟩
def DF.behind (f : DF) (b : List UInt8) : DF := ⟨f.b ++ b, f.s⟩
def DF.sync (f : DF) : DF := ⟨f.b, f.b.length⟩
abbrev DR := List (Nm × DF)
def usedR (R : DR) : Nat := sumN DF.len R
def mapR (R : DR) (x : Nm) (g : DF → DF) : DR := match look R x with
  | some f => putN R x (g f)
  | none => R
/-- a disk -/
structure DK where
  room : Nat
  calls : Int
  arm : Int
  keep : Int
  off : Bool
  R : DR
structure DK.ok (d : DK) (n : Nat) : Prop where
  room : d.room ≤ 16777216
  rise : RiseN d.R
  sure : ∀ p ∈ d.R, p.2.s ≤ p.2.b.length
  used : usedR d.R ≤ d.room
  arm0 : 0 ≤ d.arm
  arm1 : d.arm ≤ 9223372036854775807
  keep0 : -9223372036854775808 ≤ d.keep
  keep1 : d.keep ≤ 9223372036854775807
  files : (d.R.length : Int) ≤ d.calls
  calls : d.calls ≤ n
def DK.power (d : DK) : DK := if d.off then d else if 0 < d.arm then { d with arm := d.arm - 1, off := decide (d.arm - 1 = 0) } else d
def DK.has (d : DK) (x : Nm) : Bool := (look d.R x).isSome
def DK.roomy (d : DK) (x : Nm) (b : List UInt8) : Bool := d.has x && decide (b.length ≤ d.room - usedR d.R)
def DK.cutK (d : DK) (b : List UInt8) : List UInt8 := b.take d.keep.toNat
/-- a file laid, and a call counted -/
def DK.lay (d : DK) (R : DR) : DK := { d with R := R, calls := d.calls + 1 }
def DK.create (d : DK) (x : Nm) : Nat × DK := if d.power.off then (34, d.power) else if d.has x then (32, d.power) else (0, d.power.lay (putN d.R x DF.nil))
def DK.append (d : DK) (x : Nm) (b : List UInt8) : Nat × DK :=
  if d.power.off then (34, if d.off = false ∧ d.roomy x b = true then { d.power with R := mapR d.R x (·.behind (d.cutK b)) } else d.power)
  else if d.has x = false then (31, d.power) else if d.roomy x b = false then (33, d.power) else (0, d.power.lay (mapR d.R x (·.behind b)))
def DK.sync (d : DK) (x : Nm) : Nat × DK := if d.power.off then (34, d.power) else if d.has x = false then (31, d.power) else (0, d.power.lay (mapR d.R x DF.sync))
def DK.lenOf (d : DK) (x : Nm) : Nat := ((look d.R x).map DF.len).getD 0
def DK.truncate (d : DK) (x : Nm) (n : Int) : Nat × DK :=
  if d.power.off then (34, d.power) else if d.has x = false then (31, d.power) else if n < 0 ∨ (d.lenOf x : Int) < n then (24, d.power) else (0, d.power.lay (mapR d.R x (·.first n.toNat)))
def renR (R : DR) (x y : Nm) : DR := match look R x with
  | some f => putN (delA R x) y f
  | none => R
def DK.rename (d : DK) (x y : Nm) : Nat × DK := if d.power.off then (34, d.power) else if d.has x = false then (31, d.power) else (0, d.power.lay (renR d.R x y))
def DK.remove (d : DK) (x : Nm) : Nat × DK := if d.power.off then (34, d.power) else if d.has x = false then (31, d.power) else (0, d.power.lay (delA d.R x))
def DK.read (d : DK) (x : Nm) : List UInt8 × Bool := if d.off = true ∨ d.has x = false then ([], false) else (((look d.R x).map DF.b).getD [], true)
def DK.sureOf (d : DK) (x : Nm) : Nat := ((look d.R x).map DF.s).getD 0
def DK.names (d : DK) : List Nm := d.R.map (·.1)
def DK.armed (d : DK) (n k : Int) : DK := { d with arm := max n 0, keep := k }
/-- the power gone and given back: of each file's loose bytes as many as the next pick tells -/
def crashR : DR → List Int → DR
  | [], _ => []
  | (x, f) :: R, ps => if f.s < f.b.length then (x, (f.first (f.s + ((ps.headD 0) % ((f.b.length - f.s + 1 : Nat) : Int)).toNat)).sync) :: crashR R ps.tail else (x, f) :: crashR R ps
def DK.crash (d : DK) (ps : List Int) : DK := { d with arm := 0, off := false, R := crashR d.R ps }
def DK.new (room : Int) : DK := ⟨(min (max room 0) 16777216).toNat, 0, 0, 0, false, []⟩

theorem power_R (d : DK) : d.power.R = d.R := by unfold DK.power; split <;> (try split) <;> rfl
theorem power_room (d : DK) : d.power.room = d.room := by unfold DK.power; split <;> (try split) <;> rfl
theorem power_calls (d : DK) : d.power.calls = d.calls := by unfold DK.power; split <;> (try split) <;> rfl
theorem power_keep (d : DK) : d.power.keep = d.keep := by unfold DK.power; split <;> (try split) <;> rfl
theorem DK.ok.power {d : DK} {n : Nat} (h : d.ok n) : d.power.ok n := by
  obtain ⟨h1, h2, h3, h4, h5, h6, h7, h8, h9, h10⟩ := h
  unfold DK.power
  split
  · exact ⟨h1, h2, h3, h4, h5, h6, h7, h8, h9, h10⟩
  · split
    · exact ⟨h1, h2, h3, h4, by show 0 ≤ d.arm - 1; omega, by show d.arm - 1 ≤ _; omega, h7, h8, h9, h10⟩
    · exact ⟨h1, h2, h3, h4, h5, h6, h7, h8, h9, h10⟩
theorem DK.ok.more {d : DK} {n m : Nat} (h : d.ok n) (hm : n ≤ m) : d.ok m := by
  obtain ⟨h1, h2, h3, h4, h5, h6, h7, h8, h9, h10⟩ := h
  exact ⟨h1, h2, h3, h4, h5, h6, h7, h8, h9, by omega⟩
/-- other files -/
theorem DK.ok.withR {d : DK} {n : Nat} (h : d.ok n) {R : DR} (h1 : RiseN R) (h2 : ∀ p ∈ R, p.2.s ≤ p.2.b.length) (h3 : usedR R ≤ d.room) (h4 : R.length ≤ d.R.length) : ({ d with R := R } : DK).ok n := by
  obtain ⟨k1, k2, k3, k4, k5, k6, k7, k8, k9, k10⟩ := h
  exact ⟨k1, h1, h2, h3, k5, k6, k7, k8, by show (R.length : Int) ≤ d.calls; omega, k10⟩
theorem DK.ok.lay {d : DK} {n : Nat} (h : d.ok n) {R : DR} (h1 : RiseN R) (h2 : ∀ p ∈ R, p.2.s ≤ p.2.b.length) (h3 : usedR R ≤ d.room) (h4 : R.length ≤ d.R.length + 1) : (d.lay R).ok (n + 1) := by
  obtain ⟨k1, k2, k3, k4, k5, k6, k7, k8, k9, k10⟩ := h
  exact ⟨k1, h1, h2, h3, k5, k6, k7, k8, by show (R.length : Int) ≤ d.calls + 1; omega, by show d.calls + 1 ≤ _; omega⟩
theorem sure_put {R : DR} (h : ∀ p ∈ R, p.2.s ≤ p.2.b.length) {x : Nm} {f : DF} (hf : f.s ≤ f.b.length) : ∀ p ∈ putN R x f, p.2.s ≤ p.2.b.length := fun p hp => by
  rcases mem_putN hp with e | hp
  · rw [e]; exact hf
  · exact h p hp
theorem used_put {R : DR} (h : RiseN R) (x : Nm) (f : DF) : usedR (putN R x f) + ((look R x).map DF.len).getD 0 = usedR R + f.b.length := sumN_put DF.len h x f
theorem used_del {R : DR} (h : RiseN R) (x : Nm) : usedR (delA R x) + ((look R x).map DF.len).getD 0 = usedR R := sumN_del DF.len h.apart x
theorem sure_look {R : DR} (h : ∀ p ∈ R, p.2.s ≤ p.2.b.length) {x : Nm} {f : DF} (hf : look R x = some f) : f.s ≤ f.b.length := h (x, f) (look_mem hf)
/-- a file turned into one that takes at most k bytes more -/
theorem mapR_facts {R : DR} (hr : RiseN R) (hs : ∀ p ∈ R, p.2.s ≤ p.2.b.length) (x : Nm) (g : DF → DF) (k : Nat) (hg : ∀ f, f.s ≤ f.b.length → (g f).s ≤ (g f).b.length ∧ (g f).b.length ≤ f.b.length + k) :
    RiseN (mapR R x g) ∧ (∀ p ∈ mapR R x g, p.2.s ≤ p.2.b.length) ∧ usedR (mapR R x g) ≤ usedR R + k ∧ (mapR R x g).length = R.length := by
  unfold mapR
  cases hl : look R x with
  | none => exact ⟨hr, hs, Nat.le_add_right _ _, rfl⟩
  | some f =>
    obtain ⟨h1, h2⟩ := hg f (sure_look hs hl)
    refine ⟨rise_putN hr _ _, sure_put hs h1, ?_, ?_⟩
    · have := used_put hr x (g f)
      rw [hl] at this
      simp only [Option.map_some, Option.getD_some, DF.len] at this
      show usedR (putN R x (g f)) ≤ _
      omega
    · show (putN R x (g f)).length = _
      rw [len_putN hr, hl]
      rfl
theorem ren_facts {R : DR} (hr : RiseN R) (hs : ∀ p ∈ R, p.2.s ≤ p.2.b.length) (x y : Nm) :
    RiseN (renR R x y) ∧ (∀ p ∈ renR R x y, p.2.s ≤ p.2.b.length) ∧ usedR (renR R x y) ≤ usedR R ∧ (renR R x y).length ≤ R.length + 1 := by
  unfold renR
  cases hl : look R x with
  | none => exact ⟨hr, hs, Nat.le_refl _, Nat.le_add_right _ _⟩
  | some f =>
    refine ⟨rise_putN (rise_del hr x) _ _, sure_put (fun p hp => hs p (List.mem_filter.1 hp).1) (sure_look hs hl), ?_, ?_⟩
    · have h1 := used_put (rise_del hr x) y f
      have h2 := used_del hr x
      rw [hl] at h2
      simp only [Option.map_some, Option.getD_some, DF.len] at h2
      show usedR (putN (delA R x) y f) ≤ _
      omega
    · show (putN (delA R x) y f).length ≤ _
      rw [len_putN (rise_del hr x)]
      have : (delA R x).length ≤ R.length := List.length_filter_le _ _
      split <;> omega
theorem del_facts {R : DR} (hr : RiseN R) (hs : ∀ p ∈ R, p.2.s ≤ p.2.b.length) (x : Nm) :
    RiseN (delA R x) ∧ (∀ p ∈ delA R x, p.2.s ≤ p.2.b.length) ∧ usedR (delA R x) ≤ usedR R ∧ (delA R x).length ≤ R.length :=
  ⟨rise_del hr x, fun p hp => hs p (List.mem_filter.1 hp).1, by have := used_del hr x; omega, List.length_filter_le _ _⟩
theorem first_ok (f : DF) (n : Nat) : (f.first n).s ≤ (f.first n).b.length ∨ f.b.length < f.s := by
  simp only [DF.first, List.length_take]; omega
theorem crash_names : ∀ (R : DR) (ps : List Int), (crashR R ps).map (·.1) = R.map (·.1)
  | [], _ => rfl
  | (x, f) :: R, ps => by
    unfold crashR
    split <;> rw [List.map_cons, List.map_cons, crash_names R]
theorem crash_len (R : DR) (ps : List Int) : (crashR R ps).length = R.length := by
  have := congrArg List.length (crash_names R ps)
  simpa using this
theorem rise_names {β : Type} {R : List (Nm × β)} : RiseN R ↔ (R.map (·.1)).Pairwise (· < ·) := by
  unfold RiseN
  rw [List.pairwise_map]
theorem crash_rise {R : DR} (h : RiseN R) (ps : List Int) : RiseN (crashR R ps) := by
  rw [rise_names, crash_names, ← rise_names]; exact h
theorem crash_sure : ∀ (R : DR) (ps : List Int), (∀ p ∈ R, p.2.s ≤ p.2.b.length) → ∀ p ∈ crashR R ps, p.2.s = p.2.b.length
  | [], _, _, p, hp => by simp [crashR] at hp
  | (x, f) :: R, ps, h, p, hp => by
    have h0 := h (x, f) (by simp)
    unfold crashR at hp
    split at hp
    · rcases List.mem_cons.1 hp with e | hp
      · rw [e]; rfl
      · exact crash_sure R _ (fun q hq => h q (by simp [hq])) p hp
    · rename_i hn
      rcases List.mem_cons.1 hp with e | hp
      · rw [e]; dsimp only at h0 hn ⊢; omega
      · exact crash_sure R _ (fun q hq => h q (by simp [hq])) p hp
theorem crash_used : ∀ (R : DR) (ps : List Int), usedR (crashR R ps) ≤ usedR R
  | [], _ => Nat.le_refl _
  | (x, f) :: R, ps => by
    unfold crashR
    split
    · have := crash_used R ps.tail
      simp only [usedR, sumN, DF.len, DF.sync, DF.first, List.length_take] at this ⊢
      omega
    · have := crash_used R ps
      simp only [usedR, sumN] at this ⊢
      omega
theorem DK.ok.crash {d : DK} {n : Nat} (h : d.ok n) (ps : List Int) : (d.crash ps).ok n := by
  obtain ⟨k1, k2, k3, k4, k5, k6, k7, k8, k9, k10⟩ := h
  exact ⟨k1, crash_rise k2 ps, fun p hp => Nat.le_of_eq (crash_sure d.R ps k3 p hp), Nat.le_trans (crash_used d.R ps) k4, Int.le_refl 0, by show (0 : Int) ≤ _; omega, k7, k8, by show ((crashR d.R ps).length : Int) ≤ _; rw [crash_len]; exact k9, k10⟩
theorem DK.ok.armed {d : DK} {n : Nat} (h : d.ok n) {m k : Int} (hm : m ≤ 9223372036854775807) (hk : -9223372036854775808 ≤ k) (hk2 : k ≤ 9223372036854775807) : (d.armed m k).ok n := by
  obtain ⟨k1, k2, k3, k4, k5, k6, k7, k8, k9, k10⟩ := h
  exact ⟨k1, k2, k3, k4, by show 0 ≤ max m 0; omega, by show max m 0 ≤ _; omega, hk, hk2, k9, k10⟩
theorem DK.ok.new (room : Int) : (DK.new room).ok 0 :=
  ⟨by show (min (max room 0) 16777216).toNat ≤ _; omega, List.Pairwise.nil, fun p hp => (List.not_mem_nil hp).elim, Nat.zero_le _, Int.le_refl _, (by decide : (0 : Int) ≤ 9223372036854775807), (by decide : (-9223372036854775808 : Int) ≤ 0), (by decide : (0 : Int) ≤ 9223372036854775807), Int.le_refl _, Int.le_refl _⟩
theorem DK.ok.create {d : DK} {n : Nat} (h : d.ok n) (x : Nm) : (d.create x).2.ok (n + 1) := by
  unfold DK.create
  split
  · exact h.power.more (by omega)
  · split
    · exact h.power.more (by omega)
    · rename_i hh
      refine h.power.lay (rise_putN h.rise _ _) (sure_put h.sure (Nat.le_refl 0)) ?_ ?_
      · rw [power_room]
        have h1 := used_put h.rise x DF.nil
        have h2 := h.used
        simp only [DF.nil, List.length_nil] at h1
        exact Nat.le_trans (by show usedR (putN d.R x ⟨[], 0⟩) ≤ usedR d.R; omega) h2
      · rw [power_R, len_putN h.rise]
        split <;> omega
theorem DK.ok.append {d : DK} {n : Nat} (h : d.ok n) (x : Nm) (b : List UInt8) : (d.append x b).2.ok (n + 1) := by
  have key : ∀ c : List UInt8, c.length ≤ b.length → d.roomy x b = true → RiseN (mapR d.R x (·.behind c)) ∧ (∀ p ∈ mapR d.R x (·.behind c), p.2.s ≤ p.2.b.length) ∧ usedR (mapR d.R x (·.behind c)) ≤ d.room ∧ (mapR d.R x (·.behind c)).length = d.R.length := by
    intro c hc hr
    obtain ⟨h1, h2, h3, h4⟩ := mapR_facts h.rise h.sure x (·.behind c) c.length (fun f hf => by simp only [DF.behind, List.length_append]; omega)
    refine ⟨h1, h2, ?_, h4⟩
    simp only [DK.roomy, Bool.and_eq_true, decide_eq_true_eq] at hr
    have := h.used
    omega
  unfold DK.append
  split
  · show (if _ then _ else _ : DK).ok _
    split
    · rename_i hc
      obtain ⟨h1, h2, h3, h4⟩ := key (d.cutK b) (by simp only [DK.cutK, List.length_take]; omega) hc.2
      exact (h.power.withR h1 h2 (by rw [power_room]; exact h3) (by rw [power_R]; omega)).more (by omega)
    · exact h.power.more (by omega)
  · split
    · exact h.power.more (by omega)
    · split
      · exact h.power.more (by omega)
      · rename_i hr
        obtain ⟨h1, h2, h3, h4⟩ := key b (Nat.le_refl _) (by simpa using hr)
        exact h.power.lay h1 h2 (by rw [power_room]; exact h3) (by rw [power_R]; omega)
theorem DK.ok.sync {d : DK} {n : Nat} (h : d.ok n) (x : Nm) : (d.sync x).2.ok (n + 1) := by
  unfold DK.sync
  split
  · exact h.power.more (by omega)
  · split
    · exact h.power.more (by omega)
    · obtain ⟨h1, h2, h3, h4⟩ := mapR_facts h.rise h.sure x DF.sync 0 (fun f _ => ⟨Nat.le_refl _, Nat.le_refl _⟩)
      exact h.power.lay h1 h2 (by rw [power_room]; have := h.used; omega) (by rw [power_R]; omega)
theorem DK.ok.truncate {d : DK} {n : Nat} (h : d.ok n) (x : Nm) (k : Int) : (d.truncate x k).2.ok (n + 1) := by
  unfold DK.truncate
  split
  · exact h.power.more (by omega)
  · split
    · exact h.power.more (by omega)
    · split
      · exact h.power.more (by omega)
      · obtain ⟨h1, h2, h3, h4⟩ := mapR_facts h.rise h.sure x (·.first k.toNat) 0 (fun f hf => by simp only [DF.first, List.length_take]; omega)
        exact h.power.lay h1 h2 (by rw [power_room]; have := h.used; omega) (by rw [power_R]; omega)
theorem DK.ok.rename {d : DK} {n : Nat} (h : d.ok n) (x y : Nm) : (d.rename x y).2.ok (n + 1) := by
  unfold DK.rename
  split
  · exact h.power.more (by omega)
  · split
    · exact h.power.more (by omega)
    · obtain ⟨h1, h2, h3, h4⟩ := ren_facts h.rise h.sure x y
      exact h.power.lay h1 h2 (by rw [power_room]; have := h.used; omega) (by rw [power_R]; omega)
theorem DK.ok.remove {d : DK} {n : Nat} (h : d.ok n) (x : Nm) : (d.remove x).2.ok (n + 1) := by
  unfold DK.remove
  split
  · exact h.power.more (by omega)
  · split
    · exact h.power.more (by omega)
    · obtain ⟨h1, h2, h3, h4⟩ := del_facts h.rise h.sure x
      exact h.power.lay h1 h2 (by rw [power_room]; have := h.used; omega) (by rw [power_R]; omega)
end Go.Proofs.Ythnbnhlfiehihaa
/- Slices of slices of bytes; bytes.Clone. -/
namespace Go.Proofs.Ythnbnhlfiehihaa
open Go.RowKit

/-- a slice whose elements are slices of bytes -/
def Mat (w : World) (A : Option Addr) (ls : List (List UInt8)) : Prop := ∃ vs : List Value, Sl w w.heap.size A vs ∧ vs.length = ls.length ∧ ∀ (i : Nat) (v : Value), vs[i]? = some v → SlcIs w v (ls[i]?.getD [])
theorem Mat.below {w w' : World} {A : Option Addr} {ls : List (List UInt8)} (h : Mat w A ls) (hb : Below w.heap.size w w') : Mat w' A ls := by
  obtain ⟨vs, h1, h2, h3⟩ := h
  exact ⟨vs, (h1.below hb).more hb.size, h2, fun i v hv => (h3 i v hv).below hb⟩
theorem Mat.drew {w : World} {A : Option Addr} {ls : List (List UInt8)} (h : Mat w A ls) : Mat w.drew A ls := h.below (Below.refl _ _).drew
theorem Mat.nil (w : World) (A : Option Addr) : Mat w A [] := ⟨[], Sl.nil, rfl, fun i v h => by simp at h⟩
theorem SlcIs.alloc {w : World} {x : Value} {l : List UInt8} (h : SlcIs w x l) (o : Obj) : SlcIs (w.alloc o) x l := h.below ((Below.refl _ _).alloc (Nat.le_refl _) o)
theorem SlcIs.drew {w : World} {x : Value} {l : List UInt8} (h : SlcIs w x l) : SlcIs w.drew x l := h
theorem Mat.one (w : World) (t : TypeId) (v : Value) (l : List UInt8) (h : SlcIs w v l) : Mat (w.alloc (.cells #[v] t)) (some ⟨w.heap.size, 0, none⟩) [l] := by
  refine ⟨[v], by simpa using Sl.new w t #[v] (0, 0), rfl, fun i u hu => ?_⟩
  match i, hu with
  | 0, hu => simp at hu; subst hu; exact h.alloc _
  | i + 1, hu => simp at hu
theorem Mat.row (w : World) (t : TypeId) (vs : Array Value) (ls : List (List UInt8)) (hl : vs.toList.length = ls.length) (h : ∀ (i : Nat) (v : Value), vs.toList[i]? = some v → SlcIs w v (ls[i]?.getD [])) : Mat (w.alloc (.cells vs t)) (some ⟨w.heap.size, 0, none⟩) ls :=
  ⟨vs.toList, by simpa using Sl.new w t vs (0, 0), hl, fun i v hv => (h i v hv).alloc _⟩
theorem Mat.two (w : World) (t : TypeId) (v1 v2 : Value) (l1 l2 : List UInt8) (h1 : SlcIs w v1 l1) (h2 : SlcIs w v2 l2) : Mat (w.alloc (.cells #[v1, v2] t)) (some ⟨w.heap.size, 0, none⟩) [l1, l2] := by
  refine Mat.row w t #[v1, v2] [l1, l2] rfl fun i v hv => ?_
  match i, hv with
  | 0, hv => simp at hv; subst hv; exact h1
  | 1, hv => simp at hv; subst hv; exact h2
  | i + 2, hv => simp at hv
theorem Mat.three (w : World) (t : TypeId) (v1 v2 v3 : Value) (l1 l2 l3 : List UInt8) (h1 : SlcIs w v1 l1) (h2 : SlcIs w v2 l2) (h3 : SlcIs w v3 l3) : Mat (w.alloc (.cells #[v1, v2, v3] t)) (some ⟨w.heap.size, 0, none⟩) [l1, l2, l3] := by
  refine Mat.row w t #[v1, v2, v3] [l1, l2, l3] rfl fun i v hv => ?_
  match i, hv with
  | 0, hv => simp at hv; subst hv; exact h1
  | 1, hv => simp at hv; subst hv; exact h2
  | 2, hv => simp at hv; subst hv; exact h3
  | i + 3, hv => simp at hv
theorem Mat.four (w : World) (t : TypeId) (v1 v2 v3 v4 : Value) (l1 l2 l3 l4 : List UInt8) (h1 : SlcIs w v1 l1) (h2 : SlcIs w v2 l2) (h3 : SlcIs w v3 l3) (h4 : SlcIs w v4 l4) : Mat (w.alloc (.cells #[v1, v2, v3, v4] t)) (some ⟨w.heap.size, 0, none⟩) [l1, l2, l3, l4] := by
  refine Mat.row w t #[v1, v2, v3, v4] [l1, l2, l3, l4] rfl fun i v hv => ?_
  match i, hv with
  | 0, hv => simp at hv; subst hv; exact h1
  | 1, hv => simp at hv; subst hv; exact h2
  | 2, hv => simp at hv; subst hv; exact h3
  | 3, hv => simp at hv; subst hv; exact h4
  | i + 4, hv => simp at hv
theorem SlcIs.mark (w : World) (l : List UInt8) (cs : Array Value) (n : Nat) (fr : Nat × Nat) (hn : n = l.length) (hcs : cs.toList = bv l) (hm : l.length ≤ 1000) : SlcIs (w.alloc (.cells cs 5 fr)) (.slice (some ⟨w.heap.size, 0, none⟩) n n) l := by
  subst hn
  have := Sl.new w 5 cs fr
  rw [hcs] at this
  exact ⟨_, _, rfl, this.more (by simp), Nat.le_refl _, by simp only [maxLen]; omega⟩
theorem Mat.at_ {w : World} {A : Option Addr} {ls : List (List UInt8)} (h : Mat w A ls) {k : Nat} (hk : k < ls.length) :
    ∃ b o A' c', A = some ⟨b, o, none⟩ ∧ b < w.heap.size ∧ w.cell? ⟨b, o + k, none⟩ = some (.slice A' (ls[k]?.getD []).length c') ∧ Sl w w.heap.size A' (bv (ls[k]?.getD [])) ∧ (ls[k]?.getD []).length ≤ c' ∧ c' ≤ maxLen := by
  obtain ⟨vs, h1, h2, h3⟩ := h
  obtain ⟨b, o, e, hb, _, hc⟩ := h1.at_ (k := k) (by omega)
  have hv : vs[k]? = some (vs[k]'(by omega)) := List.getElem?_eq_getElem (by omega)
  obtain ⟨A', c', e', g1, g2, g3⟩ := h3 k _ hv
  exact ⟨b, o, A', c', e, hb, by rw [hc k _ hv, e'], g1, g2, g3⟩

set_option maxRecDepth 100000 in
set_option maxHeartbeats 800000 in
theorem Clone_any (w : World) (B : Nat) (A : Option Addr) (n c : Nat) (l : List UInt8) (hb : Sl w B A (bv l)) (h0 : n = l.length) (hl : l.length ≤ 140737488355328) :
    Calls Try.prog 32 #[.slice A n c] w (Fresh w l) := by
  subst h0
  rcases A with _ | ad
  · have hl0 : l = [] := by
      rcases hb with h | ⟨b, o, e, _⟩
      · simpa [bv] using h
      · cases e
    subst hl0
    have hnil := fun W => Lib.run_eql_slice_nil (P := Try.prog) W 22 5 none 0 c 0 0 Try.underlying22
    go_enter Try.func32, Try.ntmps32
    go_wp2_with fail
    go_ret
    exact ⟨none, 0, rfl, OwnB.nil _ _, Below.refl _ _⟩
  · have hnil := fun W => Lib.run_eql_slice_nil (P := Try.prog) W 22 5 (some ad) l.length c 0 0 Try.underlying22
    go_enter Try.func32, Try.ntmps32
    go_wp2_with (at_builtin; refine app rfl rfl (OwnB.lit w w.heap.size [] (Nat.le_refl _) (by simp [maxLen])) (hb.alloc _) rfl rfl rfl (by simpa using hl) (by simp) ?_; intro s2 w2 hown2 hg2 hat2)
    have hb2 : Below w.heap.size w w2 := own_below ((Below.refl _ _).alloc (Nat.le_refl _) _) (by simp) (OwnB.lit w w.heap.size [] (Nat.le_refl _) (by simp [maxLen])) hg2
    rw [List.nil_append] at hown2
    obtain ⟨A2, c2, rfl, _⟩ := hown2.form
    go_wp2_with fail
    go_ret
    exact ⟨A2, c2, rfl, hown2, hb2⟩
end Go.Proofs.Ythnbnhlfiehihaa
/- A block whose cells are known, one by one. -/
namespace Go.Proofs.Ythnbnhlfiehihaa
open Go.RowKit

def At (w : World) (g : Nat) (vs : List Value) : Prop := g < w.heap.size ∧ ∀ i v, vs[i]? = some v → w.cell? ⟨g, i, none⟩ = some v ∧ w.frozen? ⟨g, i, none⟩ = false
section
variable {w w' : World} {g g' : Nat} {vs us : List Value}
theorem At.lt (h : At w g vs) : g < w.heap.size := h.1
theorem At.c (h : At w g vs) (i : Nat) {v : Value} (hv : vs[i]? = some v) : w.cell? ⟨g, i, none⟩ = some v := (h.2 i v hv).1
theorem At.f (h : At w g vs) (i : Nat) {v : Value} (hv : vs[i]? = some v) : w.frozen? ⟨g, i, none⟩ = false := (h.2 i v hv).2
theorem At.e (h : At w g vs) (i : Nat) {v : Value} (hv : vs[i]? = some v) : ∀ W, KB w.heap W → W.cell? ⟨g, i, none⟩ = some v := cellB (h.c i hv)
theorem At.belowB {B : Nat} (h : At w g vs) (hg : g < B) (hb : Below B w w') (hs : w.heap.size ≤ w'.heap.size) : At w' g vs :=
  ⟨Nat.lt_of_lt_of_le h.1 hs, fun i _v hv => ⟨(hb.cell hg).trans (h.c i hv), (hb.frozen hg).trans (h.f i hv)⟩⟩
theorem At.below (h : At w g vs) (hb : Below w.heap.size w w') : At w' g vs := h.belowB h.1 hb hb.size
theorem At.drew (h : At w g vs) : At w.drew g vs := h
theorem At.alloc (h : At w g vs) (o : Obj) : At (w.alloc o) g vs := h.below (balloc (Below.refl _ _) o)
theorem At.new (w : World) (t : TypeId) (cs : Array Value) : At (w.alloc (.cells cs t)) w.heap.size cs.toList := by
  refine ⟨by simp, fun i v hv => ?_⟩
  obtain ⟨b, o, e, _, _, h⟩ := (Sl.new w t cs (0, 0)).at_ (k := i) (List.getElem?_eq_some_iff.1 hv).1
  cases e
  have := h i v hv
  rw [Nat.zero_add] at this
  exact ⟨this, by rw [frozen?_alloc_cells]; simp [World.frozen?]⟩
theorem At.set_other (h : At w g vs) (o : Nat) (v : Value) (hne : g' ≠ g) : At (w.setCell ⟨g', o, none⟩ v) g vs := by
  refine ⟨by simpa using h.1, fun i u hu => ⟨?_, ?_⟩⟩
  · rw [World.cell?_setCell_other _ _ _ _ (by intro e; injection e with e1 _; exact hne e1)]
    exact h.c i hu
  · have : (w.setCell ⟨g', o, none⟩ v).frozen? ⟨g, i, none⟩ = w.frozen? ⟨g, i, none⟩ := World.frozen?_setCells g' [v] o w _
    rw [this]; exact h.f i hu
theorem At.set (h : At w g vs) (o : Nat) (v : Value) (ho : o < vs.length) : At (w.setCell ⟨g, o, none⟩ v) g (vs.set o v) := by
  have hf : ∀ x, (w.setCell ⟨g, o, none⟩ v).frozen? x = w.frozen? x := fun x => World.frozen?_setCells g [v] o w x
  refine ⟨by simpa using h.1, fun i u hu => ?_⟩
  by_cases hi : o = i
  · subst hi
    rw [List.getElem?_set_self ho] at hu
    cases hu
    refine ⟨World.cell?_setCell_same _ _ _ (h.c o (List.getElem?_eq_getElem ho)), ?_⟩
    rw [hf]; exact h.f o (List.getElem?_eq_getElem ho)
  · rw [List.getElem?_set_ne hi] at hu
    refine ⟨?_, by rw [hf]; exact h.f i hu⟩
    rw [World.cell?_setCell_other _ _ _ _ (by intro e; injection e with _ e2; exact hi e2)]
    exact h.c i hu
/-- cells stored one behind another -/
def putL (w : World) (g : Nat) : Nat → List Value → World
  | _, [] => w
  | i, v :: vs => putL (w.setCell ⟨g, i, none⟩ v) g (i + 1) vs
theorem At.putL_other : ∀ (us : List Value) (o : Nat) (w : World), At w g vs → g' ≠ g → At (putL w g' o us) g vs
  | [], _, _, h, _ => h
  | u :: us, o, _w, h, hne => At.putL_other us (o + 1) _ (h.set_other o u hne) hne
theorem At.putL_at : ∀ (us pre : List Value) (w : World) (rest : List Value), At w g (pre ++ rest) → us.length = rest.length → At (putL w g pre.length us) g (pre ++ us)
  | [], pre, w, rest, h, hl => by
    have : rest = [] := List.eq_nil_of_length_eq_zero (by simpa using hl.symm)
    subst this
    exact h
  | u :: us, pre, w, [], h, hl => by simp at hl
  | u :: us, pre, w, r :: rest, h, hl => by
    have h1 := h.set pre.length u (by simp)
    rw [List.set_append, if_neg (by omega), Nat.sub_self, List.set_cons_zero] at h1
    have h2 := At.putL_at us (pre ++ [u]) (w.setCell ⟨g, pre.length, none⟩ u) rest (by simpa using h1) (by simpa using hl)
    simpa [putL] using h2
theorem At.putL (h : At w g vs) (us : List Value) (hl : us.length = vs.length) : At (putL w g 0 us) g us := by
  simpa using At.putL_at us [] w vs h hl
theorem At.grown (h : At w g vs) {row : Option Nat} (hg : w.grownBy w' row) (hne : row ≠ some g) : At w' g vs := by
  have hb := hg.block g h.1 (fun e => hne e.symm)
  exact ⟨Nat.lt_of_lt_of_le h.1 hg.size, fun i v hv => ⟨(World.cell?_of_block (w := w) hb).trans (h.c i hv), (World.frozen?_of_block (w := w) hb).trans (h.f i hv)⟩⟩
end
theorem below_putL : ∀ (us : List Value) (o : Nat) {B : Nat} {a w : World} (_ : Below B a w) {g : Nat} (_ : B ≤ g), Below B a (putL w g o us)
  | [], _, _, _, _, h, _, _ => h
  | u :: us, o, _, _, _, h, _, hg => below_putL us (o + 1) (h.setCell hg u) hg
theorem putL_size : ∀ (us : List Value) (o : Nat) (w : World) (g : Nat), (putL w g o us).heap.size = w.heap.size
  | [], _, _, _ => rfl
  | u :: us, o, w, g => by simp [putL, putL_size us]
theorem grown_putL : ∀ (us : List Value) (o : Nat) {w w' : World} {g : Nat} (_ : w.grownBy w' (some g)) {g' : Nat} (_ : g' = g ∨ w.heap.size ≤ g'), w.grownBy (putL w' g' o us) (some g)
  | [], _, _, _, _, h, _, _ => h
  | u :: us, o, w, w', g, h, g', hg => by
    refine grown_putL us (o + 1) (w' := w'.setCell ⟨g', o, none⟩ u) ?_ hg
    refine ⟨h.os, h.tape, h.output, by simpa using h.size, fun k hk hne => ?_⟩
    have hk' : k ≠ g' := by
      rcases hg with rfl | hg
      · intro e; exact hne (by rw [e])
      · omega
    rw [Below.heap_setCell _ _ _ _ hk']
    exact h.block k hk hne
theorem At.newB {B : Nat} {a W : World} (_ : Below B a W) (t : TypeId) (cs : Array Value) : At (W.alloc (.cells cs t)) W.heap.size cs.toList := At.new W t cs
theorem At.sl {w : World} {g : Nat} {vs : List Value} (h : At w g vs) : Sl w w.heap.size (some ⟨g, 0, none⟩) vs := by
  refine .inr ⟨g, 0, rfl, h.1, h.1, fun j u hu => ?_⟩
  rw [Nat.zero_add]
  exact h.c j hu
theorem At.slb {w : World} {g : Nat} {vs : List Value} (h : At w g vs) {l : List UInt8} (hl : vs = bv l) : Sl w w.heap.size (some ⟨g, 0, none⟩) (bv l) := hl ▸ h.sl
theorem own_above {w : World} {base g : Nat} {v : Value} {l : List UInt8} (h : OwnB w base v l) (hlt : g < base) : v.ownBlock ≠ some g := by
  intro e
  have := (h.lt _ e).1
  omega
theorem own_ne {w : World} {base : Nat} {v : Value} {l : List UInt8} (h : OwnB w base v l) : v.ownBlock ≠ some w.heap.size := by
  intro e
  have := (h.lt _ e).2
  omega
end Go.Proofs.Ythnbnhlfiehihaa
/- A region that draws its order, held by whatever is said of memory. -/
namespace Go.Proofs.Ythnbnhlfiehihaa
open Go.RowKit

def AtS (g : Nat) (vs : List Value) (W : World) : Prop := At W g vs
theorem AtS.e {g : Nat} {vs : List Value} (i : Nat) {v : Value} (hv : vs[i]? = some v) : ∀ W, AtS g vs W → W.cell? ⟨g, i, none⟩ = some v := fun _ h => h.c i hv
def wpS (P : Program) (ops : Array Oper) (Q : Exit → Act → World → Prop) (S : World → Prop) (fuel : Nat) (listed : Array Bool) (a : Act) (w : World) : Prop := wpAnyH P .any ops Q S fuel listed a w
section
variable {P : Program} {ops : Array Oper} {Q : Exit → Act → World → Prop}
theorem bstartS (S : World → Prop) {id : Nat} {a : Act} {w : World} (hm : P.follows .mixedOrders = true) (hh : wpS P ops Q S ops.size (Array.replicate ops.size false) a w.drew) : (Code.region id ops true).wp P Q a w := wp_region_held hm hh
theorem btakeS (i : Nat) {oi : Oper} {v : Value} {S : World → Prop} {fuel : Nat} {listed : Array Bool} {a : Act} {w : World} (hi : ops[i]? = some oi) (hok : okTake ops listed i = true)
    (hQ : ∀ c a w, Q (.panic c) (a.put oi.dst v) w → Q (.panic c) a w) (hS : S w)
    (hy : (Region.wanted oi (yielded ops a.tmps) = true ∧ ∀ W, S W → (execOp a.eval oi).run P W = .ok (.value v) W) ∨ (Region.wanted oi (yielded ops a.tmps) = false ∧ v = undef))
    (hr : wpS P ops Q S fuel (listed.setIfInBounds i true) (a.put oi.dst v) w) : wpS P ops Q S (fuel + 1) listed a w := by
  simp only [okTake, Bool.and_eq_true] at hok
  exact wpAnyH_take hi hok.1.1 hok.1.2 hok.2 hQ hy hS hr
theorem bopS (i : Nat) {o : Oper} {S : World → Prop} {fuel : Nat} {listed : Array Bool} {a : Act} {w : World} (hi : ops[i]? = some o) (hok : okOp ops listed i = true)
    (hw : Region.wanted o (yielded ops a.tmps) = true)
    (hr : ∀ K : Act → World → Prop, Shut (∀ a' w', S w' → wpS P ops Q S fuel (listed.setIfInBounds i true) a' w' → K a' w') → o.wp P a w K Q) : wpS P ops Q S (fuel + 1) listed a w := by
  have hok' : Region.ready .any ops listed = [i] := by simpa [okOp] using hok
  refine wpAnyH_all hok' (by simp) fun j hj => ?_
  obtain rfl : j = i := by simpa using hj
  unfold wpOp
  simp only [hi, hw, if_true]
  exact .inl (hr _ (fun a' w' hk hb => ⟨hk, hb⟩))
theorem bdoneS {S : World → Prop} {fuel : Nat} {listed : Array Bool} {a : Act} {w : World} (hr : Region.ready .any ops listed = []) (hq : Q .normal a w) : wpS P ops Q S fuel listed a w := wpAnyH_done hr hq fuel
end
end Go.Proofs.Ythnbnhlfiehihaa
/- Stamps as values, and as cells of memory. -/
namespace Go.Proofs.Ythnbnhlfiehihaa
open Go.RowKit

/-- a stamp, whatever is in it -/
structure S3 where
  p : Int
  l : Int
  r : Int
deriving DecidableEq
def S3.v (s : S3) : Value := .agg #[.int .i64 s.p, .int .i64 s.l, .int .i64 s.r]
def i64ok (a : Int) : Prop := -9223372036854775808 ≤ a ∧ a ≤ 9223372036854775807
def S3.ok (s : S3) : Prop := i64ok s.p ∧ i64ok s.l ∧ i64ok s.r
def S3.right (s : S3) : Bool := decide (0 ≤ s.p ∧ s.p ≤ 281474976710655 ∧ 0 ≤ s.l ∧ s.l ≤ 65535 ∧ 0 ≤ s.r ∧ s.r < 64)
def S3.lt (a b : S3) : Bool := decide (a.p < b.p ∨ a.p = b.p ∧ (a.l < b.l ∨ a.l = b.l ∧ a.r < b.r))
def cmp3 (a b : Int) : Int := if a < b then -1 else if b < a then 1 else 0
def or3 (a b c : Int) : Int := if a ≠ 0 then a else if b ≠ 0 then b else c
theorem ret_b {a b : Bool} (h : a = b) : Ending.returned (.bool a) = .returned (.bool b) := by rw [h]
theorem ret_i {k : IntKind} {a b : Int} (h : a = b) : Ending.returned (.int k a) = .returned (.int k b) := by rw [h]
theorem or_cmp (a b : S3) : decide (or3 (cmp3 a.p b.p) (cmp3 a.l b.l) (cmp3 a.r b.r) < 0) = a.lt b := by
  unfold or3 cmp3 S3.lt
  rw [decide_eq_decide]
  (repeat' split) <;> omega
theorem cell3 (w : World) (t : TypeId) (a b c : Value) : (w.alloc (.cells #[a, b, c] t)).cell? ⟨w.heap.size, 0, none⟩ = some a ∧ (w.alloc (.cells #[a, b, c] t)).cell? ⟨w.heap.size, 1, none⟩ = some b ∧ (w.alloc (.cells #[a, b, c] t)).cell? ⟨w.heap.size, 2, none⟩ = some c := by
  obtain ⟨b', o, e, _, _, h⟩ := (Sl.new w t #[a, b, c] (0, 0)).at_ (k := 0) (by simp)
  cases e
  exact ⟨h 0 a rfl, h 1 b rfl, h 2 c rfl⟩
def Stands (w : World) (g : Nat) (s : S3) : Prop := g < w.heap.size ∧ w.cell? ⟨g, 0, none⟩ = some (.int .i64 s.p) ∧ w.cell? ⟨g, 1, none⟩ = some (.int .i64 s.l) ∧ w.cell? ⟨g, 2, none⟩ = some (.int .i64 s.r) ∧ w.frozen? ⟨g, 0, none⟩ = false ∧ w.frozen? ⟨g, 1, none⟩ = false ∧ w.frozen? ⟨g, 2, none⟩ = false
theorem Stands.below {w w' : World} {g : Nat} {s : S3} (h : Stands w g s) (hb : Below w.heap.size w w') : Stands w' g s := by
  obtain ⟨h1, h2, h3, h4, h5, h6, h7⟩ := h
  exact ⟨Nat.lt_of_lt_of_le h1 hb.size, (hb.cell h1).trans h2, (hb.cell h1).trans h3, (hb.cell h1).trans h4, (hb.frozen h1).trans h5, (hb.frozen h1).trans h6, (hb.frozen h1).trans h7⟩
theorem Stands.alloc {w : World} {g : Nat} {s : S3} (h : Stands w g s) (o : Obj) : Stands (w.alloc o) g s := h.below (balloc (Below.refl _ _) o)
theorem Stands.new (w : World) (t : TypeId) (s : S3) : Stands (w.alloc (.cells #[.int .i64 s.p, .int .i64 s.l, .int .i64 s.r] t)) w.heap.size s := by
  obtain ⟨h1, h2, h3⟩ := cell3 w t (.int .i64 s.p) (.int .i64 s.l) (.int .i64 s.r)
  exact ⟨by simp, h1, h2, h3, by rw [frozen?_alloc_cells]; simp [World.frozen?], by rw [frozen?_alloc_cells]; simp [World.frozen?], by rw [frozen?_alloc_cells]; simp [World.frozen?]⟩
/-- the three stores of a stamp -/
def put3 (w : World) (g : Nat) (s : S3) : World := ((w.setCell ⟨g, 0, none⟩ (.int .i64 s.p)).setCell ⟨g, 1, none⟩ (.int .i64 s.l)).setCell ⟨g, 2, none⟩ (.int .i64 s.r)
theorem setCell_other (w : World) (g g' o o' : Nat) (v : Value) (h : g ≠ g' ∨ o ≠ o') : (w.setCell ⟨g, o, none⟩ v).cell? ⟨g', o', none⟩ = w.cell? ⟨g', o', none⟩ := World.cell?_setCell_other _ _ _ _ (by
  intro e
  injection e with e1 e2
  rcases h with h | h
  · exact h e1
  · exact h e2)
theorem setCell_frozen (w : World) (g o : Nat) (v : Value) (x : Addr) : (w.setCell ⟨g, o, none⟩ v).frozen? x = w.frozen? x := by
  exact World.frozen?_setCells g [v] o w x
theorem Stands.put {w : World} {g : Nat} {m : S3} (h : Stands w g m) (s : S3) : Stands (put3 w g s) g s := by
  obtain ⟨h1, h2, h3, h4, h5, h6, h7⟩ := h
  unfold put3
  refine ⟨by simpa using h1, ?_, ?_, ?_, by simp only [setCell_frozen]; exact h5, by simp only [setCell_frozen]; exact h6, by simp only [setCell_frozen]; exact h7⟩
  · rw [setCell_other _ _ _ _ _ _ (.inr (by omega)), setCell_other _ _ _ _ _ _ (.inr (by omega)), World.cell?_setCell_same _ _ _ h2]
  · rw [setCell_other _ _ _ _ _ _ (.inr (by omega)), World.cell?_setCell_same _ _ _ (u := .int .i64 m.l) (by rw [setCell_other _ _ _ _ _ _ (.inr (by omega))]; exact h3)]
  · rw [World.cell?_setCell_same _ _ _ (u := .int .i64 m.r) (by rw [setCell_other _ _ _ _ _ _ (.inr (by omega)), setCell_other _ _ _ _ _ _ (.inr (by omega))]; exact h4)]
theorem Stands.put_other {w : World} {g g' : Nat} {m : S3} (h : Stands w g m) (s : S3) (hne : g' ≠ g) : Stands (put3 w g' s) g m := by
  obtain ⟨h1, h2, h3, h4, h5, h6, h7⟩ := h
  unfold put3
  refine ⟨by simpa using h1, ?_, ?_, ?_, by simp only [setCell_frozen]; exact h5, by simp only [setCell_frozen]; exact h6, by simp only [setCell_frozen]; exact h7⟩
  · rw [setCell_other _ _ _ _ _ _ (.inl hne), setCell_other _ _ _ _ _ _ (.inl hne), setCell_other _ _ _ _ _ _ (.inl hne)]; exact h2
  · rw [setCell_other _ _ _ _ _ _ (.inl hne), setCell_other _ _ _ _ _ _ (.inl hne), setCell_other _ _ _ _ _ _ (.inl hne)]; exact h3
  · rw [setCell_other _ _ _ _ _ _ (.inl hne), setCell_other _ _ _ _ _ _ (.inl hne), setCell_other _ _ _ _ _ _ (.inl hne)]; exact h4
theorem below_put3 {B : Nat} {a w : World} (h : Below B a w) {g : Nat} (hg : B ≤ g) (s : S3) : Below B a (put3 w g s) := ((h.setCell hg _).setCell hg _).setCell hg _
theorem grown_of_below {w w' : World} (h : Below w.heap.size w w') (row : Option Nat) : w.grownBy w' row := ⟨h.os, h.tape, h.output, h.size, fun k hk _ => h.block k hk⟩
theorem grown_put3 {w w' : World} {g : Nat} (h : w.grownBy w' (some g)) {g' : Nat} (hg : g' = g ∨ w.heap.size ≤ g') (s : S3) : w.grownBy (put3 w' g' s) (some g) := by
  unfold put3
  refine ⟨h.os, h.tape, h.output, by simpa using h.size, fun k hk hne => ?_⟩
  have hk' : k ≠ g' := by
    rcases hg with rfl | hg
    · intro e; exact hne (by rw [e])
    · omega
  rw [Below.heap_setCell _ _ _ _ hk', Below.heap_setCell _ _ _ _ hk', Below.heap_setCell _ _ _ _ hk']
  exact h.block k hk hne
theorem Stands.grown {w w' : World} {g g' : Nat} {s : S3} (h : Stands w g s) (hg : w.grownBy w' (some g')) (hne : g ≠ g') : Stands w' g s := by
  obtain ⟨h1, h2, h3, h4, h5, h6, h7⟩ := h
  have hb := hg.block g h1 (fun e => hne (by injection e))
  have hc : ∀ o, w'.cell? ⟨g, o, none⟩ = w.cell? ⟨g, o, none⟩ := fun o => World.cell?_of_block (w := w) hb
  have hf : ∀ o, w'.frozen? ⟨g, o, none⟩ = w.frozen? ⟨g, o, none⟩ := fun o => World.frozen?_of_block (w := w) hb
  exact ⟨Nat.lt_of_lt_of_le h1 hg.size, (hc 0).trans h2, (hc 1).trans h3, (hc 2).trans h4, (hf 0).trans h5, (hf 1).trans h6, (hf 2).trans h7⟩
theorem below_grown {w a b : World} {g B : Nat} (h : Below B w a) (hg : a.grownBy b (some g)) (hB : B ≤ g) (hs : B ≤ a.heap.size) : Below B w b :=
  h.trans (below_of_grown hg (fun k e => by cases e; exact hB) hs)
end Go.Proofs.Ythnbnhlfiehihaa
/- What is turned besides what is new: some blocks (a footprint). -/
namespace Go.Proofs.Ythnbnhlfiehihaa
open Go.RowKit

structure Grew (S : Nat → Prop) (w w' : World) : Prop where
  os : w'.os = w.os
  tape : w'.tape = w.tape
  output : w'.output = w.output
  size : w.heap.size ≤ w'.heap.size
  block : ∀ k, k < w.heap.size → ¬ S k → w'.heap[k]? = w.heap[k]?
theorem Grew.refl (S : Nat → Prop) (w : World) : Grew S w w := ⟨rfl, rfl, rfl, Nat.le_refl _, fun _ _ _ => rfl⟩
theorem Grew.below {S : Nat → Prop} {w w' : World} (h : Below w.heap.size w w') : Grew S w w' := ⟨h.os, h.tape, h.output, h.size, fun k hk _ => h.block k hk⟩
theorem Grew.grown {S : Nat → Prop} {w w' : World} {row : Option Nat} (h : w.grownBy w' row) (hr : ∀ r, row = some r → S r) : Grew S w w' := ⟨h.os, h.tape, h.output, h.size, fun k hk hn => h.block k hk (fun e => hn (hr k e.symm))⟩
theorem Grew.trans {S S' : Nat → Prop} {a b c : World} (h : Grew S a b) (k : Grew S' b c) (hs : ∀ i, i < a.heap.size → S' i → S i) : Grew S a c :=
  ⟨k.os.trans h.os, k.tape.trans h.tape, k.output.trans h.output, Nat.le_trans h.size k.size, fun i hi hn => (k.block i (Nat.lt_of_lt_of_le hi h.size) (fun h' => hn (hs i hi h'))).trans (h.block i hi hn)⟩
theorem Grew.mono {S S' : Nat → Prop} {w w' : World} (h : Grew S w w') (hs : ∀ i, i < w.heap.size → S i → S' i) : Grew S' w w' := ⟨h.os, h.tape, h.output, h.size, fun k hk hn => h.block k hk (fun h' => hn (hs k hk h'))⟩
/-- all that is turned lies from B on -/
theorem Grew.belowB {S : Nat → Prop} {B : Nat} {a w w' : World} (h : Grew S w w') (hb : Below B a w) (hB : B ≤ a.heap.size) (hs : ∀ k, S k → B ≤ k) : Below B a w' :=
  ⟨h.os.trans hb.os, h.tape.trans hb.tape, h.output.trans hb.output, Nat.le_trans hb.size h.size, fun k hk => (h.block k (Nat.lt_of_lt_of_le hk (Nat.le_trans hB hb.size)) (fun h' => by have := hs k h'; omega)).trans (hb.block k hk)⟩
theorem Grew.put {S : Nat → Prop} {w w' : World} (h : Grew S w w') {g o : Nat} (hg : S g ∨ w.heap.size ≤ g) (v : Value) : Grew S w (w'.setCell ⟨g, o, none⟩ v) := by
  refine ⟨h.os, h.tape, h.output, by simpa using h.size, fun k hk hn => ?_⟩
  rw [Below.heap_setCell _ _ _ _ (fun e => ?_)]
  · exact h.block k hk hn
  · simp only at e
    rcases hg with hg | hg
    · exact hn (e ▸ hg)
    · omega
theorem Grew.cell {S : Nat → Prop} {w w' : World} (h : Grew S w w') {p : Addr} (hp : p.block < w.heap.size) (hn : ¬ S p.block) : w'.cell? p = w.cell? p := World.cell?_of_block (h.block _ hp hn)
theorem Grew.frozen {S : Nat → Prop} {w w' : World} (h : Grew S w w') {p : Addr} (hp : p.block < w.heap.size) (hn : ¬ S p.block) : w'.frozen? p = w.frozen? p := World.frozen?_of_block (h.block _ hp hn)
theorem Grew.setCells {S : Nat → Prop} {w : World} {g : Nat} : ∀ (us : List Value) (o : Nat) {w' : World}, Grew S w w' → S g ∨ w.heap.size ≤ g → Grew S w (w'.setCells g o us)
  | [], _, _, h, _ => h
  | u :: us, o, _, h, hg => Grew.setCells us (o + 1) (h.put hg u) hg
end Go.Proofs.Ythnbnhlfiehihaa
