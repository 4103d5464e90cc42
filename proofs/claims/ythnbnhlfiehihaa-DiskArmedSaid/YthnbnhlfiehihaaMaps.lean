/- Maps whose elements are plain values, as lists of pairs. -/
import Derived.Test.YthnbnhlfiehihaaMem
import Derived.Maps.OwnSet
import Derived.Maps.RangeWalk
import Derived.Maps.Ext
namespace Go.Proofs.Ythnbnhlfiehihaa
open Go.RowKit Go.Maps

/-- a map's type: how its keys and its elements stand as values of Lean's -/
structure MT (P : Program) (t k e : TypeId) (α β : Type) where
  mkK : α → Value
  okK : α → Prop
  litK : α → Lit
  mkV : β → Value
  enc : β → DataW Unit
  dec : Value → Option β
  zero : β
  ty : P.underlying t = some (.map k e)
  keyed : Keyed P k
  key : ∀ x, okK x → keyOf P k (mkK x) = some (litK x)
  keyInv : ∀ v l, keyOf P k v = some l → ∃ x, okK x ∧ v = mkK x
  litInj : ∀ x y, okK x → okK y → litK x = litK y → x = y
  decMk : ∀ c, dec (mkV c) = some c
  mkDec : ∀ v c, dec v = some c → v = mkV c
  encInj : ∀ c d, enc c = enc d → c = d
  zeroV : ∀ w, (zeroValue e).run P w = .ok (mkV zero) w

section
variable {P : Program} {t k e : TypeId} {α β : Type}
def MT.R (T : MT P t k e α β) (v : Value) : Option (DataW Unit × List MemPlace) := (T.dec v).map fun c => (T.enc c, [])
def MT.ent (T : MT P t k e α β) (p : α × β) : Lit × DataW Unit := (T.litK p.1, T.enc p.2)
def MapIs (T : MT P t k e α β) (w : World) (b : Nat) (L : List (α × β)) : Prop := (∀ p ∈ L, T.okK p.1) ∧ ∃ es, w.ownsMap P k T.R b L.length (.map es) ∧ es.Perm (L.map T.ent)
def look [DecidableEq α] (L : List (α × β)) (x : α) : Option β := (L.find? fun p => p.1 = x).map (·.2)
def putA [DecidableEq α] (L : List (α × β)) (x : α) (c : β) : List (α × β) := (x, c) :: L.filter fun p => p.1 ≠ x
variable {T : MT P t k e α β} {w w' : World} {b : Nat} {L : List (α × β)}
theorem owns_len {R : Value → Option (DataW Unit × List MemPlace)} {n : Nat} {es : List (Lit × DataW Unit)} (h : w.ownsMap P k R b n (.map es)) : w.ownsMap P k R b es.length (.map es) := by
  obtain ⟨a, clock, h1, h2, _, h4⟩ := h
  refine ⟨a, clock, h1, h2, ?_, h4⟩
  injection h4 with h5
  rw [h5, length_sorted]
  simp
theorem MT.isKey (T : MT P t k e α β) {x : α} (hx : T.okK x) : WideAt.IsKeyLit (T.litK x) := T.keyed.key (T.key x hx)
theorem MapIs.lt (h : MapIs T w b L) : b < w.heap.size := by obtain ⟨_, es, h1, _⟩ := h; exact h1.lt
theorem MapIs.kept (h : MapIs T w b L) {row : Option Nat} (hg : w.grownBy w' row) (hne : some b ≠ row) : MapIs T w' b L := by
  obtain ⟨h0, es, h1, h2⟩ := h
  exact ⟨h0, es, h1.kept hg hne, h2⟩
theorem MapIs.below (h : MapIs T w b L) (hb : Below w.heap.size w w') : MapIs T w' b L :=
  h.kept (row := none) ⟨hb.os, hb.tape, hb.output, hb.size, fun i hi _ => hb.block i hi⟩ (by simp)
theorem MapIs.setCell (h : MapIs T w b L) {a : Addr} (ha : b ≠ a.block) (u : Value) : MapIs T (w.setCell a u) b L := by
  obtain ⟨h0, es, h1, h2⟩ := h
  exact ⟨h0, es, h1.setCell ha u, h2⟩
theorem MapIs.made (T : MT P t k e α β) (w : World) : MapIs T (w.alloc (.map #[] 0)) w.heap.size [] :=
  ⟨fun p h => by simp at h, [], w.ownsMap_made P k T.R, List.Perm.nil⟩
theorem MapIs.apart (h : MapIs T w b L) : L.Pairwise fun p q => p.1 ≠ q.1 := by
  obtain ⟨h0, es, h1, h2⟩ := h
  obtain ⟨es', e1, hap, _⟩ := h1.entries T.keyed
  injection e1 with e1
  subst e1
  have h3 := (h2.pairwise_iff (R := fun p q : Lit × DataW Unit => p.1 ≠ q.1) (fun {_ _} h => Ne.symm h)).1 hap
  rw [List.pairwise_map] at h3
  exact h3.imp fun {p q} hne e => hne (by simp only [MT.ent]; rw [e])
theorem find_mem [DecidableEq α] {x : α} {c : β} (hap : L.Pairwise fun p q => p.1 ≠ q.1) (h : (x, c) ∈ L) : look L x = some c := by
  unfold look
  cases hf : L.find? (fun p => p.1 = x) with
  | none => exact absurd (List.find?_eq_none.1 hf _ h) (by simp)
  | some q =>
    have hq := List.mem_of_find?_eq_some hf
    have hqx : q.1 = x := by simpa using List.find?_some hf
    have : q = (x, c) := by
      have key : ∀ {l : List (α × β)}, l.Pairwise (fun p q => p.1 ≠ q.1) → ∀ {a b}, a ∈ l → b ∈ l → a.1 = b.1 → a = b := by
        intro l
        induction l with
        | nil => intro _ a b ha; cases ha
        | cons y l ih =>
          intro hp a b ha hb e
          obtain ⟨h1, h2⟩ := List.pairwise_cons.1 hp
          rcases List.mem_cons.1 ha with ea | ha'
          · rcases List.mem_cons.1 hb with eb | hb'
            · rw [ea, eb]
            · exact absurd (ea ▸ e) (h1 b hb')
          · rcases List.mem_cons.1 hb with eb | hb'
            · exact absurd (eb ▸ e).symm (h1 a ha')
            · exact ih h2 ha' hb' e
      exact key hap hq h (by rw [hqx])
    simp [this]
theorem look_mem [DecidableEq α] {x : α} {c : β} (h : look L x = some c) : (x, c) ∈ L := by
  unfold look at h
  cases hf : L.find? (fun p => p.1 = x) with
  | none => rw [hf] at h; cases h
  | some q =>
    rw [hf] at h
    simp only [Option.map_some, Option.some.injEq] at h
    have hq := List.mem_of_find?_eq_some hf
    have hqx : q.1 = x := by simpa using List.find?_some hf
    rw [← hqx, ← h]
    exact hq
theorem look_none [DecidableEq α] {x : α} (h : look L x = none) : ∀ p ∈ L, p.1 ≠ x := by
  unfold look at h
  simp only [Option.map_eq_none_iff] at h
  intro p hp e
  exact absurd (List.find?_eq_none.1 h p hp) (by simp [e])
/-- v, ok := m[x] -/
theorem MapIs.look_run [DecidableEq α] (h : MapIs T w b L) {x : α} (hx : T.okK x) : (Instr.lookup t (.map (some b)) (T.mkK x) true).run P w = .ok (.tuple #[T.mkV ((look L x).getD T.zero), .bool (look L x).isSome]) w := by
  have hap := h.apart
  obtain ⟨h0, es, h1, h2⟩ := h
  have hR0 : T.R (T.mkV T.zero) = some (T.enc T.zero, []) := by simp [MT.R, T.decMk]
  obtain ⟨v, ps, hrun, hv⟩ := h1.look_ok T.keyed T.ty (T.zeroV w) hR0 (T.key x hx)
  obtain ⟨es', e1, hape, _⟩ := h1.entries T.keyed
  injection e1 with e1
  subst e1
  simp only [MT.R, Option.map_eq_some_iff] at hv
  obtain ⟨d, hd, hd2⟩ := hv
  have hv2 := T.mkDec v d hd
  simp only [Prod.mk.injEq] at hd2
  rw [hrun]
  cases hl : look L x with
  | none =>
    have hno : ∀ q ∈ es, q.1 ≠ T.litK x := by
      intro q hq e
      obtain ⟨p, hp, rfl⟩ := List.mem_map.1 (h2.mem_iff.1 hq)
      exact look_none hl p hp (T.litInj _ _ (h0 p hp) hx e)
    rw [WideAt.atKey_none _ hno] at hd2
    have hdz : d = T.zero := T.encInj _ _ hd2.1
    have hhas : Maps.has (.map es : DataW Unit) (T.litK x) = false := Maps.has_false_of_atKey fun z => WideAt.atKey_none z hno
    rw [hhas, hv2, hdz]
    rfl
  | some y =>
    have hm : (T.litK x, T.enc y) ∈ es := h2.mem_iff.2 (List.mem_map.2 ⟨(x, y), look_mem hl, rfl⟩)
    rw [WideAt.atKey_mem _ (T.isKey hx) hape hm] at hd2
    have hdz : d = y := T.encInj _ _ hd2.1.symm |>.symm ▸ rfl
    have hhas : Maps.has (.map es : DataW Unit) (T.litK x) = true := Maps.has_true_of_atKey fun z => WideAt.atKey_mem z (T.isKey hx) hape hm
    rw [hhas, hv2, hdz]
    rfl
/-- len(m) -/
theorem MapIs.len_run (h : MapIs T w b L) (ty : TypeId) : (Builtin.len_ #[t] ty #[.map (some b)]).run P w = .ok (.int .i64 (L.length : Nat)) w := by
  obtain ⟨h0, es, h1, h2⟩ := h
  have := h1.len T.ty ty
  rw [this, Maps.size_eq, h2.length_eq, List.length_map]
/-- m[x] = c -/
theorem MapIs.store_run [DecidableEq α] (h : MapIs T w b L) (hn : L.length < maxLen) {x : α} (hx : T.okK x) (c : β) : ∃ w', (Instr.mapUpdate t (.map (some b)) (T.mkK x) (T.mkV c)).run P w = .ok () w' ∧ MapIs T w' b (putA L x c) ∧ w.mapTurned w' b := by
  obtain ⟨h0, es, h1, h2⟩ := h
  obtain ⟨w', hrun, ho, ht⟩ := h1.store T.keyed T.ty hn (T.key x hx) (val := T.mkV c) (d := T.enc c) (ps := []) (by simp [MT.R, T.decMk])
  have hD : (DataW.map es).put (T.litK x) (T.enc c) = .map (DataW.insert (T.litK x, T.enc c) (es.filter fun p => !p.1.sameKey (T.litK x))) := rfl
  rw [hD] at ho
  have hp : (DataW.insert (T.litK x, T.enc c) (es.filter fun p => !p.1.sameKey (T.litK x))).Perm ((putA L x c).map T.ent) := by
    refine (WideShapes.insert_perm _ _).trans ?_
    unfold putA
    rw [List.map_cons]
    refine List.Perm.cons _ ?_
    refine (h2.filter _).trans ?_
    rw [List.filter_map]
    refine List.Perm.of_eq ?_
    congr 1
    refine List.filter_congr fun p hp => ?_
    simp only [Function.comp, MT.ent]
    by_cases e : p.1 = x
    · subst e
      simp [WideAt.sameKey_self (T.isKey hx)]
    · have : (T.litK p.1).sameKey (T.litK x) = false := by
        cases hs : (T.litK p.1).sameKey (T.litK x)
        · rfl
        · exact absurd (T.litInj _ _ (h0 p hp) hx (WideAt.sameKey_eq hs)) e
      simp [this, e]
  refine ⟨w', hrun, ⟨?_, _, ?_, hp⟩, ht⟩
  · intro p hp
    rcases List.mem_cons.1 hp with rfl | hp
    · exact hx
    · exact h0 p (List.mem_filter.1 hp).1
  · have := owns_len ho
    rw [hp.length_eq, List.length_map] at this
    exact this
/-- a range over a map under way: rem are the keys to come -/
def RangeIs [DecidableEq α] (T : MT P t k e α β) (w : World) (b r : Nat) (L : List (α × β)) (rem : List α) : Prop := (∀ p ∈ L, T.okK p.1) ∧ ∃ es left cnt, w.ranges P k T.R b r L.length (.map es) left cnt ∧ es.Perm (L.map T.ent) ∧ rem.Nodup ∧ (∀ x ∈ rem, ∃ c, (x, c) ∈ L) ∧ (∀ x, T.okK x → left (T.litK x) = decide (x ∈ rem))
theorem RangeIs.owns [DecidableEq α] {r : Nat} {rem : List α} (h : RangeIs T w b r L rem) : MapIs T w b L := by
  obtain ⟨h0, es, left, cnt, h1, h2, _⟩ := h
  exact ⟨h0, es, h1.owns, h2⟩
theorem RangeIs.kept [DecidableEq α] {r : Nat} {rem : List α} (h : RangeIs T w b r L rem) {row : Option Nat} (hg : w.grownBy w' row) (hne : some b ≠ row) (hne2 : some r ≠ row) : RangeIs T w' b r L rem := by
  obtain ⟨h0, es, left, cnt, h1, h2⟩ := h
  exact ⟨h0, es, left, cnt, h1.kept hg hne hne2, h2⟩
theorem RangeIs.lt [DecidableEq α] {r : Nat} {rem : List α} (h : RangeIs T w b r L rem) : r < w.heap.size := by obtain ⟨_, _, _, _, h1, _⟩ := h; exact h1.lt
theorem RangeIs.ne [DecidableEq α] {r : Nat} {rem : List α} (h : RangeIs T w b r L rem) : r ≠ b := by obtain ⟨_, _, _, _, h1, _⟩ := h; exact h1.ne
/-- range m -/
theorem MapIs.range_run [DecidableEq α] (h : MapIs T w b L) : ∃ w', (Instr.range t (.map (some b))).run P w = .ok (.pointer (some ⟨w.heap.size, 0, none⟩)) w' ∧ RangeIs T w' b w.heap.size L (L.map (·.1)) ∧ w.grownBy w' none ∧ w'.heap.size = w.heap.size + 1 := by
  have hap := h.apart
  obtain ⟨h0, es, h1, h2⟩ := h
  obtain ⟨w', hrun, hr, hg, hs⟩ := h1.range T.keyed T.ty
  obtain ⟨es', e1, hape, _⟩ := h1.entries T.keyed
  injection e1 with e1
  subst e1
  refine ⟨w', hrun, ⟨h0, es, _, _, hr, h2, ?_, ?_, ?_⟩, hg, hs⟩
  · exact List.pairwise_map.2 hap
  · intro x hx
    obtain ⟨p, hp, rfl⟩ := List.mem_map.1 hx
    exact ⟨p.2, hp⟩
  · intro x hx
    by_cases hm : x ∈ L.map (·.1)
    · rw [decide_eq_true hm]
      obtain ⟨p, hp, rfl⟩ := List.mem_map.1 hm
      have hme : (T.litK p.1, T.enc p.2) ∈ es := h2.mem_iff.2 (List.mem_map.2 ⟨p, hp, rfl⟩)
      exact Maps.has_true_of_atKey fun z => WideAt.atKey_mem z (T.isKey hx) hape hme
    · rw [decide_eq_false hm]
      refine Maps.has_false_of_atKey fun z => WideAt.atKey_none z fun q hq e => hm ?_
      obtain ⟨p, hp, rfl⟩ := List.mem_map.1 (h2.mem_iff.1 hq)
      exact List.mem_map.2 ⟨p, hp, T.litInj _ _ (h0 p hp) hx e⟩
/-- the step -/
theorem RangeIs.next_run [DecidableEq α] {r : Nat} {rem : List α} (h : RangeIs T w b r L rem) (ty : TypeId) :
    (rem = [] ∧ (Instr.next (.pointer (some ⟨r, 0, none⟩)) false ty).run P w = .ok (.tuple #[.bool false]) w) ∨
    ∃ x c w', x ∈ rem ∧ T.okK x ∧ look L x = some c ∧ (Instr.next (.pointer (some ⟨r, 0, none⟩)) false ty).run P w = .ok (.tuple #[.bool true, T.mkK x, T.mkV c]) w' ∧
      RangeIs T w' b r L (rem.erase x) ∧ w.grownBy w' (some r) ∧ w'.heap.size = w.heap.size ∧ (Instr.entry (.pointer (some ⟨r, 0, none⟩))).run P w' = .ok (.tuple #[T.mkK x, T.mkV c]) w' ∧ w'.rangeLeft b r < w.rangeLeft b r := by
  have hap := h.owns.apart
  obtain ⟨h0, es, left, cnt, h1, h2, h3, h4, h5⟩ := h
  obtain ⟨es', e1, hape, _⟩ := h1.owns.entries T.keyed
  injection e1 with e1
  subst e1
  rcases h1.next T.keyed ty with ⟨_, hl, hrun⟩ | ⟨key, v, kl, y, w', cnt', hkey, hlk, hv, hat, hrun, hrg, hlt, hgr, hsz, hen⟩
  · refine .inl ⟨?_, hrun⟩
    cases rem with
    | nil => rfl
    | cons x rem =>
      obtain ⟨c, hc⟩ := h4 x (by simp)
      have := h5 x (h0 _ hc)
      rw [hl] at this
      simp at this
  · obtain ⟨x, hx, rfl⟩ := T.keyInv key kl hkey
    have hkl : kl = T.litK x := Option.some.inj (hkey.symm.trans (T.key x hx))
    subst hkl
    have hxr : x ∈ rem := by
      have := h5 x hx
      rw [hlk] at this
      simpa using this.symm
    obtain ⟨c, hc⟩ := h4 x hxr
    simp only [MT.R, Option.map_eq_some_iff] at hv
    obtain ⟨d, hd, hd2⟩ := hv
    have hv2 := T.mkDec v d hd
    have hme : (T.litK x, T.enc c) ∈ es := h2.mem_iff.2 (List.mem_map.2 ⟨(x, c), hc, rfl⟩)
    have hac := WideAt.atKey_mem (H := Unit) .nil (T.isKey hx) hape hme
    have hdc : d = c := T.encInj _ _ (by
      have h6 := (hat .nil).symm.trans hac
      rw [← hd2] at h6
      exact h6)
    subst hdc
    rw [hv2] at hrun hen
    refine .inr ⟨x, d, w', hxr, hx, find_mem hap hc, hrun, ⟨h0, es, _, _, hrg, h2, h3.erase x, fun y hy => h4 y (List.mem_of_mem_erase hy), fun y hy => ?_⟩, hgr, hsz, hen, by rw [hrg.left_eq, h1.left_eq]; exact hlt⟩
    show (left (T.litK y) && !(T.litK y).sameKey (T.litK x)) = _
    rw [h5 y hy]
    by_cases e : y = x
    · subst e
      have : ¬ y ∈ rem.erase y := fun hm => (h3.mem_erase_iff.1 hm).1 rfl
      simp [WideAt.sameKey_self (T.isKey hx), this]
    · have h7 : (T.litK y).sameKey (T.litK x) = false := by
        cases hs : (T.litK y).sameKey (T.litK x)
        · rfl
        · exact absurd (T.litInj _ _ hy hx (WideAt.sameKey_eq hs)) e
      rw [h7]
      simp [h3.mem_erase_iff, e]
end
end Go.Proofs.Ythnbnhlfiehihaa

