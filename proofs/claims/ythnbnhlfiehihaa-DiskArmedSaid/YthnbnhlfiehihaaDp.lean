/- Disks side by side: the program's and the document's. -/
import Derived.Test.YthnbnhlfiehihaaDd
namespace Go.Proofs.Ythnbnhlfiehihaa
open Go.RowKit

/-- a disk: the document's or the program's, its box, its state -/
structure Ob where
  doc : Bool
  p : Nat
  s : DK
def Ob.at (o : Ob) (W : World) (F H : Nat → Prop) : Prop := if o.doc then DD W o.p F H o.s else PD W o.p F H o.s
theorem Ob.at.grew {o : Ob} {W W' : World} {F H S : Nat → Prop} (h : o.at W F H) (hg : Grew S W W') (hs : ∀ k, H k → ¬ S k) : o.at W' F H := by
  unfold Ob.at at h ⊢
  split <;> rename_i e
  · rw [if_pos e] at h; exact h.grew hg hs
  · rw [if_neg e] at h; exact h.grew hg hs
theorem Ob.at.lt {o : Ob} {W : World} {F H : Nat → Prop} (h : o.at W F H) : ∀ k, H k → k < W.heap.size := by
  unfold Ob.at at h
  split at h
  · exact h.lt
  · exact h.lt
theorem Ob.at.sub {o : Ob} {W : World} {F H : Nat → Prop} (h : o.at W F H) : ∀ k, F k → H k := by
  unfold Ob.at at h
  split at h
  · obtain ⟨A, c, G, h1, h2, h3, h4, h5, h6, h7, h8, h9⟩ := h; exact h8
  · obtain ⟨mb, G, h1, h2, h3, h4, h5, h6, h7, h8⟩ := h; exact h7
/-- what a call on one disk does to memory -/
structure Moved (F H F' H' : Nat → Prop) (W W' : World) : Prop where
  f : ∀ i, F' i → F i ∨ W.heap.size ≤ i
  h : ∀ i, H' i → H i ∨ W.heap.size ≤ i
  g : Grew F W W'
theorem Moved.refl (F H : Nat → Prop) (W : World) : Moved F H F H W W := ⟨fun _ => .inl, fun _ => .inl, Grew.refl _ _⟩
theorem Moved.trans {F H F' H' F'' H'' : Nat → Prop} {a b c : World} (h : Moved F H F' H' a b) (k : Moved F' H' F'' H'' b c) : Moved F H F'' H'' a c :=
  ⟨fun i hi => (k.f i hi).elim (h.f i) (fun h2 => .inr (Nat.le_trans h.g.size h2)), fun i hi => (k.h i hi).elim (h.h i) (fun h2 => .inr (Nat.le_trans h.g.size h2)), h.g.trans k.g (fun i hi hF => (h.f i hF).elim id (fun h2 => absurd hi (Nat.not_lt.2 h2)))⟩
theorem Moved.below {F H : Nat → Prop} {W W' : World} (h : Below W.heap.size W W') : Moved F H F H W W' := ⟨fun _ => .inl, fun _ => .inl, Grew.below h⟩
/-- disks side by side, none of which may turn what another holds -/
def Pool (w0 : World) (L : List Ob) (W : World) : Prop :=
  ∃ T : List ((Nat → Prop) × (Nat → Prop)), T.length = L.length ∧ (∀ (i : Nat) (o : Ob) (t : (Nat → Prop) × (Nat → Prop)), L[i]? = some o → T[i]? = some t → o.at W t.1 t.2 ∧ ∀ k, t.1 k → w0.heap.size ≤ k) ∧
    (∀ (i j : Nat) (t u : (Nat → Prop) × (Nat → Prop)), i ≠ j → T[i]? = some t → T[j]? = some u → ∀ k, t.1 k → ¬ u.2 k) ∧ Below w0.heap.size w0 W
section
variable {w0 W W' : World} {L : List Ob} {i : Nat} {o : Ob}
theorem Pool.nil (h : Below w0.heap.size w0 W) : Pool w0 [] W := ⟨[], rfl, fun i o t h => by simp at h, fun i j t u _ h => by simp at h, h⟩
theorem Pool.wb (h : Pool w0 L W) : Below w0.heap.size w0 W := by obtain ⟨T, h1, h2, h3, h4⟩ := h; exact h4
theorem Pool.below (h : Pool w0 L W) (hb : Below W.heap.size W W') : Pool w0 L W' := by
  obtain ⟨T, h1, h2, h3, h4⟩ := h
  exact ⟨T, h1, fun i o t ho ht => ⟨(h2 i o t ho ht).1.grew (S := fun _ => False) (Grew.below hb) (fun _ _ => id), (h2 i o t ho ht).2⟩, h3, h4.trans (hb.mono h4.size)⟩
/-- one of them, and what holds after it is turned; what lay before all of them is none of its own -/
theorem Pool.use (h : Pool w0 L W) (hi : L[i]? = some o) : ∃ F H : Nat → Prop, o.at W F H ∧ (∀ k, F k → w0.heap.size ≤ k) ∧
    ∀ (W' : World) (F' H' : Nat → Prop) (s' : DK), (⟨o.doc, o.p, s'⟩ : Ob).at W' F' H' → Moved F H F' H' W W' → Pool w0 (L.set i ⟨o.doc, o.p, s'⟩) W' := by
  obtain ⟨T, h1, h2, h3, h4⟩ := h
  have hil := (List.getElem?_eq_some_iff.1 hi).1
  obtain ⟨t, ht⟩ : ∃ t, T[i]? = some t := ⟨_, List.getElem?_eq_getElem (by rw [h1]; exact hil)⟩
  have hiT := (List.getElem?_eq_some_iff.1 ht).1
  obtain ⟨ha, hb⟩ := h2 i o t hi ht
  refine ⟨t.1, t.2, ha, hb, fun W' F' H' s' ho hm => ⟨T.set i (F', H'), by simp [h1], fun j o' t' ho' ht' => ?_, fun j k t' u hjk hj hk m hm1 hm2 => ?_, ?_⟩⟩
  · by_cases e : i = j
    · subst e
      rw [List.getElem?_set_self hil] at ho'
      rw [List.getElem?_set_self hiT] at ht'
      have ho' := Option.some.inj ho'
      have ht' := Option.some.inj ht'
      subst ho'; subst ht'
      exact ⟨ho, fun k hk => (hm.f k hk).elim (hb k) (fun h => Nat.le_trans h4.size h)⟩
    · rw [List.getElem?_set_ne e] at ho' ht'
      obtain ⟨k1, k2⟩ := h2 j o' t' ho' ht'
      exact ⟨k1.grew hm.g (fun m hm1 hm2 => h3 i j t t' e ht ht' m hm2 hm1), k2⟩
  · by_cases e : i = j
    · subst e
      rw [List.getElem?_set_self hiT] at hj
      have hj := Option.some.inj hj
      subst hj
      rw [List.getElem?_set_ne hjk] at hk
      obtain ⟨o', ho'⟩ : ∃ o', L[k]? = some o' := ⟨_, List.getElem?_eq_getElem (by rw [← h1]; exact (List.getElem?_eq_some_iff.1 hk).1)⟩
      have hlt := (h2 k o' u ho' hk).1.lt m hm2
      rcases hm.f m hm1 with h | h
      · exact h3 i k t u hjk ht hk m h hm2
      · omega
    · rw [List.getElem?_set_ne e] at hj
      by_cases e2 : i = k
      · subst e2
        rw [List.getElem?_set_self hiT] at hk
        have hk := Option.some.inj hk
        subst hk
        obtain ⟨o', ho'⟩ : ∃ o', L[j]? = some o' := ⟨_, List.getElem?_eq_getElem (by rw [← h1]; exact (List.getElem?_eq_some_iff.1 hj).1)⟩
        rcases hm.h m hm2 with h | h
        · exact h3 j i t' t (fun h => e h.symm) hj ht m hm1 h
        · have := (h2 j o' t' ho' hj).1.lt m ((h2 j o' t' ho' hj).1.sub m hm1)
          omega
      · rw [List.getElem?_set_ne e2] at hk
        exact h3 j k t' u hjk hj hk m hm1 hm2
  · exact hm.g.belowB h4 (Nat.le_refl _) (fun k hk => hb k hk)
theorem addP {T : List ((Nat → Prop) × (Nat → Prop))} (h1 : T.length = L.length) (h2 : ∀ (i : Nat) (o : Ob) (t : (Nat → Prop) × (Nat → Prop)), L[i]? = some o → T[i]? = some t → o.at W t.1 t.2 ∧ ∀ k, t.1 k → w0.heap.size ≤ k)
    (h3 : ∀ (i j : Nat) (t u : (Nat → Prop) × (Nat → Prop)), i ≠ j → T[i]? = some t → T[j]? = some u → ∀ k, t.1 k → ¬ u.2 k) (h4 : Below w0.heap.size w0 W) (hb : Below W.heap.size W W') {F'' H'' : Nat → Prop} (ho : o.at W' F'' H'') (hF : ∀ k, F'' k → W.heap.size ≤ k)
    (hN : ∀ (i : Nat) (t : (Nat → Prop) × (Nat → Prop)), T[i]? = some t → ∀ k, t.1 k → ¬ H'' k) : Pool w0 (L ++ [o]) W' := by
  have key : ∀ {α : Type} (X : List α) (z : α) (j : Nat) (y : α), (X ++ [z])[j]? = some y → (j < X.length ∧ X[j]? = some y) ∨ (j = X.length ∧ y = z) := fun X z j y hj => by
    rcases Nat.lt_trichotomy j X.length with h | h | h
    · rw [List.getElem?_append_left h] at hj; exact .inl ⟨h, hj⟩
    · subst h
      rw [List.getElem?_append_right (Nat.le_refl _), Nat.sub_self] at hj
      exact .inr ⟨rfl, (Option.some.inj hj).symm⟩
    · rw [List.getElem?_eq_none (by simp; omega)] at hj; cases hj
  refine ⟨T ++ [(F'', H'')], by simp [h1], fun j o' t' ho' ht' => ?_, fun j k t' u hjk hj hk m hm1 hm2 => ?_, h4.trans (hb.mono h4.size)⟩
  · rcases key _ _ _ _ ho' with ⟨a1, a2⟩ | ⟨a1, a2⟩
    · rcases key _ _ _ _ ht' with ⟨b1, b2⟩ | ⟨b1, b2⟩
      · exact ⟨(h2 j o' t' a2 b2).1.grew (S := fun _ => False) (Grew.below hb) (fun _ _ => id), (h2 j o' t' a2 b2).2⟩
      · omega
    · rcases key _ _ _ _ ht' with ⟨b1, b2⟩ | ⟨b1, b2⟩
      · omega
      · subst a2; subst b2
        exact ⟨ho, fun k hk => Nat.le_trans h4.size (hF k hk)⟩
  · rcases key _ _ _ _ hj with ⟨a1, a2⟩ | ⟨a1, a2⟩
    · rcases key _ _ _ _ hk with ⟨b1, b2⟩ | ⟨b1, b2⟩
      · exact h3 j k t' u hjk a2 b2 m hm1 hm2
      · subst b2; exact hN j t' a2 m hm1 hm2
    · rcases key _ _ _ _ hk with ⟨b1, b2⟩ | ⟨b1, b2⟩
      · subst a2
        obtain ⟨o', ho'⟩ : ∃ o', L[k]? = some o' := ⟨_, List.getElem?_eq_getElem (by rw [← h1]; exact b1)⟩
        have := (h2 k o' u ho' b2).1.lt m hm2
        have := hF m hm1
        omega
      · omega
/-- a copy of one of them -/
theorem Pool.copy (h : Pool w0 L W) (hi : L[i]? = some o) : ∃ F H : Nat → Prop, o.at W F H ∧ (∀ k, F k → w0.heap.size ≤ k) ∧
    ∀ (W' : World) (F'' H'' : Nat → Prop) (o'' : Ob), o''.at W' F'' H'' → Below W.heap.size W W' → (∀ k, F'' k → W.heap.size ≤ k) → (∀ k, H'' k → (H k ∧ ¬ F k) ∨ W.heap.size ≤ k) → Pool w0 (L ++ [o'']) W' := by
  obtain ⟨T, h1, h2, h3, h4⟩ := h
  have hil := (List.getElem?_eq_some_iff.1 hi).1
  obtain ⟨t, ht⟩ : ∃ t, T[i]? = some t := ⟨_, List.getElem?_eq_getElem (by rw [h1]; exact hil)⟩
  obtain ⟨ha, hb⟩ := h2 i o t hi ht
  refine ⟨t.1, t.2, ha, hb, fun W' F'' H'' o'' ho hbl hF hH => addP h1 h2 h3 h4 hbl ho hF fun j u hj k hk hk2 => ?_⟩
  rcases hH k hk2 with ⟨x1, x2⟩ | x
  · by_cases e : j = i
    · subst e
      rw [ht] at hj
      have := Option.some.inj hj
      subst this
      exact x2 hk
    · exact h3 j i u t e hj ht k hk x1
  · obtain ⟨o', ho'⟩ : ∃ o', L[j]? = some o' := ⟨_, List.getElem?_eq_getElem (by rw [← h1]; exact (List.getElem?_eq_some_iff.1 hj).1)⟩
    have := (h2 j o' u ho' hj).1.lt k ((h2 j o' u ho' hj).1.sub k hk)
    omega
theorem Pool.add (h : Pool w0 L W) (hb : Below W.heap.size W W') {F'' H'' : Nat → Prop} (ho : o.at W' F'' H'') (hF : ∀ k, F'' k → W.heap.size ≤ k) (hH : ∀ k, H'' k → W.heap.size ≤ k) : Pool w0 (L ++ [o]) W' := by
  obtain ⟨T', h1', h2', h3', h4'⟩ := h
  exact addP h1' h2' h3' h4' hb ho hF (fun i t ht k hk hk2 => absurd (hH k hk2) (by
    obtain ⟨o', ho'⟩ : ∃ o', L[i]? = some o' := ⟨_, List.getElem?_eq_getElem (by rw [← h1']; exact (List.getElem?_eq_some_iff.1 ht).1)⟩
    have := (h2' i o' t ho' ht).1.lt k ((h2' i o' t ho' ht).1.sub k hk)
    omega))
end
end Go.Proofs.Ythnbnhlfiehihaa

