/- Flags: the list of what counts, rising by its ids (plain). -/
import Derived.Test.YtjijhmeagjhfoaaPFl
import Derived.Test.YtjijhmeagjhfoaaMapW
namespace Go.Proofs.Ytjijhmeagjhfoaa

abbrev FE := ID × FM
def Rise (R : List FE) : Prop := R.Pairwise fun p q => p.1.lt q.1 = true
def AllR (R : List FE) : Prop := ∀ p ∈ R, p.2.right
theorem Rise.apart {R : List FE} (h : Rise R) : R.Pairwise fun p q => p.1 ≠ q.1 := h.imp fun h => ID.ne_of_lt h
def putR : List FE → ID → FM → List FE
  | [], x, m => [(x, m)]
  | (y, c) :: R, x, m => if y.lt x then (y, c) :: putR R x m else if y = x then (x, mxO (some c) m) :: R else (x, m) :: (y, c) :: R
def joinR (R S : List FE) : List FE := S.foldl (fun r p => putR r p.1 p.2) R
theorem look_cons (p : FE) (R : List FE) (x : ID) : look (p :: R) x = if p.1 = x then some p.2 else look R x := by
  unfold look
  rw [List.find?_cons]
  by_cases e : p.1 = x
  · simp [e]
  · simp [e]
theorem look_nil (x : ID) : look ([] : List FE) x = none := rfl
theorem look_lt {R : List FE} {x : ID} (h : ∀ p ∈ R, x.lt p.1 = true) : look R x = none := by
  induction R with
  | nil => rfl
  | cons p R ih =>
    rw [look_cons, if_neg (fun e => ID.ne_of_lt (h p (by simp)) e.symm)]
    exact ih fun q hq => h q (by simp [hq])
theorem mem_putR {R : List FE} {x : ID} {m : FM} {p : FE} (h : p ∈ putR R x m) : p.1 = x ∨ p ∈ R := by
  induction R with
  | nil => simp [putR] at h; left; rw [h]
  | cons q R ih =>
    obtain ⟨y, c⟩ := q
    unfold putR at h
    split at h
    · rcases List.mem_cons.1 h with e | h
      · right; simp [e]
      · rcases ih h with h | h
        · exact .inl h
        · right; simp [h]
    · split at h
      · rcases List.mem_cons.1 h with e | h
        · left; rw [e]
        · right; simp [h]
      · rcases List.mem_cons.1 h with e | h
        · left; rw [e]
        · right; exact h
theorem rise_put {R : List FE} (h : Rise R) (x : ID) (m : FM) : Rise (putR R x m) := by
  induction R with
  | nil => simp [putR, Rise]
  | cons q R ih =>
    obtain ⟨y, c⟩ := q
    obtain ⟨h1, h2⟩ := List.pairwise_cons.1 h
    unfold putR
    split
    · rename_i hlt
      refine List.pairwise_cons.2 ⟨fun p hp => ?_, ih h2⟩
      rcases mem_putR hp with e | hp
      · rw [e]; exact hlt
      · exact h1 p hp
    · rename_i hlt
      split
      · rename_i e
        subst e
        exact List.pairwise_cons.2 ⟨h1, h2⟩
      · rename_i hne
        have hxy : x.lt y = true := by
          cases hx : x.lt y
          · exact absurd (ID.total (by simpa using hlt) hx) hne
          · rfl
        refine List.pairwise_cons.2 ⟨fun p hp => ?_, h⟩
        rcases List.mem_cons.1 hp with e | hp
        · rw [e]; exact hxy
        · exact ID.trans hxy (h1 p hp)
theorem look_put {R : List FE} (h : Rise R) (x : ID) (m : FM) (y : ID) : look (putR R x m) y = if y = x then some (mxO (look R x) m) else look R y := by
  induction R with
  | nil =>
    rw [putR, look_cons, look_nil, look_nil]
    by_cases e : y = x
    · subst e; simp [mxO]
    · rw [if_neg (fun h => e h.symm), if_neg e]
  | cons q R ih =>
    obtain ⟨z, c⟩ := q
    obtain ⟨h1, h2⟩ := List.pairwise_cons.1 h
    unfold putR
    split
    · rename_i hlt
      rw [look_cons, look_cons, look_cons, ih h2]
      have hzx : z ≠ x := ID.ne_of_lt hlt
      by_cases e : z = y
      · subst e
        simp [hzx]
      · simp [e, hzx]
    · rename_i hlt
      split
      · rename_i e
        subst e
        rw [look_cons, look_cons, look_cons]
        by_cases e : z = y
        · subst e; simp
        · have : ¬ y = z := fun h => e h.symm
          simp [e, this]
      · rename_i hne
        have hxz : x.lt z = true := by
          cases hx : x.lt z
          · exact absurd (ID.total (by simpa using hlt) hx) hne
          · rfl
        have hnone : look ((z, c) :: R) x = none := look_lt fun p hp => by
          rcases List.mem_cons.1 hp with e | hp
          · rw [e]; exact hxz
          · exact ID.trans hxz (h1 p hp)
        rw [look_cons, hnone]
        by_cases e : y = x
        · subst e; simp [mxO]
        · have : ¬ x = y := fun h => e h.symm
          simp [e, this]
theorem all_put {R : List FE} (hR : Rise R) (h : AllR R) (x : ID) {m : FM} (hm : m.right) : AllR (putR R x m) := by
  intro p hp
  have hl := find_mem (rise_put hR x m).apart hp
  rw [look_put hR] at hl
  by_cases e : p.1 = x
  · rw [if_pos e] at hl
    have := Option.some.inj hl
    rw [← this]
    refine mxO_right (fun a ha => ?_) hm
    exact h (x, a) (look_mem ha)
  · rw [if_neg e] at hl
    exact h p (look_mem hl)
theorem rightO_look {R : List FE} (h : AllR R) (x : ID) : rightO (look R x) := fun _ hm => h _ (look_mem hm)
def joinO (a b : Option FM) : Option FM := match b with | none => a | some m => some (mxO a m)
theorem join_facts (S : List FE) : ∀ (R : List FE), Rise R → AllR R → AllR S → Rise (joinR R S) ∧ AllR (joinR R S) := by
  induction S with
  | nil => intro R h1 h2 _; exact ⟨h1, h2⟩
  | cons p S ih =>
    intro R h1 h2 h3
    exact ih (putR R p.1 p.2) (rise_put h1 _ _) (all_put h1 h2 _ (h3 p (by simp))) (fun q hq => h3 q (by simp [hq]))
theorem look_join (S : List FE) : ∀ (R : List FE), Rise R → Rise S → ∀ y, look (joinR R S) y = joinO (look R y) (look S y) := by
  induction S with
  | nil => intro R _ _ y; rw [look_nil]; rfl
  | cons p S ih =>
    intro R h1 h3 y
    obtain ⟨h4, h5⟩ := List.pairwise_cons.1 h3
    show look (joinR (putR R p.1 p.2) S) y = _
    rw [ih _ (rise_put h1 _ _) h5, look_put h1, look_cons]
    by_cases e : p.1 = y
    · subst e
      rw [look_lt h4]
      simp [joinO]
    · have : ¬ y = p.1 := fun h => e h.symm
      simp [e, this]
theorem joinO_code {a b : Option FM} (ha : rightO a) (hb : rightO b) : codeO (joinO a b) = max (codeO a) (codeO b) := by
  cases b with
  | none =>
    have : -1 ≤ codeO a := by
      cases a with
      | none => exact Int.le_refl _
      | some m => have := FM.code_nonneg (ha m rfl); simp only [codeO]; omega
    simp only [joinO, codeO] at *
    omega
  | some m => simp only [joinO]; exact mxO_code ha (hb m rfl)
/-- lists that tell the same are one -/
theorem rise_ext : ∀ {R S : List FE}, Rise R → Rise S → (∀ x, look R x = look S x) → R = S := by
  intro R S hR hS h
  have hp := perm_of_look hR.apart hS.apart h
  exact hp.eq_of_pairwise (fun a b _ _ h1 h2 => by have := ID.asymm h1; rw [h2] at this; cases this) hR hS
theorem codes_ext {R S : List FE} (hR : Rise R) (hS : Rise S) (aR : AllR R) (aS : AllR S) (h : ∀ x, codeO (look R x) = codeO (look S x)) : R = S :=
  rise_ext hR hS fun x => codeO_inj (rightO_look aR x) (rightO_look aS x) (h x)
theorem perm_rise {L R S : List FE} (h1 : L.Perm R) (h2 : L.Perm S) (hR : Rise R) (hS : Rise S) : R = S :=
  (h1.symm.trans h2).eq_of_pairwise (fun a b _ _ h1 h2 => by have := ID.asymm h1; rw [h2] at this; cases this) hR hS
theorem look_perm {L R : List FE} (h : L.Perm R) (hR : Rise R) (x : ID) : look L x = look R x := by
  have hL : L.Pairwise fun p q => p.1 ≠ q.1 := (h.pairwise_iff (fun {_ _} h => Ne.symm h)).2 hR.apart
  cases hl : look L x with
  | none =>
    cases hr : look R x with
    | none => rfl
    | some c =>
      have := find_mem hL (h.mem_iff.2 (look_mem hr))
      rw [hl] at this; cases this
  | some c => exact (find_mem hR.apart (h.mem_iff.1 (look_mem hl))).symm
/-- a map's pairs behind a store -/
theorem perm_put {L R : List FE} (h : L.Perm R) (hR : Rise R) (x : ID) (m : FM) (ht : told (look R x) m = true) : (putA L x m).Perm (putR R x m) := by
  have hL : L.Pairwise fun p q => p.1 ≠ q.1 := (h.pairwise_iff (fun {_ _} h => Ne.symm h)).2 hR.apart
  refine perm_of_look (apart_put hL x m) (rise_put hR x m).apart fun y => ?_
  rw [look_putA, look_put hR, look_perm h hR, mxO_told, if_pos ht]
theorem put_keep {R : List FE} (hR : Rise R) (x : ID) (m : FM) (ht : told (look R x) m = false) : putR R x m = R := by
  refine rise_ext (rise_put hR x m) hR fun y => ?_
  rw [look_put hR, mxO_told, ht]
  by_cases e : y = x
  · subst e
    rw [if_pos rfl]
    cases hl : look R y with
    | none => rw [hl] at ht; cases ht
    | some c => rfl
  · rw [if_neg e]
theorem len_putR {R : List FE} (x : ID) (m : FM) (hR : Rise R) : (putR R x m).length = if (look R x).isSome then R.length else R.length + 1 := by
  cases ht : told (look R x) m
  · rw [put_keep hR x m ht]
    cases hl : look R x with
    | none => rw [hl] at ht; cases ht
    | some c => rfl
  · rw [← (perm_put (List.Perm.refl R) hR x m ht).length_eq, len_putA hR.apart]
/-- where x stands in R -/
theorem putR_at : ∀ (R : List FE) (x : ID) (m : FM) (k : Nat) (z : FE), Rise R → k ≤ R.length → (∀ i, i < k → (R[i]?.getD z).1.lt x = true) → (k = R.length ∨ (R[k]?.getD z).1.lt x = false) →
    (k < R.length ∧ (R[k]?.getD z).1 = x ∧ look R x = some (R[k]?.getD z).2 ∧ putR R x m = R.set k (x, mxO (look R x) m)) ∨
    (¬ (k < R.length ∧ (R[k]?.getD z).1 = x) ∧ look R x = none ∧ putR R x m = R.take k ++ [(x, m)] ++ R.drop k)
  | [], x, m, k, z, _, hk, _, _ => by
    obtain rfl : k = 0 := by simpa using hk
    right
    exact ⟨by simp, rfl, rfl⟩
  | (y, c) :: R, x, m, 0, z, hR, _, _, h => by
    have h' : y.lt x = false := by rcases h with h | h; · simp at h
                                   · simpa using h
    by_cases e : y = x
    · left
      subst e
      refine ⟨by simp, rfl, ?_, ?_⟩
      · rw [look_cons, if_pos rfl]; rfl
      · rw [putR, if_neg (by simp [h']), if_pos rfl, look_cons, if_pos rfl]; rfl
    · right
      have hxy : x.lt y = true := by
        cases hx : x.lt y
        · exact absurd (ID.total h' hx) e
        · rfl
      refine ⟨by rintro ⟨_, h⟩; exact e (by simpa using h), look_lt fun p hp => ?_, ?_⟩
      · rcases List.mem_cons.1 hp with e | hp
        · rw [e]; exact hxy
        · exact ID.trans hxy ((List.pairwise_cons.1 hR).1 p hp)
      · rw [putR, if_neg (by simp [h']), if_neg e]; rfl
  | (y, c) :: R, x, m, k + 1, z, hR, hk, hl, h => by
    have h0 : y.lt x = true := by simpa using hl 0 (by omega)
    have hne : y ≠ x := ID.ne_of_lt h0
    have ih := putR_at R x m k z (List.pairwise_cons.1 hR).2 (by simpa using hk) (fun i hi => by simpa using hl (i + 1) (by omega)) (by simpa using h)
    rw [putR, if_pos h0, look_cons, if_neg hne]
    rcases ih with ⟨h1, h2, h3, h4⟩ | ⟨h1, h2, h3⟩
    · left
      exact ⟨by simpa using h1, by simpa using h2, by simpa using h3, by rw [h4]; rfl⟩
    · right
      exact ⟨by simpa using h1, h2, by rw [h3]; rfl⟩
/-- where x is looked for in R -/
theorem look_at (R : List FE) (x : ID) (k : Nat) (z : FE) (hR : Rise R) (hk : k ≤ R.length) (hl : ∀ i, i < k → (R[i]?.getD z).1.lt x = true) (h : k = R.length ∨ (R[k]?.getD z).1.lt x = false) :
    (k < R.length ∧ (R[k]?.getD z).1 = x ∧ look R x = some (R[k]?.getD z).2) ∨ (¬ (k < R.length ∧ (R[k]?.getD z).1 = x) ∧ look R x = none) := by
  rcases putR_at R x z.2 k z hR hk hl h with ⟨h1, h2, h3, _⟩ | ⟨h1, h2, _⟩
  · exact .inl ⟨h1, h2, h3⟩
  · exact .inr ⟨h1, h2⟩
end Go.Proofs.Ytjijhmeagjhfoaa

