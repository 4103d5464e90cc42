/- Disks: lists rising by names (plain). -/
import Derived.Test.YthnbnhlfiehihaaMapW
namespace Go.Proofs.Ythnbnhlfiehihaa

abbrev Nm := List UInt8
theorem nm_irrefl (x : Nm) : ¬ x < x := List.lt_irrefl x
theorem nm_trans {x y z : Nm} (h : x < y) (k : y < z) : x < z := List.lt_trans h k
theorem nm_total {x y : Nm} (h : ¬ x < y) (k : ¬ y < x) : x = y := List.le_antisymm (List.not_lt.1 k) (List.not_lt.1 h)
theorem nm_ne {x y : Nm} (h : x < y) : x ≠ y := fun e => nm_irrefl y (e ▸ h)
theorem nm_asymm {x y : Nm} (h : x < y) : ¬ y < x := fun k => nm_irrefl x (nm_trans h k)
section
variable {β γ : Type}
def RiseN (R : List (Nm × β)) : Prop := R.Pairwise fun p q => p.1 < q.1
theorem RiseN.apart {R : List (Nm × β)} (h : RiseN R) : R.Pairwise fun p q => p.1 ≠ q.1 := h.imp fun h => nm_ne h
def putN : List (Nm × β) → Nm → β → List (Nm × β)
  | [], x, c => [(x, c)]
  | (y, d) :: R, x, c => if y < x then (y, d) :: putN R x c else if y = x then (x, c) :: R else (x, c) :: (y, d) :: R
theorem lookN_cons (p : Nm × β) (R : List (Nm × β)) (x : Nm) : look (p :: R) x = if p.1 = x then some p.2 else look R x := by
  unfold look
  rw [List.find?_cons]
  by_cases e : p.1 = x
  · simp [e]
  · simp [e]
theorem lookN_nil (x : Nm) : look ([] : List (Nm × β)) x = none := rfl
theorem lookN_lt {R : List (Nm × β)} {x : Nm} (h : ∀ p ∈ R, x < p.1) : look R x = none := by
  induction R with
  | nil => rfl
  | cons p R ih =>
    rw [lookN_cons, if_neg (fun e => nm_ne (h p (by simp)) e.symm)]
    exact ih fun q hq => h q (by simp [hq])
theorem mem_putN {R : List (Nm × β)} {x : Nm} {m : β} {p : Nm × β} (h : p ∈ putN R x m) : p = (x, m) ∨ p ∈ R := by
  induction R with
  | nil => simp [putN] at h; left; rw [h]
  | cons q R ih =>
    obtain ⟨y, c⟩ := q
    unfold putN at h
    split at h
    · rcases List.mem_cons.1 h with e | h
      · right; simp [e]
      · rcases ih h with h | h
        · exact .inl h
        · right; simp [h]
    · split at h
      · rcases List.mem_cons.1 h with e | h
        · left; rw [e]
        · right; simp [h]
      · rcases List.mem_cons.1 h with e | h
        · left; rw [e]
        · right; exact h
theorem mem_putN_new (R : List (Nm × β)) (x : Nm) (m : β) : (x, m) ∈ putN R x m := by
  induction R with
  | nil => simp [putN]
  | cons q R ih =>
    obtain ⟨y, c⟩ := q
    unfold putN
    split
    · exact List.mem_cons_of_mem _ ih
    · split <;> simp
theorem rise_putN {R : List (Nm × β)} (h : RiseN R) (x : Nm) (m : β) : RiseN (putN R x m) := by
  induction R with
  | nil => simp [putN, RiseN]
  | cons q R ih =>
    obtain ⟨y, c⟩ := q
    obtain ⟨h1, h2⟩ := List.pairwise_cons.1 h
    unfold putN
    split
    · rename_i hlt
      refine List.pairwise_cons.2 ⟨fun p hp => ?_, ih h2⟩
      rcases mem_putN hp with e | hp
      · rw [e]; exact hlt
      · exact h1 p hp
    · rename_i hlt
      split
      · rename_i e
        subst e
        exact List.pairwise_cons.2 ⟨h1, h2⟩
      · rename_i hne
        have hxy : x < y := Classical.byContradiction fun hx => hne (nm_total hlt hx)
        refine List.pairwise_cons.2 ⟨fun p hp => ?_, h⟩
        rcases List.mem_cons.1 hp with e | hp
        · rw [e]; exact hxy
        · exact nm_trans hxy (h1 p hp)
theorem look_putN {R : List (Nm × β)} (h : RiseN R) (x : Nm) (m : β) (y : Nm) : look (putN R x m) y = if y = x then some m else look R y := by
  induction R with
  | nil =>
    rw [putN, lookN_cons, lookN_nil]
    by_cases e : y = x
    · subst e; simp
    · rw [if_neg (fun h => e h.symm), if_neg e]
  | cons q R ih =>
    obtain ⟨z, c⟩ := q
    obtain ⟨h1, h2⟩ := List.pairwise_cons.1 h
    unfold putN
    split
    · rename_i hlt
      rw [lookN_cons, lookN_cons, ih h2]
      have hzx : z ≠ x := nm_ne hlt
      by_cases e : z = y
      · subst e
        simp [hzx]
      · simp [e]
    · rename_i hlt
      split
      · rename_i e
        subst e
        rw [lookN_cons, lookN_cons]
        by_cases e : z = y
        · subst e; simp
        · have : ¬ y = z := fun h => e h.symm
          simp [e, this]
      · rename_i hne
        rw [lookN_cons]
        by_cases e : y = x
        · subst e; simp
        · have : ¬ x = y := fun h => e h.symm
          simp [e, this]
theorem rise_del {R : List (Nm × β)} (h : RiseN R) (x : Nm) : RiseN (delA R x) := h.filter _
theorem delA_none {R : List (Nm × β)} {x : Nm} (h : look R x = none) : delA R x = R := List.filter_eq_self.2 fun p hp => by simpa using look_none h p hp
/-! ### under maps -/
def mapN (f : β → γ) (R : List (Nm × β)) : List (Nm × γ) := R.map fun p => (p.1, f p.2)
theorem mapN_put (f : β → γ) (R : List (Nm × β)) (x : Nm) (m : β) : mapN f (putN R x m) = putN (mapN f R) x (f m) := by
  induction R with
  | nil => rfl
  | cons q R ih =>
    obtain ⟨y, c⟩ := q
    unfold putN mapN
    rw [List.map_cons]
    dsimp only
    split
    · rw [List.map_cons]; congr 1
    · split <;> rfl
theorem mapN_del (f : β → γ) (R : List (Nm × β)) (x : Nm) : mapN f (delA R x) = delA (mapN f R) x := by
  unfold mapN delA
  rw [List.filter_map]
  rfl
theorem mapN_look (f : β → γ) (R : List (Nm × β)) (x : Nm) : look (mapN f R) x = (look R x).map f := by
  induction R with
  | nil => rfl
  | cons q R ih =>
    rw [show mapN f (q :: R) = (q.1, f q.2) :: mapN f R from rfl, lookN_cons, lookN_cons, ih]
    split <;> rfl
theorem mapN_rise {f : β → γ} {R : List (Nm × β)} : RiseN (mapN f R) ↔ RiseN R := by
  unfold RiseN mapN
  rw [List.pairwise_map]
theorem mapN_len (f : β → γ) (R : List (Nm × β)) : (mapN f R).length = R.length := by simp [mapN]
theorem mapN_mapN {δ : Type} (f : β → γ) (g : γ → δ) (R : List (Nm × β)) : mapN g (mapN f R) = mapN (fun x => g (f x)) R := by simp [mapN]
theorem mapN_names (f : β → γ) (R : List (Nm × β)) : (mapN f R).map (·.1) = R.map (·.1) := by simp [mapN]
/-! ### as a map's pairs -/
theorem putN_perm {R : List (Nm × β)} (h : RiseN R) (x : Nm) (m : β) : (putA R x m).Perm (putN R x m) :=
  perm_of_look (apart_put h.apart x m) (rise_putN h x m).apart fun y => by rw [look_putA, look_putN h]
theorem len_putN {R : List (Nm × β)} (h : RiseN R) (x : Nm) (m : β) : (putN R x m).length = if (look R x).isSome then R.length else R.length + 1 := by
  rw [← (putN_perm h x m).length_eq, len_putA h.apart]
/-! ### sums -/
def sumN (len : β → Nat) : List (Nm × β) → Nat
  | [] => 0
  | p :: R => len p.2 + sumN len R
theorem sumN_perm (len : β → Nat) {R S : List (Nm × β)} (h : R.Perm S) : sumN len R = sumN len S := by
  induction h with
  | nil => rfl
  | cons x _ ih => simp only [sumN, ih]
  | swap x y l => simp only [sumN]; omega
  | trans _ _ ih1 ih2 => rw [ih1, ih2]
theorem sumN_del (len : β → Nat) {R : List (Nm × β)} (h : R.Pairwise fun p q => p.1 ≠ q.1) (x : Nm) : sumN len (delA R x) + ((look R x).map len).getD 0 = sumN len R := by
  induction R with
  | nil => rfl
  | cons q R ih =>
    obtain ⟨h1, h2⟩ := List.pairwise_cons.1 h
    rw [lookN_cons]
    unfold delA
    rw [List.filter_cons]
    by_cases e : q.1 = x
    · rw [if_neg (by simp [e]), if_pos e]
      have : R.filter (fun p => decide (p.1 ≠ x)) = R := List.filter_eq_self.2 fun p hp => by simpa using fun h3 => h1 p hp (e.trans h3.symm)
      rw [this]
      simp only [sumN, Option.map_some, Option.getD_some]
      omega
    · rw [if_pos (by simpa using e), if_neg e]
      have := ih h2
      unfold delA at this
      simp only [sumN]
      omega
theorem sumN_put (len : β → Nat) {R : List (Nm × β)} (h : RiseN R) (x : Nm) (m : β) : sumN len (putN R x m) + ((look R x).map len).getD 0 = sumN len R + len m := by
  rw [← sumN_perm len (putN_perm h x m)]
  have := sumN_del len h.apart x
  change sumN len ((x, m) :: delA R x) + _ = _
  simp only [sumN]
  omega
theorem sumN_le (len : β → Nat) {R : List (Nm × β)} {x : Nm} {m : β} (h : look R x = some m) : len m ≤ sumN len R := by
  induction R with
  | nil => cases h
  | cons q R ih =>
    rw [lookN_cons] at h
    simp only [sumN]
    split at h
    · injection h with h; rw [h]; omega
    · have := ih h; omega
theorem sumN_map (f : β → γ) (len : γ → Nat) (R : List (Nm × β)) : sumN len (mapN f R) = sumN (fun x => len (f x)) R := by
  induction R with
  | nil => rfl
  | cons q R ih => simp only [mapN, List.map_cons, sumN] at ih ⊢; rw [ih]
/-! ### by index: what the document does -/
theorem rise_at {R : List (Nm × β)} (h : RiseN R) {i j : Nat} {p q : Nm × β} (hij : i < j) (hi : R[i]? = some p) (hj : R[j]? = some q) : p.1 < q.1 := by
  obtain ⟨h1, e1⟩ := List.getElem?_eq_some_iff.1 hi
  obtain ⟨h2, e2⟩ := List.getElem?_eq_some_iff.1 hj
  have := List.pairwise_iff_getElem.1 h i j h1 h2 hij
  rw [e1, e2] at this
  exact this
theorem look_at {R : List (Nm × β)} (h : RiseN R) {k : Nat} {p : Nm × β} (hk : R[k]? = some p) : look R p.1 = some p.2 := find_mem h.apart (List.mem_of_getElem? hk)
theorem look_no {R : List (Nm × β)} {x : Nm} (h : ∀ (i : Nat) (p : Nm × β), R[i]? = some p → p.1 ≠ x) : look R x = none := by
  unfold look
  rw [List.find?_eq_none.2 fun p hp => ?_]
  · rfl
  · obtain ⟨i, hi⟩ := List.getElem?_of_mem hp
    simpa using h i p hi
theorem del_at {R : List (Nm × β)} (h : RiseN R) {k : Nat} {p : Nm × β} (hk : R[k]? = some p) : R.take k ++ R.drop (k + 1) = delA R p.1 := by
  induction R generalizing k with
  | nil => simp at hk
  | cons q R ih =>
    obtain ⟨h1, h2⟩ := List.pairwise_cons.1 h
    unfold delA
    rw [List.filter_cons]
    cases k with
    | zero =>
      simp only [List.getElem?_cons_zero, Option.some.injEq] at hk
      subst hk
      rw [if_neg (by simp)]
      simp only [List.take_zero, List.nil_append, Nat.zero_add, List.drop_succ_cons, List.drop_zero]
      exact (List.filter_eq_self.2 fun p hp => by simpa using fun h3 => nm_ne (h1 p hp) h3.symm).symm
    | succ k =>
      rw [List.getElem?_cons_succ] at hk
      have hlt := h1 p (List.mem_of_getElem? hk)
      rw [if_pos (by simpa using nm_ne hlt), List.take_succ_cons, List.drop_succ_cons, List.cons_append, ih h2 hk]
      rfl
theorem put_at {R : List (Nm × β)} (h : RiseN R) {k : Nat} {x : Nm} {m n : β} (hk : R[k]? = some (x, n)) : R.set k (x, m) = putN R x m := by
  induction R generalizing k with
  | nil => simp at hk
  | cons q R ih =>
    obtain ⟨h1, h2⟩ := List.pairwise_cons.1 h
    obtain ⟨y, c⟩ := q
    unfold putN
    cases k with
    | zero =>
      simp only [List.getElem?_cons_zero, Option.some.injEq, Prod.mk.injEq] at hk
      rw [hk.1, if_neg (nm_irrefl x), if_pos rfl]
      rfl
    | succ k =>
      rw [List.getElem?_cons_succ] at hk
      have hlt := h1 _ (List.mem_of_getElem? hk)
      rw [if_pos hlt, List.set_cons_succ, ih h2 hk]
theorem ins_at {R : List (Nm × β)} (h : RiseN R) {k : Nat} {x : Nm} {m : β} (hl : k ≤ R.length) (hlo : ∀ (i : Nat) (p : Nm × β), i < k → R[i]? = some p → p.1 < x) (hhi : ∀ (p : Nm × β), R[k]? = some p → ¬ p.1 < x) (hno : look R x = none) :
    R.take k ++ (x, m) :: R.drop k = putN R x m := by
  induction R generalizing k with
  | nil =>
    have : k = 0 := by simpa using hl
    subst this
    rfl
  | cons q R ih =>
    obtain ⟨h1, h2⟩ := List.pairwise_cons.1 h
    obtain ⟨y, c⟩ := q
    rw [lookN_cons] at hno
    have hyx : y ≠ x := fun e => by rw [if_pos e] at hno; cases hno
    rw [if_neg hyx] at hno
    unfold putN
    cases k with
    | zero =>
      have := hhi (y, c) rfl
      rw [if_neg this, if_neg hyx]
      rfl
    | succ k =>
      have := hlo 0 (y, c) (by omega) rfl
      rw [if_pos this, List.take_succ_cons, List.drop_succ_cons, List.cons_append, ih h2 (by simpa using hl) (fun i p hi hp => hlo (i + 1) p (by omega) (by simpa using hp)) (fun p hp => hhi p (by simpa using hp)) hno]
end
end Go.Proofs.Ythnbnhlfiehihaa

