/- Ranges: the forms that the walks step through; the laws' sets. -/
import Derived.Test.YtdpkmabojlihmaaPSpan2
namespace Go.Proofs.Ytdpkmabojlihmaa.Sp

theorem add_at : ∀ (l : List Rg) (r : Rg) (i : Nat), i ≤ l.length → (∀ j, j < i → (l[j]?.getD ⟨0, 0⟩).b < r.a - 1) → (i = l.length ∨ ¬ (l[i]?.getD ⟨0, 0⟩).b < r.a - 1) →
    addR l r = l.take i ++ (mergeR (l.drop i) r).1 :: (mergeR (l.drop i) r).2
  | [], r, i, hi, _, _ => by
    obtain rfl : i = 0 := by simpa using hi
    rfl
  | x :: t, r, 0, _, _, h => by
    have : ¬ x.b < r.a - 1 := by rcases h with h | h; · simp at h
                                 · simpa using h
    rw [addR, if_neg this]; rfl
  | x :: t, r, i + 1, hi, hj, h => by
    have h0 : x.b < r.a - 1 := by simpa using hj 0 (by omega)
    rw [addR, if_pos h0, add_at t r i (by simpa using hi) (fun j hj' => by simpa using hj (j + 1) (by omega)) (by simpa using h)]
    rfl
theorem merge_step {l : List Rg} {r : Rg} {i : Nat} (hi : i < l.length) (h : (l[i]?.getD ⟨0, 0⟩).a ≤ r.b + 1) :
    mergeR (l.drop i) r = mergeR (l.drop (i + 1)) ⟨min r.a (l[i]?.getD ⟨0, 0⟩).a, max r.b (l[i]?.getD ⟨0, 0⟩).b⟩ := by
  rw [List.getElem?_eq_getElem hi, Option.getD_some] at h ⊢
  rw [List.drop_eq_getElem_cons hi, mergeR, if_pos h]
theorem merge_stop {l : List Rg} {r : Rg} {i : Nat} (h : i = l.length ∨ i < l.length ∧ ¬ (l[i]?.getD ⟨0, 0⟩).a ≤ r.b + 1) : mergeR (l.drop i) r = (r, l.drop i) := by
  rcases h with h | ⟨hi, h⟩
  · rw [h, List.drop_length]; rfl
  · rw [List.getElem?_eq_getElem hi, Option.getD_some] at h
    rw [List.drop_eq_getElem_cons hi, mergeR, if_neg h]
/-! ### joined, taken away: right lists of the sets -/
def joinS (a b : List Rg) : List Rg := if right a = true ∧ right b = true then b.foldl addR a else []
def minusS (a b : List Rg) : List Rg := if right a = true ∧ right b = true then minusR a b else []
def hasS (l : List Rg) (n : Int) : Bool := right l && has l n
def countS (l : List Rg) : Int := if right l = true then countR l else 0
def firstS (l : List Rg) : Int := if right l = true then firstR l else 0
theorem joinS_right (a b : List Rg) : right (joinS a b) = true := by
  unfold joinS
  split
  · rename_i h; exact (fold_add h.1 (right_ok h.2)).1
  · rfl
theorem minusS_right (a b : List Rg) : right (minusS a b) = true := by
  unfold minusS
  split
  · rename_i h; exact (fold_cut h.1 (right_ok h.2)).1
  · rfl
theorem joinS_has {a b : List Rg} (ha : right a = true) (hb : right b = true) (n : Int) : has (joinS a b) n = (has a n || has b n) := by
  rw [joinS, if_pos ⟨ha, hb⟩]
  exact (fold_add ha (right_ok hb)).2 n
theorem minusS_has {a b : List Rg} (ha : right a = true) (hb : right b = true) (n : Int) : has (minusS a b) n = (has a n && !has b n) := by
  rw [minusS, if_pos ⟨ha, hb⟩]
  exact (fold_cut ha (right_ok hb)).2 n
/-- the program's join: sorted, then put together -/
theorem all_join {a b l : List Rg} (ha : right a = true) (hb : right b = true) (hm : ∀ r, r ∈ l ↔ r ∈ a ++ b) (hs : l.Pairwise fun r s => r.a ≤ s.a) : l.foldl putR [] = joinS a b := by
  have hok : ∀ r ∈ l, r.ok = true := fun r hr => by
    rcases List.mem_append.1 ((hm r).1 hr) with h | h
    · exact right_ok ha r h
    · exact right_ok hb r h
  obtain ⟨k1, k2⟩ := fold_put (o := []) rfl hok hs (fun x hx => by cases hx)
  refine right_one k1 (joinS_right a b) fun n => ?_
  rw [k2, joinS_has ha hb, has_nil, Bool.false_or, ← has_append, Bool.eq_iff_iff]
  simp only [has, List.any_eq_true]
  constructor
  · rintro ⟨r, h1, h2⟩; exact ⟨r, (hm r).1 h1, h2⟩
  · rintro ⟨r, h1, h2⟩; exact ⟨r, (hm r).2 h1, h2⟩
theorem minP_eq {a b : List Rg} (ha : right a = true) (hb : right b = true) : minP a b = minusS a b := by
  obtain ⟨k1, k2⟩ := minP_ok ha hb
  refine right_one k1 (minusS_right a b) fun n => ?_
  rw [k2, minusS_has ha hb]
/-- the list of some numbers -/
def numOk (n : Int) : Bool := decide (1 ≤ n ∧ n ≤ mx)
def ofS (l : List Int) : List Rg := l.foldl (fun o n => if numOk n = true then addR o ⟨n, n⟩ else o) []
theorem ofS_gen : ∀ (l : List Int) (o : List Rg), right o = true → right (l.foldl (fun o n => if numOk n = true then addR o ⟨n, n⟩ else o) o) = true ∧
    ∀ n, has (l.foldl (fun o n => if numOk n = true then addR o ⟨n, n⟩ else o) o) n = (has o n || (numOk n && l.contains n))
  | [], o, ho => ⟨ho, fun n => by simp⟩
  | x :: l, o, ho => by
    rw [List.foldl_cons]
    by_cases hx : numOk x = true
    · rw [if_pos hx]
      have hx' := hx
      rw [numOk, decide_eq_true_eq] at hx'
      obtain ⟨k1, k2⟩ := addR_ok (r := ⟨x, x⟩) (lo := 1) ho (ok_iff.2 ⟨hx'.1, Int.le_refl _, hx'.2⟩) hx'.1
      obtain ⟨j1, j2⟩ := ofS_gen l _ k1
      refine ⟨j1, fun n => ?_⟩
      rw [j2, k2, Bool.or_assoc]
      congr 1
      rw [List.contains_cons, Bool.eq_iff_iff]
      simp only [Bool.or_eq_true, Bool.and_eq_true, in_iff, beq_iff_eq]
      constructor
      · rintro (⟨h1, h2⟩ | ⟨h1, h2⟩)
        · have e : n = x := by omega
          subst e
          exact ⟨hx, .inl rfl⟩
        · exact ⟨h1, .inr h2⟩
      · rintro ⟨h1, h2 | h2⟩
        · subst h2; exact .inl ⟨Int.le_refl _, Int.le_refl _⟩
        · exact .inr ⟨h1, h2⟩
    · rw [if_neg hx]
      obtain ⟨j1, j2⟩ := ofS_gen l o ho
      refine ⟨j1, fun n => ?_⟩
      rw [j2, List.contains_cons]
      congr 1
      rw [Bool.eq_iff_iff]
      simp only [Bool.and_eq_true, Bool.or_eq_true, beq_iff_eq]
      constructor
      · rintro ⟨h1, h2⟩; exact ⟨h1, .inr h2⟩
      · rintro ⟨h1, h2 | h2⟩
        · subst h2; exact absurd h1 hx
        · exact ⟨h1, h2⟩
theorem ofS_right (l : List Int) : right (ofS l) = true := (ofS_gen l [] rfl).1
theorem ofS_has (l : List Int) (n : Int) : has (ofS l) n = (numOk n && l.contains n) := by rw [ofS, (ofS_gen l [] rfl).2, has_nil, Bool.false_or]
theorem ofS_same {l m : List Int} (h : ∀ n, n ∈ l ↔ n ∈ m) : ofS l = ofS m := right_one (ofS_right l) (ofS_right m) fun n => by
  rw [ofS_has, ofS_has]
  congr 1
  rw [Bool.eq_iff_iff, List.contains_iff_mem, List.contains_iff_mem]
  exact h n
/-- the program's list of numbers: sorted one by one, put together -/
theorem all_of {xs : List Int} {l : List Rg} (hm : ∀ r, r ∈ l ↔ ∃ n ∈ xs, numOk n = true ∧ r = ⟨n, n⟩) (hs : l.Pairwise fun r s => r.a ≤ s.a) : l.foldl putR [] = ofS xs := by
  have hok : ∀ r ∈ l, r.ok = true := fun r hr => by
    obtain ⟨n, _, h1, rfl⟩ := (hm r).1 hr
    rw [numOk, decide_eq_true_eq] at h1
    exact ok_iff.2 ⟨h1.1, Int.le_refl _, h1.2⟩
  obtain ⟨k1, k2⟩ := fold_put (o := []) rfl hok hs (fun x hx => by cases hx)
  refine right_one k1 (ofS_right xs) fun n => ?_
  rw [k2, ofS_has, has_nil, Bool.false_or, Bool.eq_iff_iff, Bool.and_eq_true, List.contains_iff_mem]
  simp only [has, List.any_eq_true]
  constructor
  · rintro ⟨r, h1, h2⟩
    obtain ⟨m, h3, h4, rfl⟩ := (hm r).1 h1
    rw [in_iff] at h2
    have e : n = m := by simp only at h2; omega
    subst e
    exact ⟨h4, h3⟩
  · rintro ⟨h1, h2⟩
    exact ⟨⟨n, n⟩, (hm _).2 ⟨n, h2, h1, rfl⟩, in_iff.2 ⟨Int.le_refl _, Int.le_refl _⟩⟩
end Go.Proofs.Ytdpkmabojlihmaa.Sp

