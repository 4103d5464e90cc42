/- Ranges: plain mathematics: lists of ranges as sets of numbers. -/
import Derived.Test.YtdpkmabojlihmaaPNum
namespace Go.Proofs.Ytdpkmabojlihmaa.Sp

structure Rg where
  a : Int
  b : Int
deriving DecidableEq
instance : Inhabited Rg := ⟨⟨0, 0⟩⟩
/-- the greatest number -/
def mx : Int := 1099511627775
def Rg.in_ (r : Rg) (n : Int) : Bool := decide (r.a ≤ n) && decide (n ≤ r.b)
def Rg.ok (r : Rg) : Bool := decide (1 ≤ r.a ∧ r.a ≤ r.b ∧ r.b ≤ mx)
/-- right, from lo on -/
def okR (lo : Int) : List Rg → Bool
  | [] => true
  | r :: t => decide (lo ≤ r.a) && r.ok && okR (r.b + 2) t
def right (l : List Rg) : Bool := okR 1 l
def has (l : List Rg) (n : Int) : Bool := l.any (·.in_ n)
theorem in_iff {r : Rg} {n : Int} : r.in_ n = true ↔ r.a ≤ n ∧ n ≤ r.b := by simp [Rg.in_]
theorem ok_iff {r : Rg} : r.ok = true ↔ 1 ≤ r.a ∧ r.a ≤ r.b ∧ r.b ≤ mx := by simp [Rg.ok]
theorem okR_cons {lo : Int} {r : Rg} {t : List Rg} : okR lo (r :: t) = true ↔ lo ≤ r.a ∧ r.ok = true ∧ okR (r.b + 2) t = true := by simp [okR, and_assoc]
theorem has_cons (r : Rg) (t : List Rg) (n : Int) : has (r :: t) n = (r.in_ n || has t n) := by simp [has]
theorem has_nil (n : Int) : has [] n = false := rfl
theorem has_append (l m : List Rg) (n : Int) : has (l ++ m) n = (has l n || has m n) := by simp [has]
theorem okR_mono {lo lo' : Int} (h : lo' ≤ lo) : ∀ {l : List Rg}, okR lo l = true → okR lo' l = true
  | [], _ => rfl
  | r :: t, hl => by
    rw [okR_cons] at hl ⊢
    exact ⟨by omega, hl.2⟩
/-- all numbers of a right list stand from lo on, and are numbers -/
theorem has_lo : ∀ {l : List Rg} {lo : Int}, okR lo l = true → ∀ n, has l n = true → lo ≤ n ∧ 1 ≤ n ∧ n ≤ mx
  | [], lo, _, n, h => by simp [has] at h
  | r :: t, lo, hl, n, h => by
    rw [okR_cons, ok_iff] at hl
    rw [has_cons, Bool.or_eq_true, in_iff] at h
    rcases h with h | h
    · omega
    · have := has_lo hl.2.2 n h; omega
/-- a right list is the one of its numbers -/
theorem one : ∀ {l m : List Rg} {lo lo' : Int}, okR lo l = true → okR lo' m = true → (∀ n, has l n = has m n) → l = m
  | [], [], _, _, _, _, _ => rfl
  | [], s :: u, _, _, _, hm, h => by
    have := h s.a
    rw [okR_cons, ok_iff] at hm
    rw [has_nil, has_cons, in_iff.2 ⟨Int.le_refl _, hm.2.1.2.1⟩] at this
    cases this
  | r :: t, [], _, _, hl, _, h => by
    have := h r.a
    rw [okR_cons, ok_iff] at hl
    rw [has_nil, has_cons, in_iff.2 ⟨Int.le_refl _, hl.2.1.2.1⟩] at this
    cases this
  | r :: t, s :: u, lo, lo', hl, hm, h => by
    have hl' := hl
    have hm' := hm
    rw [okR_cons, ok_iff] at hl hm
    have inl : ∀ n, has (r :: t) n = true → r.a ≤ n ∧ (n ≤ r.b ∨ r.b + 2 ≤ n ∧ has t n = true) := fun n hn => by
      rw [has_cons, Bool.or_eq_true, in_iff] at hn
      rcases hn with hn | hn
      · omega
      · have := has_lo hl.2.2 n hn; exact ⟨by omega, .inr ⟨this.1, hn⟩⟩
    have inm : ∀ n, has (s :: u) n = true → s.a ≤ n ∧ (n ≤ s.b ∨ s.b + 2 ≤ n ∧ has u n = true) := fun n hn => by
      rw [has_cons, Bool.or_eq_true, in_iff] at hn
      rcases hn with hn | hn
      · omega
      · have := has_lo hm.2.2 n hn; exact ⟨by omega, .inr ⟨this.1, hn⟩⟩
    have pl : ∀ n, r.a ≤ n → n ≤ r.b → has (s :: u) n = true := fun n h1 h2 => by rw [← h, has_cons, in_iff.2 ⟨h1, h2⟩]; rfl
    have pm : ∀ n, s.a ≤ n → n ≤ s.b → has (r :: t) n = true := fun n h1 h2 => by rw [h, has_cons, in_iff.2 ⟨h1, h2⟩]; rfl
    have ea : r.a = s.a := by
      have h1 := (inm _ (pl r.a (Int.le_refl _) hl.2.1.2.1)).1
      have h2 := (inl _ (pm s.a (Int.le_refl _) hm.2.1.2.1)).1
      omega
    have eb : r.b = s.b := by
      rcases Int.lt_trichotomy r.b s.b with hlt | he | hgt
      · have := (inl _ (pm (r.b + 1) (by omega) (by omega))).2; omega
      · exact he
      · have := (inm _ (pl (s.b + 1) (by omega) (by omega))).2; omega
    have e : r = s := by
      obtain ⟨a, b⟩ := r
      obtain ⟨a', b'⟩ := s
      simp only at ea eb
      rw [ea, eb]
    subst e
    congr 1
    refine one hl.2.2 hm.2.2 fun n => ?_
    have hn := h n
    rw [has_cons, has_cons] at hn
    rcases h1 : has t n with _ | _ <;> rcases h2 : has u n with _ | _
    · rfl
    · rw [h1, h2, Bool.or_false, Bool.or_true] at hn
      have g := has_lo hm.2.2 n h2
      have := in_iff.1 hn
      omega
    · rw [h1, h2, Bool.or_false, Bool.or_true] at hn
      have g := has_lo hl.2.2 n h1
      have := in_iff.1 hn.symm
      omega
    · rfl
theorem right_one {l m : List Rg} (hl : right l = true) (hm : right m = true) (h : ∀ n, has l n = has m n) : l = m := one hl hm h
/-! ### one range behind others -/
theorem okR_snoc : ∀ {l : List Rg} {lo : Int} {r : Rg}, okR lo (l ++ [r]) = true ↔ okR lo l = true ∧ r.ok = true ∧ lo ≤ r.a ∧ (∀ x, l.getLast? = some x → x.b + 2 ≤ r.a)
  | [], lo, r => by
    rw [List.nil_append, okR_cons]
    simp [okR]
    exact And.comm
  | x :: l, lo, r => by
    rw [List.cons_append, okR_cons, okR_snoc, okR_cons]
    constructor
    · rintro ⟨h1, h2, h3, h4, h5, h6⟩
      refine ⟨⟨h1, h2, h3⟩, h4, ?_, fun y hy => ?_⟩
      · have := ok_iff.1 h2; omega
      · cases l with
        | nil => simp at hy; subst hy; exact h5
        | cons z l => exact h6 y (by rw [List.getLast?_cons_cons] at hy; exact hy)
    · rintro ⟨⟨h1, h2, h3⟩, h4, h5, h6⟩
      refine ⟨h1, h2, h3, h4, ?_, fun y hy => ?_⟩
      · cases l with
        | nil => exact h6 x rfl
        | cons z l =>
          obtain ⟨y, hy⟩ : ∃ y, (z :: l).getLast? = some y := by
            rw [List.getLast?_eq_some_getLast (by simp)]; exact ⟨_, rfl⟩
          have h7 := h6 y (by rw [List.getLast?_cons_cons]; exact hy)
          have hb := okR_last h3 hy
          omega
      · cases l with
        | nil => simp at hy
        | cons z l => exact h6 y (by rw [List.getLast?_cons_cons]; exact hy)
 where okR_last : ∀ {l : List Rg} {lo : Int} {y : Rg}, okR lo l = true → l.getLast? = some y → lo ≤ y.a ∧ y.ok = true ∧ lo ≤ y.b
  | [], _, _, _, h => by simp at h
  | [x], lo, y, hl, h => by
    simp at h
    subst h
    rw [okR_cons] at hl
    have := ok_iff.1 hl.2.1
    exact ⟨hl.1, hl.2.1, by omega⟩
  | x :: z :: l, lo, y, hl, h => by
    rw [okR_cons] at hl
    rw [List.getLast?_cons_cons] at h
    have h1 := okR_last hl.2.2 h
    have h2 := ok_iff.1 hl.2.1
    exact ⟨by omega, h1.2.1, by omega⟩
theorem last_split {l : List Rg} {x : Rg} (h : l.getLast? = some x) : l = l.dropLast ++ [x] := by
  have hne : l ≠ [] := by intro e; rw [e] at h; cases h
  rw [List.getLast?_eq_some_getLast hne] at h
  injection h with h
  rw [← h, List.dropLast_concat_getLast]
def putR (o : List Rg) (r : Rg) : List Rg :=
  match o.getLast? with
  | none => o ++ [r]
  | some x => if r.a ≤ x.b + 1 then o.dropLast ++ [⟨x.a, max x.b r.b⟩] else o ++ [r]
theorem putR_ok {o : List Rg} {r : Rg} (ho : right o = true) (hr : r.ok = true) (hs : ∀ x, o.getLast? = some x → x.a ≤ r.a) :
    right (putR o r) = true ∧ (∀ n, has (putR o r) n = (has o n || r.in_ n)) ∧ ∀ x, (putR o r).getLast? = some x → x.a ≤ r.a := by
  have hr' := ok_iff.1 hr
  cases hl : o.getLast? with
  | none =>
    have : o = [] := List.getLast?_eq_none_iff.1 hl
    subst this
    refine ⟨by simp [putR, right, okR, hr]; omega, fun n => by simp [putR, has], fun x hx => by simp [putR] at hx; subst hx; omega⟩
  | some x =>
    have hx := hs x hl
    have hsp := last_split hl
    have hok := ho
    rw [hsp, right, okR_snoc] at hok
    obtain ⟨h1, h2, h3, h4⟩ := hok
    have h2' := ok_iff.1 h2
    by_cases hc : r.a ≤ x.b + 1
    · have e : putR o r = o.dropLast ++ [⟨x.a, max x.b r.b⟩] := by rw [putR, hl]; simp only; rw [if_pos hc]
      rw [e]
      refine ⟨?_, fun n => ?_, fun y hy => by simp at hy; subst hy; exact hx⟩
      · rw [right, okR_snoc]
        exact ⟨h1, ok_iff.2 ⟨by simp only; omega, by simp only; omega, by simp only; omega⟩, h3, h4⟩
      · have e2 : has o n = (has o.dropLast n || x.in_ n) := by
          conv => lhs; rw [hsp, has_append]
          simp [has]
        rw [has_append, e2, Bool.or_assoc]
        congr 1
        rw [Bool.eq_iff_iff, has_cons, has_nil, Bool.or_false, Bool.or_eq_true, in_iff, in_iff, in_iff]
        simp only
        omega
    · have e : putR o r = o ++ [r] := by rw [putR, hl]; simp only; rw [if_neg hc]
      rw [e]
      refine ⟨?_, fun n => by simp [has], fun y hy => by simp at hy; subst hy; omega⟩
      rw [right, okR_snoc]
      refine ⟨ho, hr, by omega, fun y hy => ?_⟩
      rw [hl] at hy
      injection hy with hy
      subst hy
      omega
/-- ranges in the order of where they begin, put together -/
theorem fold_put : ∀ {l o : List Rg}, right o = true → (∀ r ∈ l, r.ok = true) → (l.Pairwise fun r s => r.a ≤ s.a) → (∀ x, o.getLast? = some x → ∀ r ∈ l, x.a ≤ r.a) →
    right (l.foldl putR o) = true ∧ ∀ n, has (l.foldl putR o) n = (has o n || has l n)
  | [], o, ho, _, _, _ => ⟨ho, fun n => by simp [has]⟩
  | r :: l, o, ho, hl, hp, hs => by
    obtain ⟨hr, hp'⟩ := List.pairwise_cons.1 hp
    obtain ⟨h1, h2, h3⟩ := putR_ok ho (hl r (by simp)) (fun x hx => hs x hx r (by simp))
    obtain ⟨k1, k2⟩ := fold_put h1 (fun s hs' => hl s (by simp [hs'])) hp' (fun x hx s hs' => by have := h3 x hx; have := hr s hs'; omega)
    refine ⟨k1, fun n => ?_⟩
    rw [List.foldl_cons, k2, h2, has_cons, Bool.or_assoc]
/-! ### the document's add -/
def mergeR : List Rg → Rg → Rg × List Rg
  | [], r => (r, [])
  | x :: t, r => if x.a ≤ r.b + 1 then mergeR t ⟨min r.a x.a, max r.b x.b⟩ else (r, x :: t)
def addR : List Rg → Rg → List Rg
  | [], r => [r]
  | x :: t, r => if x.b < r.a - 1 then x :: addR t r else (mergeR (x :: t) r).1 :: (mergeR (x :: t) r).2
theorem mergeR_ok : ∀ {l : List Rg} {lo : Int} {r : Rg}, okR lo l = true → r.ok = true → (∀ x, l.head? = some x → r.a ≤ x.b + 1) →
    (mergeR l r).1.ok = true ∧ okR ((mergeR l r).1.b + 2) (mergeR l r).2 = true ∧ ((mergeR l r).1.a = r.a ∨ lo ≤ (mergeR l r).1.a) ∧ ∀ n, ((mergeR l r).1.in_ n || has (mergeR l r).2 n) = (r.in_ n || has l n)
  | [], lo, r, _, hr, _ => ⟨hr, rfl, .inl rfl, fun n => rfl⟩
  | x :: t, lo, r, hl, hr, hx => by
    have hx' := hx x rfl
    rw [okR_cons] at hl
    have h1 := ok_iff.1 hl.2.1
    have h2 := ok_iff.1 hr
    by_cases hc : x.a ≤ r.b + 1
    · have hr2 : Rg.ok ⟨min r.a x.a, max r.b x.b⟩ = true := ok_iff.2 ⟨by simp only; omega, by simp only; omega, by simp only; omega⟩
      have ih := mergeR_ok (l := t) (lo := x.b + 2) (r := ⟨min r.a x.a, max r.b x.b⟩) hl.2.2 hr2 (fun y hy => by
        cases t with
        | nil => cases hy
        | cons z t =>
          simp at hy
          subst hy
          have h3 := hl.2.2
          rw [okR_cons, ok_iff] at h3
          simp only
          omega)
      have e : mergeR (x :: t) r = mergeR t ⟨min r.a x.a, max r.b x.b⟩ := by rw [mergeR, if_pos hc]
      rw [e]
      obtain ⟨k1, k2, k3, k4⟩ := ih
      refine ⟨k1, k2, ?_, fun n => ?_⟩
      · simp only at k3; omega
      · rw [k4, has_cons, ← Bool.or_assoc]
        congr 1
        rw [Bool.eq_iff_iff, Bool.or_eq_true, in_iff, in_iff, in_iff]
        simp only
        omega
    · have e : mergeR (x :: t) r = (r, x :: t) := by rw [mergeR, if_neg hc]
      rw [e]
      exact ⟨hr, by rw [okR_cons]; exact ⟨by show r.b + 2 ≤ x.a; omega, hl.2⟩, .inl rfl, fun n => rfl⟩
theorem addR_ok : ∀ {l : List Rg} {lo : Int} {r : Rg}, okR lo l = true → r.ok = true → lo ≤ r.a → okR lo (addR l r) = true ∧ ∀ n, has (addR l r) n = (has l n || r.in_ n)
  | [], lo, r, _, hr, h => ⟨by simp [addR, okR, hr, h], fun n => by simp [addR, has]⟩
  | x :: t, lo, r, hl, hr, h => by
    by_cases hc : x.b < r.a - 1
    · rw [okR_cons] at hl
      obtain ⟨k1, k2⟩ := addR_ok (l := t) (lo := x.b + 2) (r := r) hl.2.2 hr (by omega)
      rw [addR, if_pos hc]
      exact ⟨by rw [okR_cons]; exact ⟨hl.1, hl.2.1, k1⟩, fun n => by rw [has_cons, k2, has_cons, Bool.or_assoc]⟩
    · obtain ⟨k1, k2, k3, k4⟩ := mergeR_ok (r := r) hl hr (fun y hy => by simp at hy; subst hy; omega)
      rw [addR, if_neg hc]
      exact ⟨by rw [okR_cons]; exact ⟨by omega, k1, k2⟩, fun n => by rw [has_cons, k4, Bool.or_comm]⟩
def joinR (a b : List Rg) : List Rg := b.foldl addR a
theorem fold_add : ∀ {b a : List Rg}, right a = true → (∀ r ∈ b, r.ok = true) → right (b.foldl addR a) = true ∧ ∀ n, has (b.foldl addR a) n = (has a n || has b n)
  | [], a, ha, _ => ⟨ha, fun n => by simp [has]⟩
  | r :: b, a, ha, hb => by
    have hr := hb r (by simp)
    obtain ⟨k1, k2⟩ := addR_ok (lo := 1) ha hr (ok_iff.1 hr).1
    obtain ⟨j1, j2⟩ := fold_add (b := b) k1 (fun s hs => hb s (by simp [hs]))
    exact ⟨j1, fun n => by rw [List.foldl_cons, j2, k2, has_cons, Bool.or_assoc]⟩
theorem right_ok : ∀ {l : List Rg} {lo : Int}, okR lo l = true → ∀ r ∈ l, r.ok = true
  | x :: t, lo, h, r, hr => by
    rw [okR_cons] at h
    rcases List.mem_cons.1 hr with e | hr
    · subst e; exact h.2.1
    · exact right_ok h.2.2 r hr
/-! ### what is taken away -/
def cut1 (o x : Rg) : List Rg := (if o.a ≤ min o.b (x.a - 1) then [⟨o.a, min o.b (x.a - 1)⟩] else []) ++ (if max o.a (x.b + 1) ≤ o.b then [⟨max o.a (x.b + 1), o.b⟩] else [])
def cutR (l : List Rg) (x : Rg) : List Rg := l.flatMap fun o => cut1 o x
def minusR (a b : List Rg) : List Rg := b.foldl cutR a
theorem cut1_has {o x : Rg} (hx : x.ok = true) (n : Int) : has (cut1 o x) n = (o.in_ n && !x.in_ n) := by
  have h := ok_iff.1 hx
  unfold cut1
  rw [has_append, Bool.eq_iff_iff, Bool.and_eq_true, Bool.or_eq_true, Bool.not_eq_true', in_iff]
  have hxn : x.in_ n = false ↔ ¬ (x.a ≤ n ∧ n ≤ x.b) := by rw [← in_iff]; simp
  rw [hxn]
  by_cases h1 : o.a ≤ min o.b (x.a - 1)
  · rw [if_pos h1]
    by_cases h2 : max o.a (x.b + 1) ≤ o.b
    · rw [if_pos h2, has_cons, has_cons, has_nil, Bool.or_false, Bool.or_false, in_iff, in_iff]; simp only; omega
    · rw [if_neg h2, has_cons, has_nil, Bool.or_false, in_iff]; simp only [Bool.false_eq_true, or_false]; omega
  · rw [if_neg h1]
    by_cases h2 : max o.a (x.b + 1) ≤ o.b
    · rw [if_pos h2, has_cons, has_nil, Bool.or_false, in_iff]; simp only [Bool.false_eq_true, false_or]; omega
    · rw [if_neg h2, has_nil]; simp only [Bool.false_eq_true, false_or, false_iff]; omega
theorem okR_append : ∀ {l m : List Rg} {lo hi : Int}, okR lo l = true → (∀ n, has l n = true → n + 2 ≤ hi) → okR hi m = true → lo ≤ hi → okR lo (l ++ m) = true
  | [], m, lo, hi, _, _, hm, h => okR_mono h hm
  | x :: t, m, lo, hi, hl, hh, hm, h => by
    rw [okR_cons] at hl
    have h1 := ok_iff.1 hl.2.1
    have h2 := hh x.b (by rw [has_cons, in_iff.2 ⟨h1.2.1, Int.le_refl _⟩]; rfl)
    rw [List.cons_append, okR_cons]
    exact ⟨hl.1, hl.2.1, okR_append hl.2.2 (fun n hn => hh n (by rw [has_cons, hn, Bool.or_true])) hm h2⟩
theorem cut1_ok {o x : Rg} (ho : o.ok = true) (hx : x.ok = true) : okR o.a (cut1 o x) = true := by
  have h := ok_iff.1 hx
  have h' := ok_iff.1 ho
  unfold cut1
  by_cases h1 : o.a ≤ min o.b (x.a - 1)
  · rw [if_pos h1]
    by_cases h2 : max o.a (x.b + 1) ≤ o.b
    · rw [if_pos h2, List.singleton_append, okR_cons, okR_cons, ok_iff, ok_iff]; simp only [okR, and_true]; omega
    · rw [if_neg h2, List.append_nil, okR_cons, ok_iff]; simp only [okR, and_true]; omega
  · rw [if_neg h1]
    by_cases h2 : max o.a (x.b + 1) ≤ o.b
    · rw [if_pos h2, List.nil_append, okR_cons, ok_iff]; simp only [okR, and_true]; omega
    · rw [if_neg h2]; rfl
theorem cutR_ok {x : Rg} (hx : x.ok = true) : ∀ {l : List Rg} {lo : Int}, okR lo l = true → okR lo (cutR l x) = true ∧ ∀ n, has (cutR l x) n = (has l n && !x.in_ n)
  | [], lo, _ => ⟨rfl, fun n => rfl⟩
  | o :: t, lo, hl => by
    rw [okR_cons] at hl
    have ho := ok_iff.1 hl.2.1
    obtain ⟨k1, k2⟩ := cutR_ok hx hl.2.2
    have e : cutR (o :: t) x = cut1 o x ++ cutR t x := by simp [cutR]
    rw [e]
    refine ⟨okR_append (hi := o.b + 2) (okR_mono hl.1 (cut1_ok hl.2.1 hx)) (fun n hn => ?_) k1 (by omega), fun n => ?_⟩
    · rw [cut1_has hx, Bool.and_eq_true, in_iff] at hn
      omega
    · rw [has_append, cut1_has hx, k2, has_cons, Bool.and_or_distrib_right]
theorem fold_cut : ∀ {b a : List Rg}, right a = true → (∀ r ∈ b, r.ok = true) → right (minusR a b) = true ∧ ∀ n, has (minusR a b) n = (has a n && !has b n)
  | [], a, ha, _ => ⟨ha, fun n => by simp [minusR, has]⟩
  | r :: b, a, ha, hb => by
    obtain ⟨k1, k2⟩ := cutR_ok (hb r (by simp)) ha
    obtain ⟨j1, j2⟩ := fold_cut (b := b) k1 (fun s hs => hb s (by simp [hs]))
    refine ⟨j1, fun n => ?_⟩
    have := j2 n
    rw [k2] at this
    rw [has_cons, Bool.not_or, ← Bool.and_assoc]
    exact this
/-- the program's way: one range and what is taken of it -/
def piece (r : Rg) : List Rg → List Rg
  | [] => if r.a ≤ r.b then [r] else []
  | x :: t => if x.a > r.b then (if r.a ≤ r.b then [r] else []) else (if x.a > r.a then [⟨r.a, x.a - 1⟩] else []) ++ piece ⟨x.b + 1, r.b⟩ t
def minP : List Rg → List Rg → List Rg
  | [], _ => []
  | r :: t, b => piece r (b.dropWhile fun x => decide (x.b < r.a)) ++ minP t (b.dropWhile fun x => decide (x.b < r.a))
theorem piece_ok : ∀ {b : List Rg} {r : Rg} {lo : Int}, okR lo b = true → 1 ≤ r.a → r.b ≤ mx → (∀ x, b.head? = some x → r.a ≤ x.b) →
    okR r.a (piece r b) = true ∧ ∀ n, has (piece r b) n = (r.in_ n && !has b n)
  | [], r, lo, _, h1, h2, _ => by
    rw [piece]
    by_cases h : r.a ≤ r.b
    · rw [if_pos h]; exact ⟨by rw [okR_cons, ok_iff]; exact ⟨by omega, ⟨h1, h, h2⟩, rfl⟩, fun n => by simp [has]⟩
    · rw [if_neg h]
      refine ⟨rfl, fun n => ?_⟩
      have : r.in_ n = false := by rw [← Bool.not_eq_true, in_iff]; omega
      rw [this]; rfl
  | x :: t, r, lo, hb, h1, h2, hx => by
    have hx' := hx x rfl
    rw [okR_cons] at hb
    have hxo := ok_iff.1 hb.2.1
    rw [piece]
    by_cases hc : x.a > r.b
    · rw [if_pos hc]
      have hn : ∀ n, r.in_ n = true → has (x :: t) n = false := fun n hn => by
        rw [← Bool.not_eq_true]
        intro h
        rw [in_iff] at hn
        rw [has_cons, Bool.or_eq_true, in_iff] at h
        rcases h with h | h
        · omega
        · have := has_lo hb.2.2 n h; omega
      by_cases h : r.a ≤ r.b
      · rw [if_pos h]
        refine ⟨by rw [okR_cons, ok_iff]; exact ⟨by omega, ⟨h1, h, h2⟩, rfl⟩, fun n => ?_⟩
        rw [has_cons, has_nil, Bool.or_false]
        cases hr : r.in_ n with
        | false => rfl
        | true => rw [hn n hr]; rfl
      · rw [if_neg h]
        refine ⟨rfl, fun n => ?_⟩
        have : r.in_ n = false := by rw [← Bool.not_eq_true, in_iff]; omega
        rw [this]; rfl
    · rw [if_neg hc]
      obtain ⟨k1, k2⟩ := piece_ok (b := t) (r := ⟨x.b + 1, r.b⟩) (lo := x.b + 2) hb.2.2 (by simp only; omega) h2 (fun y hy => by
        cases t with
        | nil => cases hy
        | cons z t =>
          simp at hy
          subst hy
          have h3 := hb.2.2
          rw [okR_cons, ok_iff] at h3
          simp only
          omega)
      simp only at k1
      have hkey : ∀ n, (r.in_ n && !has (x :: t) n) = ((Rg.mk r.a (x.a - 1)).in_ n || ((Rg.mk (x.b + 1) r.b).in_ n && !has t n)) := fun n => by
        rw [has_cons, Bool.eq_iff_iff]
        have ht : has t n = true → x.b + 2 ≤ n := fun h => (has_lo hb.2.2 n h).1
        cases hh : has t n with
        | false =>
          simp only [Bool.or_false, Bool.not_false, Bool.and_true, Bool.and_eq_true, Bool.or_eq_true, Bool.not_eq_true', in_iff]
          have hxn : x.in_ n = false ↔ ¬ (x.a ≤ n ∧ n ≤ x.b) := by rw [← in_iff]; simp
          rw [hxn]
          omega
        | true =>
          have := ht hh
          simp only [Bool.or_true, Bool.not_true, Bool.and_false, Bool.or_false, in_iff, Bool.false_eq_true, false_iff]
          omega
      by_cases h : x.a > r.a
      · rw [if_pos h]
        refine ⟨?_, fun n => by rw [has_append, k2, has_cons, has_nil, Bool.or_false, hkey]⟩
        refine okR_append (hi := x.b + 1) ?_ (fun n hn => ?_) k1 (by omega)
        · rw [okR_cons, ok_iff]; exact ⟨by simp only; omega, ⟨by simp only; omega, by simp only; omega, by simp only; omega⟩, rfl⟩
        · rw [has_cons, has_nil, Bool.or_false, in_iff] at hn
          simp only at hn
          omega
      · rw [if_neg h, List.nil_append]
        refine ⟨okR_mono (by omega) k1, fun n => ?_⟩
        rw [k2, hkey]
        have : (Rg.mk r.a (x.a - 1)).in_ n = false := by rw [← Bool.not_eq_true, in_iff]; simp only; omega
        rw [this, Bool.false_or]
end Go.Proofs.Ytdpkmabojlihmaa.Sp

