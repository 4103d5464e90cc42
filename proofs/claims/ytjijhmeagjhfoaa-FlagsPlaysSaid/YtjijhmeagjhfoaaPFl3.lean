/- Flags: plain facts of the laws. -/
import Derived.Test.YtjijhmeagjhfoaaPFl2
namespace Go.Proofs.Ytjijhmeagjhfoaa

/-- what counts of some marks, the one behind the other -/
def bestO (o : Option FM) (l : List FM) : Option FM := l.foldl (fun o m => if m.s.right then some (mxO o m) else o) o
def codeR (m : FM) : Int := if m.s.right then m.code else -1
theorem rightO_none : rightO none := fun _ h => by cases h
theorem codeR_ge (m : FM) : -1 ≤ codeR m := by
  unfold codeR
  split
  · rename_i h
    have := FM.code_nonneg (m := m) h
    omega
  · exact Int.le_refl _
theorem codeO_ge {o : Option FM} (h : rightO o) : -1 ≤ codeO o := by
  cases o with
  | none => exact Int.le_refl _
  | some m => have := FM.code_nonneg (h m rfl); simp only [codeO]; omega
theorem bestO_right : ∀ (l : List FM) (o : Option FM), rightO o → rightO (bestO o l)
  | [], _, h => h
  | m :: l, o, h => by
    refine bestO_right l _ ?_
    show rightO (if m.s.right = true then some (mxO o m) else o)
    split
    · rename_i hm
      intro a ha
      cases ha
      exact mxO_right h hm
    · exact h
theorem bestO_code : ∀ (l : List FM) (o : Option FM), rightO o → codeO (bestO o l) = l.foldl (fun c m => max c (codeR m)) (codeO o)
  | [], _, _ => rfl
  | m :: l, o, h => by
    show codeO (bestO (if m.s.right = true then some (mxO o m) else o) l) = l.foldl (fun c m => max c (codeR m)) (max (codeO o) (codeR m))
    have ho := codeO_ge h
    by_cases hm : m.s.right = true
    · rw [if_pos hm, bestO_code l _ (fun a ha => by cases ha; exact mxO_right h hm)]
      congr 1
      rw [codeR, if_pos hm]
      exact mxO_code h hm
    · rw [if_neg hm, bestO_code l _ h]
      congr 1
      rw [codeR, if_neg hm]
      omega
theorem best_perm {l k : List FM} (h : l.Perm k) : bestO none l = bestO none k := by
  refine codeO_inj (bestO_right l none rightO_none) (bestO_right k none rightO_none) ?_
  rw [bestO_code l none rightO_none, bestO_code k none rightO_none]
  exact h.foldl_eq' (fun a _ b _ c => by omega) _
theorem bestO_snoc (o : Option FM) (l : List FM) (m : FM) : bestO o (l ++ [m]) = if m.s.right then some (mxO (bestO o l) m) else bestO o l := by
  unfold bestO
  rw [List.foldl_append]
  rfl
/-- the list of one id -/
def oneR (x : ID) (o : Option FM) : List FE := match o with | none => [] | some m => [(x, m)]
theorem one_look (x : ID) (o : Option FM) : look (oneR x o) x = o := by
  cases o with
  | none => rfl
  | some m => rw [oneR, look_cons, if_pos rfl]
theorem one_rise (x : ID) (o : Option FM) : Rise (oneR x o) := by cases o <;> simp [oneR, Rise]
theorem one_all {x : ID} {o : Option FM} (h : rightO o) : AllR (oneR x o) := by
  cases o with
  | none => intro p hp; simp [oneR] at hp
  | some m => intro p hp; simp [oneR] at hp; rw [hp]; exact h m rfl
theorem put_one (x : ID) (o : Option FM) (m : FM) : putR (oneR x o) x m = oneR x (some (mxO o m)) := by
  cases o with
  | none => rfl
  | some a =>
    simp only [oneR, putR, ID.irrefl]
    simp
theorem one_inj {x : ID} {o o' : Option FM} (h : oneR x o = oneR x o') : o = o' := by
  have := congrArg (fun l => look l x) h
  simpa [one_look] using this
/-- the document's way to the same -/
theorem best_step (a m : FM) : mxO (some a) m = if a.s.lt m.s then m else if a.s = m.s then ⟨a.s, a.on || m.on⟩ else a := by
  obtain ⟨s, on⟩ := a
  obtain ⟨t, b⟩ := m
  obtain ⟨p, l, r⟩ := s
  obtain ⟨p', l', r'⟩ := t
  simp only [mxO, keepM, S3.lt, S3.mk.injEq]
  by_cases h1 : p < p' ∨ p = p' ∧ (l < l' ∨ l = l' ∧ r < r')
  · have h2 : ¬ (p' < p ∨ p' = p ∧ (l' < l ∨ l' = l ∧ r' < r)) := by omega
    have h3 : ¬ (p' = p ∧ l' = l ∧ r' = r) := by omega
    simp [h1, h2, h3]
  · by_cases h4 : p = p' ∧ l = l' ∧ r = r'
    · obtain ⟨rfl, rfl, rfl⟩ := h4
      cases on <;> cases b <;> simp
    · have h2 : (p' < p ∨ p' = p ∧ (l' < l ∨ l' = l ∧ r' < r)) := by omega
      simp [h1, h2, h4]
/-- the places of the other way round are all places -/
theorem turn_perm (n k : Nat) (hn : 0 < n) : ((List.range n).map fun i => n - 1 - (i + k) % n).Perm (List.range n) := by
  have hnd : ((List.range n).map fun i => n - 1 - (i + k) % n).Nodup := by
    rw [List.nodup_iff_pairwise_ne, List.pairwise_map]
    refine List.Pairwise.imp_of_mem (R := fun a b : Nat => a < b) ?_ List.pairwise_lt_range
    intro a b ha hb hab he
    have ha := List.mem_range.1 ha
    have hb := List.mem_range.1 hb
    have h1 := Nat.mod_lt (a + k) hn
    have h2 := Nat.mod_lt (b + k) hn
    have h3 : (a + k) % n = (b + k) % n := by omega
    have h4 := Nat.div_add_mod (a + k) n
    have h5 := Nat.div_add_mod (b + k) n
    rw [h3] at h4
    have h6 : n * ((b + k) / n) - n * ((a + k) / n) = b - a := by omega
    rw [← Nat.mul_sub] at h6
    rcases Nat.eq_zero_or_pos ((b + k) / n - (a + k) / n) with h0 | h0
    · rw [h0] at h6; omega
    · have := Nat.mul_le_mul_left n h0
      omega
  refine (List.perm_ext_iff_of_nodup hnd List.nodup_range).2 fun j => ?_
  constructor
  · intro hj
    obtain ⟨i, _, rfl⟩ := List.mem_map.1 hj
    exact List.mem_range.2 (by omega)
  · intro hj
    have hj := List.mem_range.1 hj
    refine List.mem_map.2 ⟨(n - 1 - j + (n - k % n)) % n, List.mem_range.2 (Nat.mod_lt _ hn), ?_⟩
    have h1 := Nat.div_add_mod k n
    have h2 := Nat.mod_lt k hn
    have h3 : n - 1 - j + (n - k % n) + k = n - 1 - j + n * (1 + k / n) := by rw [Nat.mul_add]; omega
    rw [Nat.mod_add_mod, h3, Nat.add_mul_mod_self_left, Nat.mod_eq_of_lt (by omega)]
    omega
/-- what a list of numbers puts: the number of what counts for an id -/
theorem max_left_comm' (a b c : Int) : max (max a b) c = max (max a c) b := by omega
def codeX (f : Nat → ID × FM) (l : List Nat) (x : ID) : Int := l.foldl (fun c u => if (f u).1 = x then max c (f u).2.code else c) (-1)
theorem codeX_max (f : Nat → ID × FM) (x : ID) : ∀ (l : List Nat) (c d : Int), l.foldl (fun c u => if (f u).1 = x then max c (f u).2.code else c) (max c d) = max c (l.foldl (fun c u => if (f u).1 = x then max c (f u).2.code else c) d)
  | [], _, _ => rfl
  | u :: l, c, d => by
    simp only [List.foldl_cons]
    split
    · rw [← codeX_max f x l]
      congr 1
      omega
    · exact codeX_max f x l c d
theorem codeX_ge (f : Nat → ID × FM) (x : ID) (l : List Nat) : -1 ≤ codeX f l x := by
  have := codeX_max f x l (-1) (-1)
  unfold codeX
  rw [show max (-1 : Int) (-1) = -1 by omega] at this
  omega
theorem codeX_append (f : Nat → ID × FM) (l k : List Nat) (x : ID) : codeX f (l ++ k) x = max (codeX f l x) (codeX f k x) := by
  have h1 := codeX_ge f x l
  unfold codeX at *
  rw [List.foldl_append]
  have := codeX_max f x k (l.foldl (fun c u => if (f u).1 = x then max c (f u).2.code else c) (-1)) (-1)
  rw [show max (l.foldl (fun c u => if (f u).1 = x then max c (f u).2.code else c) (-1 : Int)) (-1) = l.foldl (fun c u => if (f u).1 = x then max c (f u).2.code else c) (-1) by omega] at this
  exact this
theorem codeX_snoc (f : Nat → ID × FM) (l : List Nat) (u : Nat) (x : ID) : codeX f (l ++ [u]) x = if (f u).1 = x then max (codeX f l x) (f u).2.code else codeX f l x := by
  unfold codeX
  rw [List.foldl_append]
  rfl
end Go.Proofs.Ytjijhmeagjhfoaa

