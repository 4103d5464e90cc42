/- Dots: plain mathematics of lists of them, and their bytes. -/
import Derived.Test.YtpeecgphmcihaaaPDot
namespace Go.Proofs.Ytpeecgphmcihaaa.Dt
open Go.Proofs.Ytpeecgphmcihaaa.Pl

def okAt (l : List D2) (i : Nat) : Bool := (l[i]?.getD ⟨0, 0⟩).right && (decide (i = 0) || (l[i - 1]?.getD ⟨0, 0⟩).lt (l[i]?.getD ⟨0, 0⟩))
def goodD (l : List D2) : Bool := (List.range l.length).all (okAt l)
theorem good_of {l : List D2} (h : ∀ i, i < l.length → okAt l i = true) : goodD l = true := by
  rw [goodD, List.all_eq_true]
  intro i hi
  exact h i (List.mem_range.1 hi)
theorem good_no {l : List D2} {i : Nat} (hi : i < l.length) (h : okAt l i = false) : goodD l = false := by
  rw [goodD, List.all_eq_false]
  exact ⟨i, List.mem_range.2 hi, by rw [h]; simp⟩
theorem good_at {l : List D2} (h : goodD l = true) (i : Nat) (hi : i < l.length) : okAt l i = true := by
  rw [goodD, List.all_eq_true] at h
  exact h i (List.mem_range.2 hi)
theorem okAt_append {l m : List D2} {i : Nat} (hi : i < l.length) : okAt (l ++ m) i = okAt l i := by
  unfold okAt
  rw [List.getElem?_append_left hi, List.getElem?_append_left (by omega)]
theorem okAt_last (l : List D2) (x : D2) : okAt (l ++ [x]) l.length = (x.right && (decide (l = []) || (l[l.length - 1]?.getD ⟨0, 0⟩).lt x)) := by
  unfold okAt
  rw [List.getElem?_append_right (Nat.le_refl _)]
  by_cases h : l = []
  · subst h; simp
  · have : 0 < l.length := List.length_pos_iff.2 h
    rw [List.getElem?_append_left (by omega)]
    simp [h]
theorem good_snoc (l : List D2) (x : D2) : goodD (l ++ [x]) = (goodD l && (x.right && (decide (l = []) || (l[l.length - 1]?.getD ⟨0, 0⟩).lt x))) := by
  rw [← okAt_last]
  rcases h : goodD l with _ | _
  · obtain ⟨i, hi, h'⟩ : ∃ i, i < l.length ∧ okAt l i = false := by
      rw [goodD, List.all_eq_false] at h
      obtain ⟨i, hi, h'⟩ := h
      exact ⟨i, List.mem_range.1 hi, by simpa using h'⟩
    rw [good_no (i := i) (by simp; omega) (by rw [okAt_append hi]; exact h')]
    rfl
  · rcases h2 : okAt (l ++ [x]) l.length with _ | _
    · rw [good_no (by simp) h2]; rfl
    · rw [good_of fun i hi => by
        by_cases e : i = l.length
        · subst e; exact h2
        · have hi' : i < l.length := by simp at hi; omega
          rw [okAt_append hi']; exact good_at h i hi']
      rfl
theorem good_take {l : List D2} (h : goodD l = true) (k : Nat) : goodD (l.take k) = true := by
  refine good_of fun i hi => ?_
  rw [List.length_take] at hi
  have := good_at h i (by omega)
  rw [← List.take_append_drop k l, okAt_append (by rw [List.length_take]; omega)] at this
  exact this
theorem good_rise {l : List D2} (h : Rise l) (hr : ∀ x ∈ l, x.right = true) : goodD l = true := by
  refine good_of fun i hi => ?_
  unfold okAt
  rw [List.getElem?_eq_getElem hi, Option.getD_some, hr _ (List.getElem_mem hi), Bool.true_and]
  by_cases h0 : i = 0
  · simp [h0]
  · rw [List.getElem?_eq_getElem (by omega), Option.getD_some, List.pairwise_iff_getElem.1 h (i - 1) i (by omega) hi (by omega)]
    simp
theorem good_right {l : List D2} (h : goodD l = true) : ∀ x ∈ l, x.right = true := by
  intro x hx
  obtain ⟨i, hi, rfl⟩ := List.mem_iff_getElem.1 hx
  have := good_at h i hi
  unfold okAt at this
  rw [List.getElem?_eq_getElem hi, Option.getD_some, Bool.and_eq_true] at this
  exact this.1
def flatD (l : List D2) : List UInt8 := l.flatMap D2.bytes
theorem flatD_append (a b : List D2) : flatD (a ++ b) = flatD a ++ flatD b := by simp [flatD]
theorem flatD_snoc (a : List D2) (x : D2) : flatD (a ++ [x]) = flatD a ++ x.bytes := by simp [flatD]
theorem flatD_le (l : List D2) : (flatD l).length ≤ 11 * l.length := by
  induction l with
  | nil => simp [flatD]
  | cons x t ih =>
    have := bytes_le x
    simp only [flatD, List.flatMap_cons, List.length_append, List.length_cons] at *
    omega
def putDs (l : List D2) : List UInt8 := if l.length ≤ 16 ∧ goodD l = true then enc l.length ++ flatD l else []
def goA (b : List UInt8) : Nat → List D2 → Nat → List D2 × Nat × Nat
  | 0, out, k => (out, k, 0)
  | n + 1, out, k => if (takeD (b.drop k)).2.2 ≠ 0 then ([], 0, (takeD (b.drop k)).2.2)
    else if out ≠ [] ∧ (out[out.length - 1]?.getD ⟨0, 0⟩).lt (takeD (b.drop k)).1 = false then ([], 0, 21)
    else goA b n (out ++ [(takeD (b.drop k)).1]) (k + (takeD (b.drop k)).2.1)
def takeDs (b : List UInt8) : List D2 × Nat × Nat :=
  if (takeS b).2.2 ≠ 0 then ([], 0, (takeS b).2.2) else if (takeS b).1 > 16 then ([], 0, 21) else goA b (takeS b).1 [] (takeS b).2.1
theorem goA_ok (b : List UInt8) : ∀ (n : Nat) (out : List D2) (k : Nat), (goA b n out k).2.2 = 0 → goodD out = true → k ≤ b.length →
    ∃ more : List D2, (goA b n out k).1 = out ++ more ∧ more.length = n ∧ goodD (out ++ more) = true ∧ (goA b n out k).2.1 ≤ b.length ∧ (goA b n out k).2.1 = k + (flatD more).length ∧ flatD more = (b.drop k).take (flatD more).length
  | 0, out, k, _, hg, hk => ⟨[], by simp [goA], rfl, by simpa using hg, hk, by simp [goA, flatD], by simp [flatD]⟩
  | n + 1, out, k, h, hg, hk => by
    unfold goA at h ⊢
    by_cases h1 : (takeD (b.drop k)).2.2 ≠ 0
    · rw [if_pos h1] at h; exact absurd h h1
    rw [if_neg h1] at h ⊢
    by_cases h2 : out ≠ [] ∧ (out[out.length - 1]?.getD ⟨0, 0⟩).lt (takeD (b.drop k)).1 = false
    · rw [if_pos h2] at h; simp at h
    rw [if_neg h2] at h ⊢
    obtain ⟨hr, hby, hn2, hnl⟩ := takeD_ok (b := b.drop k) (by omega)
    have hgs : goodD (out ++ [(takeD (b.drop k)).1]) = true := by
      rw [good_snoc, hg, hr]
      by_cases e : out = []
      · simp [e]
      · rcases hb : (out[out.length - 1]?.getD ⟨0, 0⟩).lt (takeD (b.drop k)).1 with _ | _
        · exact absurd ⟨e, hb⟩ h2
        · simp
    have hl : (b.drop k).length = b.length - k := by simp
    obtain ⟨more, m1, m2, m3, m4, m5, m6⟩ := goA_ok b n _ _ h hgs (by omega)
    generalize (takeD (b.drop k)).1 = d at *
    generalize (takeD (b.drop k)).2.1 = j at *
    have hdl : d.bytes.length = j := by rw [hby, List.length_take]; omega
    refine ⟨d :: more, by rw [m1]; simp, by simp [m2], by simpa using m3, m4, ?_, ?_⟩
    · rw [m5]; simp [flatD, hdl]; omega
    · show d.bytes ++ flatD more = _
      have : (flatD (d :: more)).length = j + (flatD more).length := by simp [flatD, hdl]
      rw [this, List.take_add, ← hby, List.drop_drop, ← m6]
theorem takeDs_ok {b : List UInt8} (h : (takeDs b).2.2 = 0) : 1 ≤ (takeDs b).2.1 ∧ (takeDs b).2.1 ≤ b.length ∧ putDs (takeDs b).1 = b.take (takeDs b).2.1 := by
  unfold takeDs at h ⊢
  by_cases h1 : (takeS b).2.2 ≠ 0
  · rw [if_pos h1] at h; exact absurd h h1
  rw [if_neg h1] at h ⊢
  by_cases h2 : (takeS b).1 > 16
  · rw [if_pos h2] at h; simp at h
  rw [if_neg h2] at h ⊢
  obtain ⟨k1, _, k3, k4, _⟩ := takeS_ok b (by omega)
  obtain ⟨more, m1, m2, m3, m4, m5, m6⟩ := goA_ok b _ _ _ h rfl k3
  rw [List.nil_append] at m1 m3
  refine ⟨by rw [m5]; omega, m4, ?_⟩
  rw [m1, m5, putDs, if_pos ⟨by omega, m3⟩, m2, List.take_add, ← m6, ← k4]
theorem drop_eq_of {b x t : List UInt8} {k : Nat} (h : b.drop k = x ++ t) : b.drop (k + x.length) = t := by
  rw [← List.drop_drop, h, List.drop_left' rfl]
theorem goA_flat (b t : List UInt8) : ∀ (more out : List D2) (k : Nat), goodD (out ++ more) = true → b.drop k = flatD more ++ t →
    goA b more.length out k = (out ++ more, k + (flatD more).length, 0)
  | [], out, k, _, _ => by simp [goA, flatD]
  | d :: more, out, k, hg, hb => by
    have hb' : b.drop k = d.bytes ++ (flatD more ++ t) := by rw [hb]; simp [flatD]
    have hg' : goodD (out ++ [d] ++ more) = true := by simpa using hg
    have hgd := good_take hg' (out.length + 1)
    rw [List.take_append_of_le_length (by simp), List.take_of_length_le (by simp), good_snoc] at hgd
    simp only [Bool.and_eq_true] at hgd
    have hr := hgd.2.1
    have ht := take_bytes hr (flatD more ++ t)
    show goA b (more.length + 1) out k = _
    rw [goA]
    simp only [hb', ht]
    rw [if_neg (by simp), if_neg (by
      rintro ⟨h1, h2⟩
      have := hgd.2.2
      rw [h2] at this
      simp [h1] at this)]
    rw [goA_flat b t more (out ++ [d]) (k + d.bytes.length) hg' (drop_eq_of hb')]
    simp [flatD, Nat.add_assoc]
theorem takeDs_put {l : List D2} (h : l.length ≤ 16) (hg : goodD l = true) (t : List UInt8) : takeDs (putDs l ++ t) = (l, (putDs l).length, 0) := by
  have hp : putDs l = enc l.length ++ flatD l := by rw [putDs, if_pos ⟨h, hg⟩]
  rw [hp]
  have hq := take_enc l.length (by omega) (flatD l ++ t)
  rw [← List.append_assoc] at hq
  unfold takeDs
  simp only [hq]
  rw [if_neg (by simp), if_neg (by omega), goA_flat _ t l [] _ (by simpa using hg) (by rw [List.append_assoc, List.drop_left' rfl])]
  simp
theorem putDs_pos {l : List D2} (h : l.length ≤ 16) (hg : goodD l = true) : 1 ≤ (putDs l).length := by
  rw [putDs, if_pos ⟨h, hg⟩, List.length_append]
  have := enc_len l.length
  omega
theorem putDs_some {l : List D2} (h : putDs l ≠ []) : l.length ≤ 16 ∧ goodD l = true := by
  unfold putDs at h
  split at h
  · assumption
  · exact absurd rfl h
theorem putDs_le (l : List D2) : (putDs l).length ≤ 200 := by
  unfold putDs
  split
  · rename_i h
    have := enc_len l.length
    have := flatD_le l
    rw [List.length_append]
    omega
  · simp
end Go.Proofs.Ytpeecgphmcihaaa.Dt

