/- Ranges: the program's minus, counts, what is first. -/
import Derived.Test.YtdpkmabojlihmaaPSpan
namespace Go.Proofs.Ytdpkmabojlihmaa.Sp

theorem drop_ok (v : Int) : ∀ {b : List Rg} {lo : Int}, okR lo b = true →
    okR lo (b.dropWhile fun x => decide (x.b < v)) = true ∧ (∀ x, (b.dropWhile fun x => decide (x.b < v)).head? = some x → v ≤ x.b) ∧ ∀ n, v ≤ n → has (b.dropWhile fun x => decide (x.b < v)) n = has b n
  | [], lo, _ => ⟨rfl, (fun x h => by cases h), fun n _ => rfl⟩
  | x :: t, lo, hb => by
    have hb' := hb
    rw [okR_cons] at hb
    have hx := ok_iff.1 hb.2.1
    by_cases h : x.b < v
    · rw [List.dropWhile_cons_of_pos (by simpa using h)]
      obtain ⟨k1, k2, k3⟩ := drop_ok v hb.2.2
      refine ⟨okR_mono (by omega) k1, k2, fun n hn => ?_⟩
      rw [k3 n hn, has_cons]
      have : x.in_ n = false := by rw [← Bool.not_eq_true, in_iff]; omega
      rw [this, Bool.false_or]
    · rw [List.dropWhile_cons_of_neg (by simpa using h)]
      exact ⟨hb', fun y hy => by simp at hy; subst hy; omega, fun n _ => rfl⟩
theorem minP_ok : ∀ {a : List Rg} {b : List Rg} {lo lob : Int}, okR lo a = true → okR lob b = true → okR lo (minP a b) = true ∧ ∀ n, has (minP a b) n = (has a n && !has b n)
  | [], b, lo, lob, _, _ => ⟨rfl, fun n => rfl⟩
  | r :: t, b, lo, lob, ha, hb => by
    rw [okR_cons] at ha
    have hr := ok_iff.1 ha.2.1
    obtain ⟨d1, d2, d3⟩ := drop_ok r.a hb
    rw [minP]
    generalize b.dropWhile (fun x => decide (x.b < r.a)) = b' at *
    obtain ⟨k1, k2⟩ := piece_ok d1 hr.1 hr.2.2 d2
    obtain ⟨m1, m2⟩ := minP_ok (a := t) (b := b') ha.2.2 d1
    refine ⟨okR_append (hi := r.b + 2) (okR_mono ha.1 k1) (fun n hn => ?_) m1 (by omega), fun n => ?_⟩
    · rw [k2, Bool.and_eq_true, in_iff] at hn; omega
    · rw [has_append, k2, m2, has_cons, ← Bool.and_or_distrib_right]
      cases h : (r.in_ n || has t n) with
      | false => rfl
      | true =>
        have : r.a ≤ n := by
          rw [Bool.or_eq_true, in_iff] at h
          rcases h with h | h
          · omega
          · have := has_lo ha.2.2 n h; omega
        rw [d3 n this]
/-- how many -/
def countR (l : List Rg) : Int := (l.map fun r => r.b - r.a + 1).foldr (· + ·) 0
theorem countR_cons (r : Rg) (t : List Rg) : countR (r :: t) = (r.b - r.a + 1) + countR t := rfl
def cnt (p : Int → Bool) (lo : Int) : Nat → Int
  | 0 => 0
  | k + 1 => (if p lo = true then 1 else 0) + cnt p (lo + 1) k
theorem cnt_congr {p q : Int → Bool} : ∀ (k : Nat) (lo : Int), (∀ n, lo ≤ n → n < lo + k → p n = q n) → cnt p lo k = cnt q lo k
  | 0, _, _ => rfl
  | k + 1, lo, h => by
    rw [cnt, cnt, h lo (by omega) (by omega), cnt_congr k (lo + 1) fun n h1 h2 => h n (by omega) (by omega)]
theorem cnt_snoc (p : Int → Bool) : ∀ (k : Nat) (lo : Int), cnt p lo (k + 1) = cnt p lo k + (if p (lo + k) = true then 1 else 0)
  | 0, lo => by simp [cnt]
  | k + 1, lo => by
    have ih := cnt_snoc p k (lo + 1)
    rw [cnt, ih, cnt]
    rw [show lo + 1 + (k : Int) = lo + ((k + 1 : Nat) : Int) by omega]
    omega
theorem cnt_none (p : Int → Bool) : ∀ (k : Nat) (lo : Int), (∀ n, lo ≤ n → n < lo + k → p n = false) → cnt p lo k = 0
  | 0, _, _ => rfl
  | k + 1, lo, h => by
    rw [cnt, h lo (by omega) (by omega), cnt_none p k (lo + 1) fun n h1 h2 => h n (by omega) (by omega)]; rfl
theorem count_eq : ∀ (k : Nat) (l : List Rg) (lo : Int), okR lo l = true → (∀ n, has l n = true → n < lo + k) → cnt (has l) lo k = countR l
  | 0, l, lo, hl, hh => by
    cases l with
    | nil => rfl
    | cons r t =>
      rw [okR_cons, ok_iff] at hl
      have := hh r.a (by rw [has_cons, in_iff.2 ⟨Int.le_refl _, hl.2.1.2.1⟩]; rfl)
      omega
  | k + 1, l, lo, hl, hh => by
    cases l with
    | nil => exact (cnt_none (has []) (k + 1) lo fun n _ _ => rfl).trans rfl
    | cons r t =>
      have hl' := hl
      rw [okR_cons, ok_iff] at hl
      rw [cnt]
      by_cases h1 : lo < r.a
      · have : has (r :: t) lo = false := by
          rw [← Bool.not_eq_true]
          intro h
          have := has_lo (lo := r.a) (by rw [okR_cons, ok_iff]; exact ⟨Int.le_refl _, hl.2⟩) lo h
          omega
        rw [this, count_eq k (r :: t) (lo + 1) (by rw [okR_cons, ok_iff]; exact ⟨by omega, hl.2⟩) (fun n hn => by have := hh n hn; omega)]
        simp
      · have e : r.a = lo := by omega
        have hlo : has (r :: t) lo = true := by rw [has_cons, in_iff.2 ⟨by omega, by omega⟩]; rfl
        rw [hlo, if_pos rfl, countR_cons]
        by_cases h2 : r.b = lo
        · have hc : cnt (has (r :: t)) (lo + 1) k = cnt (has t) (lo + 1) k := cnt_congr k (lo + 1) fun n h3 h4 => by
            rw [has_cons]
            have : r.in_ n = false := by rw [← Bool.not_eq_true, in_iff]; omega
            rw [this, Bool.false_or]
          rw [hc, count_eq k t (lo + 1) (okR_mono (by omega) hl.2.2) (fun n hn => by have := hh n (by rw [has_cons, hn, Bool.or_true]); omega)]
          omega
        · have hc : cnt (has (r :: t)) (lo + 1) k = cnt (has (⟨lo + 1, r.b⟩ :: t)) (lo + 1) k := cnt_congr k (lo + 1) fun n h3 h4 => by
            rw [has_cons, has_cons]
            congr 1
            rw [Bool.eq_iff_iff, in_iff, in_iff]
            simp only
            omega
          rw [hc, count_eq k (⟨lo + 1, r.b⟩ :: t) (lo + 1) (by rw [okR_cons, ok_iff]; exact ⟨Int.le_refl _, ⟨by simp only; omega, by simp only; omega, hl.2.1.2.2⟩, hl.2.2⟩) (fun n hn => by
            have h5 : has (r :: t) n = true := by
              rw [has_cons, Bool.or_eq_true, in_iff] at hn ⊢
              simp only at hn
              rcases hn with h | h
              · exact .inl (by omega)
              · exact .inr h
            have := hh n h5; omega), countR_cons]
          simp only
          omega
theorem countR_nonneg : ∀ {l : List Rg} {lo : Int}, okR lo l = true → 0 ≤ countR l
  | [], _, _ => by simp [countR]
  | r :: t, lo, h => by
    rw [okR_cons, ok_iff] at h
    have := countR_nonneg h.2.2
    rw [countR_cons]
    omega
theorem countR_le : ∀ {l : List Rg} {lo : Int}, okR lo l = true → lo ≤ mx + 2 → countR l ≤ mx + 2 - lo
  | [], lo, _, hlo => by simp [countR]; omega
  | r :: t, lo, h, _ => by
    rw [okR_cons, ok_iff] at h
    have := countR_le h.2.2 (by omega)
    rw [countR_cons]
    omega
/-- up to which number all are there -/
def firstR (l : List Rg) : Int := match l with
  | [] => 0
  | r :: _ => if r.a = 1 then r.b else 0
theorem first_has {l : List Rg} (h : right l = true) : 0 ≤ firstR l ∧ (∀ n, 1 ≤ n → n ≤ firstR l → has l n = true) ∧ has l (firstR l + 1) = false := by
  cases l with
  | nil => exact ⟨by simp [firstR], fun n h1 h2 => by simp [firstR] at h2; omega, rfl⟩
  | cons r t =>
    have h' := h
    rw [right, okR_cons, ok_iff] at h
    unfold firstR
    simp only
    by_cases e : r.a = 1
    · rw [if_pos e]
      refine ⟨by omega, fun n h1 h2 => by rw [has_cons, in_iff.2 ⟨by omega, h2⟩]; rfl, ?_⟩
      rw [← Bool.not_eq_true, has_cons, Bool.or_eq_true, in_iff]
      rintro (h1 | h1)
      · omega
      · have := has_lo h.2.2 _ h1; omega
    · rw [if_neg e]
      refine ⟨Int.le_refl _, fun n h1 h2 => by omega, ?_⟩
      rw [← Bool.not_eq_true]
      intro h1
      have := has_lo (lo := r.a) (by rw [okR_cons, ok_iff]; exact ⟨Int.le_refl _, h.2⟩) _ h1
      omega
theorem first_count {l : List Rg} (h : right l = true) : firstR l ≤ countR l := by
  cases l with
  | nil => simp [firstR, countR]
  | cons r t =>
    rw [right, okR_cons, ok_iff] at h
    have := countR_nonneg h.2.2
    unfold firstR
    rw [countR_cons]
    simp only
    split <;> omega
end Go.Proofs.Ytdpkmabojlihmaa.Sp

