/- Records one behind another: plain mathematics. -/
import Derived.Test.YtkgmbpbbgkjidaaCon
import Derived.Test.YtkgmbpbbgkjidaaCrcB
namespace Go.Proofs.Ytkgmbpbbgkjidaa.Lg
open Go.Proofs.Ytkgmbpbbgkjidaa Go.Proofs.Ytkgmbpbbgkjidaa.Pl Go.Proofs.Ytkgmbpbbgkjidaa.Pc

def rec1 (p : List UInt8) : List UInt8 := sealS (enc p.length ++ p)
def recs : List (List UInt8) → List UInt8
  | [] => []
  | p :: l => rec1 p ++ recs l
theorem recs_append (a b : List (List UInt8)) : recs (a ++ b) = recs a ++ recs b := by
  induction a with
  | nil => rfl
  | cons x t ih => simp [recs, ih]
theorem recs_snoc (a : List (List UInt8)) (p : List UInt8) : recs (a ++ [p]) = recs a ++ rec1 p := by rw [recs_append]; simp [recs]
theorem rec1_len (p : List UInt8) : (rec1 p).length = (enc p.length).length + p.length + 4 := by simp [rec1, sealS_len, Nat.add_assoc]
def oneR (b : List UInt8) : Option (List UInt8 × Nat) :=
  if (takeS b).2.2 = 0 ∧ (takeS b).1 ≤ 65536 ∧ (takeS b).2.1 + (takeS b).1 + 4 ≤ b.length then
    match openS (b.take ((takeS b).2.1 + (takeS b).1 + 4)) with
    | none => none
    | some x => some (x.drop (takeS b).2.1, (takeS b).2.1 + (takeS b).1 + 4)
  else none
def scanF : Nat → List UInt8 → List (List UInt8) × Nat
  | 0, _ => ([], 0)
  | n + 1, b => match oneR b with
    | none => ([], 0)
    | some (x, k) => (x :: (scanF n (b.drop k)).1, k + (scanF n (b.drop k)).2)
def scan (b : List UInt8) : List (List UInt8) × Nat := scanF (b.length + 1) b

theorem open_some {b x : List UInt8} (h : openS b = some x) : b = sealS x := by
  unfold openS at h
  split at h
  · cases h
  · rename_i h4
    split at h
    · rename_i hs
      cases h
      unfold sealS
      conv => lhs; rw [← List.take_append_drop (b.length - 4) b]
      congr 1
      refine big_inj (by simp; omega) (by simp [fixF_len]) ?_
      rw [hs, big_sum]
    · cases h
theorem oneR_some {b x : List UInt8} {k : Nat} (h : oneR b = some (x, k)) : k ≤ b.length ∧ 5 ≤ k ∧ x.length ≤ 65536 ∧ rec1 x = b.take k := by
  unfold oneR at h
  split at h
  · rename_i hc
    obtain ⟨h0, h1, h2⟩ := hc
    obtain ⟨g0, _, g2, g1, _⟩ := takeS_ok b h0
    generalize ho : openS (b.take ((takeS b).2.1 + (takeS b).1 + 4)) = o at h
    cases o with
    | none => cases h
    | some y =>
      simp only [Option.some.injEq, Prod.mk.injEq] at h
      obtain ⟨rfl, rfl⟩ := h
      have hs := open_some ho
      have hl : y.length = (takeS b).2.1 + (takeS b).1 := by
        have := congrArg List.length hs
        rw [sealS_len, List.length_take] at this
        omega
      have hyt : y = (b.take ((takeS b).2.1 + (takeS b).1 + 4)).take ((takeS b).2.1 + (takeS b).1) := by
        rw [hs, sealS, List.take_append_of_le_length (by omega), List.take_of_length_le (by omega)]
      refine ⟨h2, by omega, by rw [List.length_drop]; omega, ?_⟩
      rw [hs]
      unfold rec1
      congr 1
      rw [List.length_drop, hl, show (takeS b).2.1 + (takeS b).1 - (takeS b).2.1 = (takeS b).1 by omega]
      conv => rhs; rw [← List.take_append_drop (takeS b).2.1 y]
      congr 1
      rw [hyt, List.take_take, List.take_take, show min (min (takeS b).2.1 ((takeS b).2.1 + (takeS b).1)) ((takeS b).2.1 + (takeS b).1 + 4) = (takeS b).2.1 by omega]
      exact g1
  · cases h
theorem oneR_none_len {b : List UInt8} (h : b.length < 5) : oneR b = none := by
  cases ho : oneR b with
  | none => rfl
  | some q =>
    obtain ⟨x, k⟩ := q
    have := oneR_some ho
    omega
theorem scanF_more : ∀ (n m : Nat) (b : List UInt8), b.length < n → b.length < m → scanF n b = scanF m b
  | 0, _, _, h, _ => by omega
  | _, 0, _, _, h => by omega
  | n + 1, m + 1, b, h, h' => by
    simp only [scanF]
    cases ho : oneR b with
    | none => rfl
    | some q =>
      obtain ⟨x, k⟩ := q
      obtain ⟨h1, h2, _⟩ := oneR_some ho
      simp only
      rw [scanF_more n m (b.drop k) (by rw [List.length_drop]; omega) (by rw [List.length_drop]; omega)]
theorem scan_none {b : List UInt8} (h : oneR b = none) : scan b = ([], 0) := by simp [scan, scanF, h]
theorem scan_some {b x : List UInt8} {k : Nat} (h : oneR b = some (x, k)) : scan b = (x :: (scan (b.drop k)).1, k + (scan (b.drop k)).2) := by
  obtain ⟨h1, h2, _⟩ := oneR_some h
  have e : scanF b.length (b.drop k) = scan (b.drop k) := scanF_more _ _ _ (by rw [List.length_drop]; omega) (by omega)
  conv => lhs; simp only [scan, scanF, h]
  rw [e]
theorem scan_recs : ∀ (n : Nat) (b : List UInt8), b.length ≤ n → recs (scan b).1 = b.take (scan b).2 ∧ (scan b).2 ≤ b.length ∧ ∀ x ∈ (scan b).1, x.length ≤ 65536 := by
  intro n
  induction n with
  | zero => intro b h; rw [scan_none (oneR_none_len (by omega))]; simp [recs]
  | succ n ih =>
    intro b h
    cases ho : oneR b with
    | none => rw [scan_none ho]; simp [recs]
    | some q =>
      obtain ⟨x, k⟩ := q
      obtain ⟨h1, h2, h3, h4⟩ := oneR_some ho
      rw [scan_some ho]
      obtain ⟨g1, g2, g3⟩ := ih (b.drop k) (by rw [List.length_drop]; omega)
      refine ⟨?_, by simp only; rw [List.length_drop] at g2; omega, ?_⟩
      · simp only [recs, h4, g1]
        rw [List.take_add]
      · intro y hy
        rcases List.mem_cons.1 hy with rfl | hy
        · exact h3
        · exact g3 y hy
theorem take_rec {p t : List UInt8} (h : p.length ≤ 65536) : takeS (rec1 p ++ t) = (p.length, (enc p.length).length, 0) := by
  unfold rec1 sealS
  rw [List.append_assoc, List.append_assoc]
  exact take_enc _ (by omega) _
theorem oneR_rec {p t : List UInt8} (h : p.length ≤ 65536) : oneR (rec1 p ++ t) = some (p, (rec1 p).length) := by
  unfold oneR
  rw [take_rec h]
  simp only
  have e := rec1_len p
  rw [if_pos ⟨trivial, h, by rw [List.length_append]; omega⟩, ← e, List.take_left' rfl]
  have : openS (rec1 p) = some (enc p.length ++ p) := open_seal _
  rw [this]
  simp
theorem scan_rec {p t : List UInt8} (h : p.length ≤ 65536) : scan (rec1 p ++ t) = (p :: (scan t).1, (rec1 p).length + (scan t).2) := by
  rw [scan_some (oneR_rec h), List.drop_left' rfl]
theorem scan_back : ∀ (l : List (List UInt8)) (t : List UInt8), (∀ p ∈ l, p.length ≤ 65536) → scan (recs l ++ t) = (l ++ (scan t).1, (recs l).length + (scan t).2)
  | [], t, _ => by simp [recs]
  | p :: l, t, h => by
    simp only [recs, List.append_assoc]
    rw [scan_rec (h p (by simp)), scan_back l t (fun q hq => h q (by simp [hq]))]
    simp [Nat.add_assoc]
theorem scan_nil : scan [] = ([], 0) := scan_none (oneR_none_len (by simp))
theorem oneR_torn {p t : List UInt8} {i : Nat} (h : p.length ≤ 65536) (hi : i < (rec1 p).length) : oneR ((rec1 p ++ t).take i) = none := by
  rw [rec1_len] at hi
  unfold oneR
  rw [if_neg]
  rintro ⟨h0, h1, h2⟩
  by_cases hs : i < (enc p.length).length
  · have : (rec1 p ++ t).take i = (enc p.length).take i := by
      unfold rec1 sealS
      rw [List.append_assoc, List.append_assoc, List.take_append_of_le_length (by omega)]
    rw [this, take_less _ _ (by omega) hs] at h0
    cases h0
  · have : (rec1 p ++ t).take i = enc p.length ++ ((p ++ fixF (sum (enc p.length ++ p)).toNat 4) ++ t).take (i - (enc p.length).length) := by
      unfold rec1 sealS
      rw [List.append_assoc, List.append_assoc, List.take_append, List.take_of_length_le (by omega), ← List.append_assoc p]
    rw [this, take_enc _ (by omega)] at h2
    rw [← this, List.length_take] at h2
    simp only at h2
    omega
theorem scan_torn : ∀ (l : List (List UInt8)) (i : Nat), (∀ p ∈ l, p.length ≤ 65536) → ∃ m, m ≤ l.length ∧ scan ((recs l).take i) = (l.take m, (recs (l.take m)).length) ∧ (recs (l.take m)).length ≤ i ∧ (∀ h : m < l.length, i < (recs (l.take m)).length + (rec1 l[m]).length)
  | [], i, _ => ⟨0, by simp, by simp [recs, scan_nil], by simp [recs], fun h => by simp at h⟩
  | p :: l, i, h => by
    by_cases hi : i < (rec1 p).length
    · refine ⟨0, by simp, ?_, by simp [recs], fun _ => by simpa [recs] using hi⟩
      rw [recs, scan_none (oneR_torn (h p (by simp)) hi)]
      simp [recs]
    · obtain ⟨m, h1, h2, h3, h4⟩ := scan_torn l (i - (rec1 p).length) (fun q hq => h q (by simp [hq]))
      refine ⟨m + 1, by simp; omega, ?_, by simp [recs]; omega, fun hm => ?_⟩
      · rw [recs, List.take_append, List.take_of_length_le (by omega), scan_rec (h p (by simp)), h2]
        simp [recs]
      · have := h4 (by simpa using hm)
        simp only [List.take_succ_cons, recs, List.length_append, List.getElem_cons_succ]
        omega
theorem oneR_spoilt {p t : List UInt8} {j : Nat} (h : p.length ≤ 65536) (hj : (enc p.length).length ≤ j) (hj' : j < (rec1 p).length) (c : UInt8) (hc : c ≠ 0) : oneR ((rec1 p).set j ((rec1 p)[j]?.getD 0 ^^^ c) ++ t) = none := by
  have e : takeS ((rec1 p).set j ((rec1 p)[j]?.getD 0 ^^^ c) ++ t) = (p.length, (enc p.length).length, 0) := by
    have : ∃ s, (rec1 p).set j ((rec1 p)[j]?.getD 0 ^^^ c) = enc p.length ++ s := by
      refine ⟨(p ++ fixF (sum (enc p.length ++ p)).toNat 4).set (j - (enc p.length).length) ((rec1 p)[j]?.getD 0 ^^^ c), ?_⟩
      generalize (rec1 p)[j]?.getD 0 ^^^ c = y
      unfold rec1 sealS
      rw [List.append_assoc, List.set_append, if_neg (by omega)]
    obtain ⟨s, hs⟩ := this
    rw [hs, List.append_assoc]
    exact take_enc _ (by omega) _
  unfold oneR
  rw [e]
  simp only
  split
  · have hl : ((rec1 p).set j ((rec1 p)[j]?.getD 0 ^^^ c)).length = (enc p.length).length + p.length + 4 := by rw [List.length_set, rec1_len]
    rw [← hl, List.take_left' rfl]
    have := open_one (enc p.length ++ p) j hj' c hc
    rw [show (rec1 p).set j ((rec1 p)[j]?.getD 0 ^^^ c) = (sealS (enc p.length ++ p)).set j ((sealS (enc p.length ++ p))[j]?.getD 0 ^^^ c) from rfl, this]
  · rfl
theorem scan_spoilt (l : List (List UInt8)) (p t : List UInt8) (j : Nat) (hl : ∀ q ∈ l, q.length ≤ 65536) (h : p.length ≤ 65536) (hj : (enc p.length).length ≤ j) (hj' : j < (rec1 p).length) (c : UInt8) (hc : c ≠ 0) :
    scan (recs l ++ ((rec1 p).set j ((rec1 p)[j]?.getD 0 ^^^ c) ++ t)) = (l, (recs l).length) := by
  rw [scan_back l _ hl, scan_none (oneR_spoilt h hj hj' c hc)]
  simp
end Go.Proofs.Ytkgmbpbbgkjidaa.Lg

