/- Ranges: plain facts for 'SpanSets'. -/
import Derived.Test.YtdpkmabojlihmaaPSpan4
import Derived.Laws.BitsAllLaws
namespace Go.Proofs.Ytdpkmabojlihmaa.Sp
open Go.Proofs.Ytdpkmabojlihmaa

theorem okR_of_has {l : List Rg} {lo : Int} (h : right l = true) (hh : ∀ n, has l n = true → lo ≤ n) : okR lo l = true := by
  cases l with
  | nil => rfl
  | cons r t =>
    rw [right, okR_cons] at h
    rw [okR_cons]
    refine ⟨hh r.a ?_, h.2⟩
    rw [has_cons, in_iff.2 ⟨Int.le_refl _, (ok_iff.1 h.2.1).2.1⟩]
    rfl
theorem cnt_bd (p : Int → Bool) : ∀ (k : Nat) (lo : Int), 0 ≤ cnt p lo k ∧ cnt p lo k ≤ (k : Int)
  | 0, lo => by simp [cnt]
  | k + 1, lo => by
    have := cnt_bd p k (lo + 1)
    rw [cnt]
    split <;> omega
theorem cnt_add {p q r : Int → Bool} : ∀ (k : Nat) (lo : Int), (∀ n, p n = (q n || r n)) → (∀ n, q n = true → r n = true → False) → cnt p lo k = cnt q lo k + cnt r lo k
  | 0, _, _, _ => rfl
  | k + 1, lo, h, hd => by
    rw [cnt, cnt, cnt, cnt_add k (lo + 1) h hd, h lo]
    have := hd lo
    cases h1 : q lo <;> cases h2 : r lo <;> simp [h1, h2] at this ⊢ <;> omega
theorem bit_test (x i : Nat) : bit x i = x.testBit i := (Nat.testBit_eq_decide_div_mod_eq).symm
theorem bit_or (x y i : Nat) : bit (x ||| y) i = (bit x i || bit y i) := by rw [bit_test, bit_test, bit_test, Nat.testBit_or]
theorem bit_not (y i : Nat) (hy : y < 18446744073709551616) (hi : i < 64) : bit (18446744073709551615 - y) i = !bit y i := by
  rw [bit_test, bit_test]
  have h := Nat.testBit_two_pow_sub_succ (n := 64) (x := y) (by simpa using hy) i
  rw [show 2 ^ 64 - (y + 1) = 18446744073709551615 - y by omega] at h
  rw [h]
  simp [hi]
theorem bit_andNot (x y i : Nat) (hy : y < 18446744073709551616) (hi : i < 64) : bit (x &&& (18446744073709551615 - y)) i = (bit x i && !bit y i) := by
  rw [← bit_not y i hy hi, bit_test, bit_test, bit_test, Nat.testBit_and]
theorem bits_out {x : Nat} {base n : Int} (h : has (bitsR x base) n = true) : base + 1 ≤ n ∧ n < base + 1 + 64 := by
  obtain ⟨_, i, hi, _, rfl⟩ := bitsR_has.1 h
  omega
theorem count_bits {l : List Rg} {base : Int} (h : right l = true) (hh : ∀ n, has l n = true → base + 1 ≤ n ∧ n < base + 1 + 64) : countS l = cnt (has l) (base + 1) 64 := by
  rw [countS, if_pos h, count_eq 64 l (base + 1) (okR_of_has h fun n hn => (hh n hn).1) fun n hn => by have := (hh n hn).2; omega]
theorem sets_facts {x y : Nat} (hy : y < 18446744073709551616) {base : Int} (h0 : 0 ≤ base) (h1 : base + 64 ≤ mx) {a b j m : List Rg} (ha : a = bitsR x base) (hb : b = bitsR y base) (hj : j = joinS a b) (hm : m = minusS a b) :
    (∀ k : Nat, k < 64 → hasS j (base + 1 + (k : Int)) = (bit x k || bit y k)) ∧ (∀ k : Nat, k < 64 → hasS m (base + 1 + (k : Int)) = (bit x k && !bit y k)) ∧
    (∀ k : Nat, k < 64 → cnt (has m) (base + 1) (k + 1) = cnt (has m) (base + 1) k + if (bit x k && !bit y k) = true then 1 else 0) ∧
    countS m = cnt (has m) (base + 1) 64 ∧ countS j = cnt (has m) (base + 1) 64 + countS b ∧ (0 ≤ countS b ∧ countS b ≤ 64) ∧ hasS j base = false ∧ hasS j (base + 65) = false ∧
    j = bitsR (x ||| y) base ∧ m = bitsR (x &&& (18446744073709551615 - y)) base := by
  have ra : right a = true := by rw [ha]; exact bitsR_right _ _
  have rb : right b = true := by rw [hb]; exact bitsR_right _ _
  have rj : right j = true := by rw [hj]; exact joinS_right _ _
  have rm : right m = true := by rw [hm]; exact minusS_right _ _
  have ej : ∀ n, has j n = (has a n || has b n) := fun n => by rw [hj, joinS_has ra rb]
  have em : ∀ n, has m n = (has a n && !has b n) := fun n => by rw [hm, minusS_has ra rb]
  have oa : ∀ n, has a n = true → base + 1 ≤ n ∧ n < base + 1 + 64 := fun n h => bits_out (by rw [ha] at h; exact h)
  have ob : ∀ n, has b n = true → base + 1 ≤ n ∧ n < base + 1 + 64 := fun n h => bits_out (by rw [hb] at h; exact h)
  have oj : ∀ n, has j n = true → base + 1 ≤ n ∧ n < base + 1 + 64 := fun n h => by
    rw [ej, Bool.or_eq_true] at h
    exact h.elim (oa n) (ob n)
  have om : ∀ n, has m n = true → base + 1 ≤ n ∧ n < base + 1 + 64 := fun n h => by
    rw [em, Bool.and_eq_true] at h
    exact oa n h.1
  have aa : ∀ k : Nat, k < 64 → has a (base + 1 + (k : Int)) = bit x k := fun k hk => by rw [ha]; exact bitsR_at hk h0 h1
  have ab : ∀ k : Nat, k < 64 → has b (base + 1 + (k : Int)) = bit y k := fun k hk => by rw [hb]; exact bitsR_at hk h0 h1
  have sj : ∀ n, hasS j n = has j n := fun n => by rw [hasS, rj]; rfl
  have sm : ∀ n, hasS m n = has m n := fun n => by rw [hasS, rm]; rfl
  have at_of : ∀ n, base + 1 ≤ n → n < base + 1 + 64 → ∃ k : Nat, k < 64 ∧ n = base + 1 + (k : Int) := fun n h2 h3 => ⟨(n - (base + 1)).toNat, by omega, by omega⟩
  refine ⟨fun k hk => by rw [sj, ej, aa k hk, ab k hk], fun k hk => by rw [sm, em, aa k hk, ab k hk], fun k hk => by rw [cnt_snoc, em, aa k hk, ab k hk], count_bits rm om, ?_, ?_, ?_, ?_, ?_, ?_⟩
  · rw [count_bits rj oj, count_bits rb ob]
    refine cnt_add 64 (base + 1) (fun n => ?_) fun n h2 h3 => ?_
    · rw [ej, em]; cases has a n <;> cases has b n <;> rfl
    · rw [em, h3] at h2; simp at h2
  · rw [count_bits rb ob]; exact cnt_bd _ _ _
  · rw [sj, ← Bool.not_eq_true]; intro h; have := oj _ h; omega
  · rw [sj, ← Bool.not_eq_true]; intro h; have := oj _ h; omega
  · refine right_one rj (bitsR_right _ _) fun n => ?_
    rw [Bool.eq_iff_iff]
    constructor
    · intro h
      obtain ⟨k, hk, rfl⟩ := at_of n (oj n h).1 (oj n h).2
      rw [bitsR_at hk h0 h1, bit_or, ← aa k hk, ← ab k hk, ← ej]; exact h
    · intro h
      obtain ⟨k, hk, rfl⟩ := at_of n (bits_out h).1 (bits_out h).2
      rw [bitsR_at hk h0 h1, bit_or, ← aa k hk, ← ab k hk, ← ej] at h; exact h
  · refine right_one rm (bitsR_right _ _) fun n => ?_
    rw [Bool.eq_iff_iff]
    constructor
    · intro h
      obtain ⟨k, hk, rfl⟩ := at_of n (om n h).1 (om n h).2
      rw [bitsR_at hk h0 h1, bit_andNot x y k hy hk, ← aa k hk, ← ab k hk, ← em]; exact h
    · intro h
      obtain ⟨k, hk, rfl⟩ := at_of n (bits_out h).1 (bits_out h).2
      rw [bitsR_at hk h0 h1, bit_andNot x y k hy hk, ← aa k hk, ← ab k hk, ← em] at h; exact h
end Go.Proofs.Ytdpkmabojlihmaa.Sp

