/- Clocks: what stays true of one that is stepped, and of the greatest of all that it told and saw. -/
import Derived.Test.YthpooogjlmaemaaHlcF
import Derived.Test.YthpooogjlmaemaaStampM
namespace Go.Proofs.Ythpooogjlmaemaa
open Go.RowKit

def RInv (R M : Int) (i : Nat) (low : S3) (c : Clk) : Prop := c.s.r = R ∧ c.m = M ∧ c.d = 1048576 ∧ 0 ≤ c.s.p ∧ c.s.p ≤ 31 + (i : Int) ∧ 0 ≤ c.s.l ∧ c.s.l ≤ 65535 ∧ low.r ≤ 63 ∧ (low.p < c.s.p ∨ low.p = c.s.p ∧ low.l ≤ c.s.l)
theorem mx_two (a b : S3) : mxS [a, b] = if a.lt b = true then b else a := by simp [mxS, mxF]
theorem RInv.ok {R M : Int} {i : Nat} {low : S3} {c : Clk} (h : RInv R M i low c) (hM : 0 ≤ M ∧ M ≤ 2) (hi : i ≤ 400) : c.ok := by
  obtain ⟨h1, h2, h3, h4, h5, h6, h7, _⟩ := h
  unfold Clk.ok
  omega
theorem timed31 {now : Int} (h0 : 0 ≤ now) (h1 : now ≤ 31) : timedB now = true := by unfold timedB; rw [decide_eq_true_eq]; omega
theorem rise_wit {R M : Int} {i : Nat} {low : S3} {c : Clk} (h : RInv R M i low c) {now L r : Int} (h0 : 0 ≤ now) (h1 : now ≤ 31) (hL0 : 0 ≤ L) (hL1 : L ≤ 3) (hr0 : 0 ≤ r) (hr1 : r ≤ 63) :
    checkS c now ⟨now, L, r⟩ = 0 ∧ RInv R M (i + 1) (mxS [low, ⟨now, L, 63⟩]) (witC c now ⟨now, L, r⟩) := by
  obtain ⟨g1, g2, g3, g4, g5, g6, g7, g8, g9⟩ := h
  have hc : checkS c now ⟨now, L, r⟩ = 0 := by
    unfold checkS
    rw [if_pos (timed31 h0 h1), if_pos (by unfold S3.right; rw [decide_eq_true_eq]; simp only; omega), if_neg (by simp only; omega)]
  refine ⟨hc, ?_⟩
  unfold witC
  rw [if_pos hc, mx_two]
  obtain ⟨lp, ll, lr⟩ := low
  obtain ⟨⟨p, l, q⟩, m, d⟩ := c
  simp only at *
  unfold S3.lt
  simp only [decide_eq_true_eq]
  split <;> split <;> (refine ⟨?_, ?_, ?_, ?_, ?_, ?_, ?_, ?_, ?_⟩ <;> simp only <;> first | assumption | omega | (exact .inr ⟨rfl, Int.le_refl _⟩) | (exact .inr ⟨trivial, by omega⟩) | (simp; done))
theorem rise_floor {R M : Int} {i : Nat} {low : S3} {c : Clk} (h : RInv R M i low c) (hM : 0 ≤ M ∧ M ≤ 2) {now : Int} (h0 : 0 ≤ now) (h1 : now ≤ 31) :
    RInv R M (i + 1) (mxS [low, ⟨now, M, 63⟩]) (floorC c now) := by
  obtain ⟨g1, g2, g3, g4, g5, g6, g7, g8, g9⟩ := h
  have hp : phS now = now := by unfold phS; rw [if_neg (by omega), if_neg (by omega)]
  unfold floorC
  rw [hp, mx_two]
  obtain ⟨lp, ll, lr⟩ := low
  obtain ⟨⟨p, l, q⟩, m, d⟩ := c
  simp only at *
  unfold S3.lt
  simp only [decide_eq_true_eq]
  split <;> split <;> (refine ⟨?_, ?_, ?_, ?_, ?_, ?_, ?_, ?_, ?_⟩ <;> simp only <;> first | assumption | omega | (exact .inr ⟨rfl, Int.le_refl _⟩) | (exact .inr ⟨trivial, by omega⟩) | (simp; done))
theorem rise_next {R M : Int} {i : Nat} {low : S3} {c : Clk} (h : RInv R M i low c) (hM : 0 ≤ M ∧ M ≤ 2) (hi : i ≤ 400) {now : Int} (h0 : 0 ≤ now) (h1 : now ≤ 31) :
    ∃ s : S3, peekS c now = (s, 0) ∧ nextC c now = { c with s := s } ∧ low.lt s = true ∧ now ≤ s.p ∧ s.r = R ∧ s.l ≤ M ∧ RInv R M (i + 1) ⟨s.p, s.l, 63⟩ { c with s := s } := by
  obtain ⟨g1, g2, g3, g4, g5, g6, g7, g8, g9⟩ := h
  obtain ⟨s, hs, hs2⟩ : ∃ s, stepS c now = some s ∧ (c.s.p < s.p ∨ c.s.p = s.p ∧ c.s.l < s.l) ∧ now ≤ s.p ∧ s.r = R ∧ 0 ≤ s.l ∧ s.l ≤ M ∧ 0 ≤ s.p ∧ s.p ≤ 32 + (i : Int) := by
    unfold stepS
    by_cases hA : c.s.p < now
    · rw [if_pos hA]; exact ⟨_, rfl, by simp only; refine ⟨?_, ?_, ?_, ?_, ?_, ?_, ?_⟩ <;> first | assumption | omega | (exact .inr ⟨rfl, by omega⟩) | (exact .inr ⟨trivial, by omega⟩) | (simp; done)⟩
    · rw [if_neg hA]
      by_cases hB : c.s.l < c.m
      · rw [if_pos hB]; exact ⟨_, rfl, by simp only; refine ⟨?_, ?_, ?_, ?_, ?_, ?_, ?_⟩ <;> first | assumption | omega | (exact .inr ⟨rfl, by omega⟩) | (exact .inr ⟨trivial, by omega⟩) | (simp; done)⟩
      · rw [if_neg hB, if_pos (by omega)]; exact ⟨_, rfl, by simp only; refine ⟨?_, ?_, ?_, ?_, ?_, ?_, ?_⟩ <;> first | assumption | omega | (exact .inr ⟨rfl, by omega⟩) | (exact .inr ⟨trivial, by omega⟩) | (simp; done)⟩
  have hpk : peekS c now = (s, 0) := by
    unfold peekS
    rw [if_pos (timed31 h0 h1), hs]
    simp only [endS]
    rw [if_neg (by omega)]
  refine ⟨s, hpk, by unfold nextC; rw [hpk]; rfl, ?_, hs2.2.1, hs2.2.2.1, hs2.2.2.2.2.1, ?_⟩
  · unfold S3.lt
    rw [decide_eq_true_eq]
    omega
  · refine ⟨?_, ?_, ?_, ?_, ?_, ?_, ?_, ?_, ?_⟩ <;> simp only <;> first | assumption | omega | (exact .inr ⟨rfl, Int.le_refl _⟩) | (exact .inr ⟨trivial, by omega⟩) | (simp; done)
end Go.Proofs.Ythpooogjlmaemaa

