import Derived.Test.YthpooogjlmaemaaPNum
namespace Go.Proofs.Ythpooogjlmaemaa.Ps
open Go.Proofs.Ythpooogjlmaemaa.Pl
/-- Go's order of texts, byte by byte. -/
def less : List UInt8 → List UInt8 → Bool
  | _, [] => false
  | [], _ :: _ => true
  | a :: x, b :: y => a < b || (a == b && less x y)
theorem less_irrefl : ∀ l, less l l = false
  | [] => rfl
  | a :: x => by simp [less, less_irrefl x]
theorem less_app : ∀ (a b c d : List UInt8), a.length = b.length → less (a ++ c) (b ++ d) = (less a b || (a == b && less c d))
  | [], [], c, d, _ => by simp [less]
  | x :: a, y :: b, c, d, h => by
    simp only [List.cons_append, less]
    rw [less_app a b c d (by simpa using h)]
    by_cases hxy : x = y
    · subst hxy; simp
    · have : (x == y) = false := by simpa using hxy
      simp [this]
  | [], _ :: _, _, _, h => by simp at h
  | _ :: _, [], _, _, h => by simp at h
theorem big_cons (a : UInt8) (x : List UInt8) : bigF 0 (a :: x) = a.toNat * 256 ^ x.length + bigF 0 x := by
  simp only [bigF]; rw [bigF_split]; simp
/-- Of one length, the order is that of the numbers. -/
theorem less_big : ∀ (a b : List UInt8), a.length = b.length → less a b = decide (bigF 0 a < bigF 0 b)
  | [], [], _ => by simp [less, bigF]
  | a :: x, b :: y, h => by
    have h' : x.length = y.length := by simpa using h
    simp only [less]
    rw [less_big x y h', big_cons, big_cons, h']
    have hx := bigF_lt x 0
    have hy := bigF_lt y 0
    rw [h'] at hx
    simp only [Nat.zero_add, Nat.one_mul] at hx hy
    rw [Bool.eq_iff_iff]
    simp only [Bool.or_eq_true, Bool.and_eq_true, beq_iff_eq, decide_eq_true_eq, UInt8.lt_iff_toNat_lt]
    generalize 256 ^ y.length = m at *
    constructor
    · rintro (h1 | ⟨rfl, h2⟩)
      · have : (a.toNat + 1) * m ≤ b.toNat * m := Nat.mul_le_mul_right _ h1
        rw [Nat.add_mul] at this; omega
      · omega
    · intro h1
      rcases Nat.lt_trichotomy a.toNat b.toNat with h2 | h2 | h2
      · exact .inl h2
      · refine .inr ⟨UInt8.toNat.inj h2, ?_⟩
        rw [h2] at h1; omega
      · have : (b.toNat + 1) * m ≤ a.toNat * m := Nat.mul_le_mul_right _ h2
        rw [Nat.add_mul] at this; omega
  | [], _ :: _, h => by simp at h
  | _ :: _, [], h => by simp at h

theorem big_fixF (v k : Nat) (h : v < 256 ^ k) : bigF 0 (fixF v k) = v := by
  rw [bigF_fixF]; simp [Nat.mod_eq_of_lt h]
theorem fixF_inj {u v k : Nat} (hu : u < 256 ^ k) (hv : v < 256 ^ k) (h : fixF u k = fixF v k) : u = v := by
  rw [← big_fixF u k hu, h, big_fixF v k hv]

structure St where
  p : Nat
  l : Nat
  r : Nat
def St.right (s : St) : Prop := s.p < 281474976710656 ∧ s.l < 65536 ∧ s.r < 64
def St.bytes (s : St) : List UInt8 := fixF s.p 6 ++ fixF s.l 2 ++ [UInt8.ofNat s.r]
theorem St.bytes_len (s : St) : s.bytes.length = 9 := by simp [St.bytes, fixF_len]
def St.lt (a b : St) : Prop := a.p < b.p ∨ (a.p = b.p ∧ (a.l < b.l ∨ (a.l = b.l ∧ a.r < b.r)))
theorem bytes_less (a b : St) (ha : a.right) (hb : b.right) : less a.bytes b.bytes = true ↔ a.lt b := by
  obtain ⟨a1, a2, a3⟩ := ha
  obtain ⟨b1, b2, b3⟩ := hb
  unfold St.bytes St.lt
  rw [less_app _ _ _ _ (by simp [fixF_len]), less_app _ _ _ _ (by simp [fixF_len]), less_big _ _ (by simp [fixF_len]), less_big _ _ (by simp [fixF_len]),
    big_fixF _ 6 (by omega), big_fixF _ 6 (by omega), big_fixF _ 2 (by omega), big_fixF _ 2 (by omega)]
  have e1 : (fixF a.p 6 ++ fixF a.l 2 == fixF b.p 6 ++ fixF b.l 2) = decide (a.p = b.p ∧ a.l = b.l) := by
    rw [Bool.eq_iff_iff]; simp only [beq_iff_eq, decide_eq_true_eq]
    constructor
    · intro h
      have h6 := congrArg (List.take 6) h
      have h2 := congrArg (List.drop 6) h
      rw [List.take_left' (by simp [fixF_len]), List.take_left' (by simp [fixF_len])] at h6
      rw [List.drop_left' (by simp [fixF_len]), List.drop_left' (by simp [fixF_len])] at h2
      exact ⟨fixF_inj (by omega) (by omega) h6, fixF_inj (by omega) (by omega) h2⟩
    · rintro ⟨h1, h2⟩; rw [h1, h2]
  have e2 : (fixF a.p 6 == fixF b.p 6) = decide (a.p = b.p) := by
    rw [Bool.eq_iff_iff]; simp only [beq_iff_eq, decide_eq_true_eq]
    exact ⟨fun h => fixF_inj (by omega) (by omega) h, fun h => by rw [h]⟩
  rw [e1, e2]
  simp only [less, Bool.or_eq_true, Bool.and_eq_true, decide_eq_true_eq, UInt8.lt_iff_toNat_lt, Bool.or_false, Bool.and_false, toNat_ofNat (show a.r < 256 by omega), toNat_ofNat (show b.r < 256 by omega)]
  omega
theorem bytes_inj (a b : St) (ha : a.right) (hb : b.right) (h : a.bytes = b.bytes) : a = b := by
  have h1 : less a.bytes b.bytes = false := by rw [h]; exact less_irrefl _
  have h2 : less b.bytes a.bytes = false := by rw [h]; exact less_irrefl _
  have h1' : ¬ a.lt b := fun e => by rw [(bytes_less a b ha hb).2 e] at h1; cases h1
  have h2' : ¬ b.lt a := fun e => by rw [(bytes_less b a hb ha).2 e] at h2; cases h2
  unfold St.lt at h1' h2'
  obtain ⟨p, l, r⟩ := a
  obtain ⟨p', l', r'⟩ := b
  simp only at h1' h2'
  have : p = p' := by omega
  have : l = l' := by omega
  have : r = r' := by omega
  simp [*]
/-- The stamp of nine bytes. -/
def St.of (b : List UInt8) : St := ⟨bigF 0 (b.take 6), bigF 0 ((b.drop 6).take 2), (b[8]?.getD 0).toNat⟩
theorem of_bytes (s : St) (h : s.right) : St.of s.bytes = s := by
  obtain ⟨h1, h2, h3⟩ := h
  obtain ⟨p, l, r⟩ := s
  simp only at h1 h2 h3
  unfold St.of St.bytes
  simp only [List.append_assoc]
  rw [List.take_left' (by simp [fixF_len]), List.drop_left' (by simp [fixF_len]), List.take_left' (by simp [fixF_len]), big_fixF _ 6 (by omega), big_fixF _ 2 (by omega),
    List.getElem?_append_right (by simp [fixF_len]), List.getElem?_append_right (by simp [fixF_len])]
  simp [fixF_len, toNat_ofNat (show r < 256 by omega)]
theorem bytes_of (b : List UInt8) (h : b.length = 9) (h8 : (b[8]?.getD 0).toNat < 64) : (St.of b).bytes = b ∧ (St.of b).right := by
  have hl6 : (b.take 6).length = 6 := by simp; omega
  have hl2 : ((b.drop 6).take 2).length = 2 := by simp; omega
  constructor
  · unfold St.of St.bytes
    simp only
    have e1 := fixF_bigF (b.take 6)
    have e2 := fixF_bigF ((b.drop 6).take 2)
    rw [hl6] at e1; rw [hl2] at e2
    rw [e1, e2]
    match b, h with
    | [a0, a1, a2, a3, a4, a5, a6, a7, a8], _ => simp
  · refine ⟨?_, ?_, h8⟩
    · have := bigF_lt (b.take 6) 0; rw [hl6] at this; simpa [St.of] using this
    · have := bigF_lt ((b.drop 6).take 2) 0; rw [hl2] at this; simpa [St.of] using this
end Go.Proofs.Ythpooogjlmaemaa.Ps

