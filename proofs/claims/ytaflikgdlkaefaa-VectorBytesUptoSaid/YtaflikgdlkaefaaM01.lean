/- Texts of this claim, together. -/
import Init
import Derived.Laws.StructEq
import Derived.Test.YtaflikgdlkaefaaM00
namespace Go.Proofs.Ytaflikgdlkaefaa.Pl

/-- The bytes of a number: seven bits a byte, the lowest first; each byte but the last bears the bit 128. -/
def encF : Nat → Nat → List UInt8
  | 0, v => [UInt8.ofNat v]
  | k + 1, v => if v < 128 then [UInt8.ofNat v] else UInt8.ofNat (v % 128 + 128) :: encF k (v / 128)
def enc (v : Nat) : List UInt8 := encF 9 v

/-- How many bytes ahead bear the bit 128. -/
def run : List UInt8 → Nat
  | [] => 0
  | c :: t => if 128 ≤ c.toNat then run t + 1 else 0
/-- The number of the lowest seven bits of each byte. -/
def val : List UInt8 → Nat
  | [] => 0
  | c :: t => c.toNat % 128 + 128 * val t
/-- What a byte is at a place, 0 beyond the end. -/
def at_ (l : List UInt8) (i : Nat) : Nat := (l[i]?.getD 0).toNat
/-- The number at the beginning, how many bytes it has, the error. -/
def takeS (l : List UInt8) : Nat × Nat × Nat :=
  if 10 ≤ run l then (0, 0, 21)
  else if run l = l.length then (0, 0, 20)
  else if (0 < run l ∧ at_ l (run l) = 0) ∨ (run l = 9 ∧ 1 < at_ l (run l)) then (0, 0, 21)
  else (val (l.take (run l + 1)), run l + 1, 0)

theorem takeS_at (l : List UInt8) (k : Nat) (hk : run l = k) : takeS l =
    if 10 ≤ k then (0, 0, 21) else if k = l.length then (0, 0, 20)
    else if (0 < k ∧ at_ l k = 0) ∨ (k = 9 ∧ 1 < at_ l k) then (0, 0, 21) else (val (l.take (k + 1)), k + 1, 0) := by subst hk; rfl

theorem toNat_ofNat {n : Nat} (h : n < 256) : (UInt8.ofNat n).toNat = n := by
  rw [UInt8.toNat_ofNat']; omega

theorem encF_len_pos (k v : Nat) : 1 ≤ (encF k v).length := by
  cases k with
  | zero => simp [encF]
  | succ k => simp only [encF]; split <;> simp
theorem encF_len_le : ∀ (k v : Nat), (encF k v).length ≤ k + 1
  | 0, v => by simp [encF]
  | k + 1, v => by
    simp only [encF]; split
    · simp
    · have := encF_len_le k (v / 128); simp only [List.length_cons]; omega
theorem div_lt_pow {k v : Nat} (h : v < 128 ^ (k + 1 + 1)) : v / 128 < 128 ^ (k + 1) := by
  rw [Nat.pow_succ] at h; exact Nat.div_lt_of_lt_mul (by rw [Nat.mul_comm]; exact h)

theorem run_le (l : List UInt8) : run l ≤ l.length := by
  induction l with
  | nil => simp [run]
  | cons c t ih => simp only [run, List.length_cons]; split <;> omega

/-- The encoded number, whatever stands behind: its run and its last byte. -/
theorem encF_run : ∀ (k v : Nat) (t : List UInt8), v < 128 ^ (k + 1) → run (encF k v ++ t) + 1 = (encF k v).length
  | 0, v, t, h => by
    simp only [encF, List.singleton_append, run, List.length_singleton]
    have hv : v < 128 := by simpa using h
    rw [toNat_ofNat (by omega), if_neg (by omega)]
  | k + 1, v, t, h => by
    simp only [encF]; split
    · rename_i hv
      simp only [List.singleton_append, run, List.length_singleton]
      rw [toNat_ofNat (by omega), if_neg (by omega)]
    · simp only [List.cons_append, run, List.length_cons]
      rw [toNat_ofNat (by omega), if_pos (by omega)]
      have := encF_run k (v / 128) t (div_lt_pow h)
      omega
theorem encF_val : ∀ (k v : Nat), v < 128 ^ (k + 1) → val (encF k v) = v
  | 0, v, h => by
    have hv : v < 128 := by simpa using h
    simp only [encF, val]; rw [toNat_ofNat (by omega)]; omega
  | k + 1, v, h => by
    simp only [encF]; split
    · simp only [val]; rw [toNat_ofNat (by omega)]; omega
    · simp only [val]; rw [toNat_ofNat (by omega), encF_val k (v / 128) (div_lt_pow h)]; omega
/-- The last byte. -/
theorem encF_last : ∀ (k v : Nat), v < 128 ^ (k + 1) → at_ (encF k v) ((encF k v).length - 1) = v / 128 ^ ((encF k v).length - 1) ∧ ((encF k v).length ≠ 1 → at_ (encF k v) ((encF k v).length - 1) ≠ 0)
  | 0, v, h => by
    have hv : v < 128 := by simpa using h
    simp only [encF, at_, List.length_singleton]; simp; omega
  | k + 1, v, h => by
    simp only [encF]; split
    · simp only [at_, List.length_singleton]; simp; omega
    · rename_i hv
      have ih := encF_last k (v / 128) (div_lt_pow h)
      have hp := encF_len_pos k (v / 128)
      obtain ⟨m, hm⟩ : ∃ m, (encF k (v / 128)).length = m + 1 := ⟨_, (Nat.succ_pred_eq_of_pos hp).symm⟩
      simp only [List.length_cons, hm, Nat.add_sub_cancel] at ih ⊢
      have e : at_ (UInt8.ofNat (v % 128 + 128) :: encF k (v / 128)) (m + 1) = at_ (encF k (v / 128)) m := by simp [at_]
      rw [e, ih.1]
      refine ⟨by rw [Nat.div_div_eq_div_mul, Nat.pow_succ, Nat.mul_comm], fun _ => ?_⟩
      by_cases h0 : m = 0
      · subst h0; simp; omega
      · rw [← ih.1]; exact ih.2 (by omega)

theorem lt_pow_of_lt {v : Nat} (h : v < 18446744073709551616) : v < 128 ^ (9 + 1) := Nat.lt_of_lt_of_le h (by decide)

theorem take_enc (v : Nat) (h : v < 18446744073709551616) (t : List UInt8) : takeS (enc v ++ t) = (v, (enc v).length, 0) := by
  have h1 := encF_run 9 v t (lt_pow_of_lt h)
  have h2 := encF_len_le 9 v
  have h3 := encF_last 9 v (lt_pow_of_lt h)
  have h4 := encF_val 9 v (lt_pow_of_lt h)
  show takeS (encF 9 v ++ t) = (v, (encF 9 v).length, 0)
  generalize encF 9 v = l at *
  have hr : run (l ++ t) = l.length - 1 := by omega
  have hat : at_ (l ++ t) (l.length - 1) = at_ l (l.length - 1) := by simp only [at_]; rw [List.getElem?_append_left (by omega)]
  rw [takeS_at _ _ hr, hat, if_neg (by omega), if_neg (by rw [List.length_append]; omega), if_neg]
  · rw [show l.length - 1 + 1 = l.length by omega, List.take_left, h4]
  · rintro (⟨a, b⟩ | ⟨a, b⟩)
    · exact h3.2 (by omega) b
    · rw [h3.1, a] at b
      have : v / 128 ^ 9 < 2 := Nat.div_lt_of_lt_mul (Nat.lt_of_lt_of_le h (by decide))
      omega

/-- No less of it is one. -/
theorem encF_run_take : ∀ (k v i : Nat), v < 128 ^ (k + 1) → i < (encF k v).length → run ((encF k v).take i) = i
  | 0, v, i, h, hi => by
    simp only [encF, List.length_singleton] at hi ⊢
    obtain rfl : i = 0 := by omega
    simp [run]
  | k + 1, v, i, h, hi => by
    simp only [encF] at hi ⊢
    split at hi
    · simp only [List.length_singleton] at hi
      obtain rfl : i = 0 := by omega
      simp [run]
    · rename_i hv
      rw [if_neg hv]
      cases i with
      | zero => simp [run]
      | succ i =>
        simp only [List.take_succ_cons, run]
        rw [toNat_ofNat (by omega), if_pos (by omega), encF_run_take k (v / 128) i (div_lt_pow h) (by simpa using hi)]
theorem take_less (v i : Nat) (h : v < 18446744073709551616) (hi : i < (enc v).length) : takeS ((enc v).take i) = (0, 0, 20) := by
  have h1 := encF_run_take 9 v i (lt_pow_of_lt h) hi
  have h2 := encF_len_le 9 v
  have hi' : i < (encF 9 v).length := hi
  show takeS ((encF 9 v).take i) = _
  rw [takeS_at _ _ h1, if_neg (by omega), if_pos (by rw [List.length_take]; omega)]

/-- Bytes that are read as a number are those that are laid for it. -/
theorem encF_of : ∀ (k : Nat) (l : List UInt8), run l < l.length → run l ≤ k → (0 < run l → at_ l (run l) ≠ 0) → encF k (val (l.take (run l + 1))) = l.take (run l + 1) ∧ val (l.take (run l + 1)) < 128 ^ (run l + 1)
  | k, [], h, _, _ => by simp [run] at h
  | k, c :: t, h, hk, h0 => by
    by_cases hc : 128 ≤ c.toNat
    · have er : run (c :: t) = run t + 1 := by simp only [run]; rw [if_pos hc]
      rw [er] at h hk h0 ⊢
      simp only [List.length_cons] at h
      obtain ⟨k, rfl⟩ : ∃ k', k = k' + 1 := ⟨k - 1, by omega⟩
      have hat : at_ (c :: t) (run t + 1) = at_ t (run t) := by simp [at_]
      rw [hat] at h0
      have ih := encF_of k t (by omega) (by omega) (fun _ => h0 (by omega))
      have hcl := c.toNat_lt
      have hv : 1 ≤ val (t.take (run t + 1)) := by
        have hne := h0 (by omega)
        clear ih
        revert hne h
        clear hat h0 hk er
        intro h hne
        have hgen : ∀ (s : List UInt8), run s < s.length → at_ s (run s) ≠ 0 → at_ s (run s) < 128 → 1 ≤ val (s.take (run s + 1)) := by
          intro s
          induction s with
          | nil => intro h; simp at h
          | cons d s ih =>
            intro h hne hlt
            by_cases hd : 128 ≤ d.toNat
            · have e : run (d :: s) = run s + 1 := by simp only [run]; rw [if_pos hd]
              have hat : at_ (d :: s) (run s + 1) = at_ s (run s) := by simp [at_]
              rw [e] at h hne hlt ⊢
              rw [hat] at hne hlt
              have := ih (by simpa using h) hne hlt
              simp only [List.take_succ_cons, val]
              omega
            · have e : run (d :: s) = 0 := by simp only [run]; rw [if_neg hd]
              rw [e] at hne hlt ⊢
              simp [at_] at hne hlt
              simp [val]
              omega
        refine hgen t (by omega) hne ?_
        have hlt : ∀ (s : List UInt8), run s < s.length → at_ s (run s) < 128 := by
          intro s
          induction s with
          | nil => intro h; simp at h
          | cons d s ih =>
            intro h
            by_cases hd : 128 ≤ d.toNat
            · have e : run (d :: s) = run s + 1 := by simp only [run]; rw [if_pos hd]
              have hat : at_ (d :: s) (run s + 1) = at_ s (run s) := by simp [at_]
              rw [e, hat]; rw [e] at h; exact ih (by simpa using h)
            · have e : run (d :: s) = 0 := by simp only [run]; rw [if_neg hd]
              rw [e]; simp [at_]; omega
        exact hlt t (by omega)
      simp only [List.take_succ_cons, val, encF]
      rw [if_neg (by omega)]
      have e1 : (c.toNat % 128 + 128 * val (t.take (run t + 1))) / 128 = val (t.take (run t + 1)) := by omega
      have e2 : (c.toNat % 128 + 128 * val (t.take (run t + 1))) % 128 + 128 = c.toNat := by omega
      rw [e1, e2, ih.1]
      refine ⟨by simp, ?_⟩
      have := ih.2
      rw [Nat.pow_succ 128 (run t + 1)]
      omega
    · have er : run (c :: t) = 0 := by simp only [run]; rw [if_neg hc]
      rw [er]
      have e : c.toNat % 128 + 128 * 0 = c.toNat := by omega
      simp only [Nat.zero_add, List.take_succ_cons, List.take_zero, val]
      rw [e]
      cases k with
      | zero => simp [encF]; omega
      | succ k => simp only [encF]; rw [if_pos (by omega)]; simp; omega

theorem val_lt_last : ∀ (l : List UInt8), run l < l.length → val (l.take (run l + 1)) < 128 ^ run l * (at_ l (run l) + 1)
  | [], h => by simp at h
  | c :: t, h => by
    by_cases hc : 128 ≤ c.toNat
    · have er : run (c :: t) = run t + 1 := by simp only [run]; rw [if_pos hc]
      rw [er] at h ⊢
      have hat : at_ (c :: t) (run t + 1) = at_ t (run t) := by simp [at_]
      rw [hat]
      have ih := val_lt_last t (by simpa using h)
      simp only [List.take_succ_cons, val]
      rw [Nat.pow_succ, Nat.mul_right_comm]
      omega
    · have er : run (c :: t) = 0 := by simp only [run]; rw [if_neg hc]
      rw [er]
      simp [val, at_]
      omega

theorem takeS_ok (l : List UInt8) (h : (takeS l).2.2 = 0) :
    1 ≤ (takeS l).2.1 ∧ (takeS l).2.1 ≤ 10 ∧ (takeS l).2.1 ≤ l.length ∧ enc (takeS l).1 = l.take (takeS l).2.1 ∧ (takeS l).1 < 18446744073709551616 := by
  have hr := run_le l
  unfold takeS at h ⊢
  by_cases h1 : 10 ≤ run l
  · rw [if_pos h1] at h; simp at h
  · rw [if_neg h1] at h ⊢
    by_cases h2 : run l = l.length
    · rw [if_pos h2] at h; simp at h
    · rw [if_neg h2] at h ⊢
      by_cases h3 : (0 < run l ∧ at_ l (run l) = 0) ∨ (run l = 9 ∧ 1 < at_ l (run l))
      · rw [if_pos h3] at h; simp at h
      · rw [if_neg h3]
        have ho := encF_of 9 l (by omega) (by omega) (fun a b => h3 (.inl ⟨a, b⟩))
        refine ⟨by simp, by simp; omega, by simp; omega, ho.1, ?_⟩
        by_cases h9 : run l = 9
        · have := val_lt_last l (by omega)
          have hle : at_ l (run l) ≤ 1 := by
            rcases Nat.lt_or_ge 1 (at_ l (run l)) with h | h
            · exact absurd (.inr ⟨h9, h⟩) h3
            · exact h
          refine Nat.lt_of_lt_of_le this ?_
          rw [h9] at hle ⊢
          exact Nat.le_trans (Nat.mul_le_mul_left _ (Nat.add_le_add_right hle 1)) (by decide)
        · refine Nat.lt_of_lt_of_le ho.2 (Nat.le_trans (Nat.pow_le_pow_right (by decide) (show run l + 1 ≤ 9 by omega)) (by decide))
theorem takeS_bad (l : List UInt8) (h : (takeS l).2.2 ≠ 0) : (takeS l).1 = 0 ∧ (takeS l).2.1 = 0 := by
  unfold takeS at h ⊢
  split
  · simp
  · split
    · simp
    · split
      · simp
      · rename_i h1 h2 h3
        rw [if_neg h1, if_neg h2, if_neg h3] at h
        exact absurd rfl h
theorem takeS_lt (l : List UInt8) : (takeS l).1 < 18446744073709551616 := by
  by_cases h : (takeS l).2.2 = 0
  · exact (takeS_ok l h).2.2.2.2
  · rw [(takeS_bad l h).1]; decide
theorem takeS_err (l : List UInt8) : (takeS l).2.2 = 0 ∨ (takeS l).2.2 = 20 ∨ (takeS l).2.2 = 21 := by
  unfold takeS
  split
  · simp
  · split
    · simp
    · split <;> simp


theorem enc_len (v : Nat) : 1 ≤ (enc v).length ∧ (enc v).length ≤ 10 := ⟨encF_len_pos 9 v, encF_len_le 9 v⟩

/-- How many bytes, by the number. -/
theorem encF_len_lt : ∀ (k v n : Nat), n ≤ k → v < 128 ^ (n + 1) → (encF k v).length ≤ n + 1
  | 0, v, n, hn, h => by simp [encF]
  | k + 1, v, n, hn, h => by
    simp only [encF]; split
    · simp
    · rename_i hv
      cases n with
      | zero => simp at h; omega
      | succ n =>
        have := encF_len_lt k (v / 128) n (by omega) (div_lt_pow h)
        simp only [List.length_cons]; omega
theorem encF_len_ge : ∀ (k v n : Nat), n ≤ k → 128 ^ n ≤ v → n + 1 ≤ (encF k v).length
  | 0, v, n, hn, h => by simp [encF]; omega
  | k + 1, v, n, hn, h => by
    simp only [encF]
    cases n with
    | zero => split <;> simp
    | succ n =>
      have hp : 0 < 128 ^ n := Nat.pow_pos (by decide)
      have h' : 128 ^ n ≤ v / 128 := by rw [Nat.le_div_iff_mul_le (by decide), ← Nat.pow_succ]; exact h
      have hv : ¬ v < 128 := by rw [Nat.pow_succ] at h; omega
      rw [if_neg hv]
      have := encF_len_ge k (v / 128) n (by omega) h'
      simp only [List.length_cons]; omega
theorem enc_len_le_iff (v n : Nat) (hn : n ≤ 8) : (enc v).length ≤ n + 1 ↔ v < 128 ^ (n + 1) := by
  constructor
  · intro h
    rcases Nat.lt_or_ge v (128 ^ (n + 1)) with h' | h'
    · exact h'
    · have := encF_len_ge 9 v (n + 1) (by omega) h'
      unfold enc at h; omega
  · exact fun h => encF_len_lt 9 v n (by omega) h
theorem enc_len_mono {x y : Nat} (h : x ≤ y) : (enc x).length ≤ (enc y).length := by
  have hy := enc_len y
  by_cases hn : (enc y).length = 10
  · have := enc_len x; omega
  · obtain ⟨n, hn⟩ : ∃ n, (enc y).length = n + 1 := ⟨(enc y).length - 1, by omega⟩
    rw [hn]
    have := (enc_len_le_iff y n (by omega)).1 (by omega)
    exact (enc_len_le_iff x n (by omega)).2 (by omega)
theorem enc_len_shift (x : Nat) : (enc x).length = 1 ∨ 0 < x / 128 ^ ((enc x).length - 1) := by
  have hx := enc_len x
  by_cases h1 : (enc x).length = 1
  · exact .inl h1
  · right
    obtain ⟨n, hn⟩ : ∃ n, (enc x).length = n + 1 + 1 := ⟨(enc x).length - 2, by omega⟩
    rw [hn, Nat.add_sub_cancel]
    have : ¬ x < 128 ^ (n + 1) := fun h => by have := (enc_len_le_iff x n (by omega)).2 h; omega
    exact Nat.div_pos (by omega) (Nat.pow_pos (by decide))
theorem enc_len_shift' (x : Nat) : (enc x).length = 10 ∨ x / 128 ^ (enc x).length = 0 := by
  have hx := enc_len x
  by_cases h1 : (enc x).length = 10
  · exact .inl h1
  · right
    obtain ⟨n, hn⟩ : ∃ n, (enc x).length = n + 1 := ⟨(enc x).length - 1, by omega⟩
    rw [hn]
    exact Nat.div_eq_of_lt ((enc_len_le_iff x n (by omega)).1 (by omega))
theorem enc_len_pow (k : Nat) (hk : k < 9) : (enc (128 ^ (k + 1))).length = k + 2 ∧ (enc (128 ^ (k + 1) - 1)).length = k + 1 := by
  have hp : 0 < 128 ^ (k + 1) := Nat.pow_pos (by decide)
  constructor
  · have h1 : (enc (128 ^ (k + 1))).length ≤ k + 2 := by
      by_cases h8 : k = 8
      · have := (enc_len (128 ^ (k + 1))).2; omega
      · exact (enc_len_le_iff _ (k + 1) (by omega)).2 (by rw [Nat.pow_succ 128 (k + 1)]; omega)
    have h2 : ¬ (enc (128 ^ (k + 1))).length ≤ k + 1 := fun h => by
      have := (enc_len_le_iff _ k (by omega)).1 h; omega
    omega
  · have h1 : (enc (128 ^ (k + 1) - 1)).length ≤ k + 1 := (enc_len_le_iff _ k (by omega)).2 (by omega)
    cases k with
    | zero => have := (enc_len (128 ^ (0 + 1) - 1)).1; omega
    | succ k =>
      have h2 : ¬ (enc (128 ^ (k + 1 + 1) - 1)).length ≤ k + 1 := fun h => by
        have := (enc_len_le_iff _ k (by omega)).1 h
        rw [Nat.pow_succ 128 (k + 1)] at this
        have hp2 : 0 < 128 ^ (k + 1) := Nat.pow_pos (by decide)
        omega
      omega

/-- Numbers, one behind another. -/
def encs : List Nat → List UInt8
  | [] => []
  | v :: t => enc v ++ encs t
theorem encs_append (a b : List Nat) : encs (a ++ b) = encs a ++ encs b := by
  induction a with
  | nil => rfl
  | cons v t ih => simp [encs, ih]
theorem encs_snoc (a : List Nat) (v : Nat) : encs (a ++ [v]) = encs a ++ enc v := by rw [encs_append]; simp [encs]
theorem encs_len (a : List Nat) : (encs a).length ≤ 10 * a.length := by
  induction a with
  | nil => simp [encs]
  | cons v t ih => have := (enc_len v).2; simp [encs]; omega

/-! the lowest bytes, the highest of them first -/
def fixF (v : Nat) : Nat → List UInt8
  | 0 => []
  | k + 1 => UInt8.ofNat (v / 256 ^ k) :: fixF v k
def bigF (a : Nat) : List UInt8 → Nat
  | [] => a
  | c :: t => bigF (a * 256 + c.toNat) t
def big (l : List UInt8) : Nat := bigF 0 (l.take 8)
theorem fixF_len (v k : Nat) : (fixF v k).length = k := by induction k <;> simp [fixF, *]
theorem ofNat_mod (n : Nat) : (UInt8.ofNat n).toNat = n % 256 := by rw [UInt8.toNat_ofNat']
theorem bigF_fixF (v : Nat) : ∀ (k a : Nat), bigF a (fixF v k) = a * 256 ^ k + v % 256 ^ k
  | 0, a => by simp [bigF, fixF, Nat.mod_one]
  | k + 1, a => by
    simp only [fixF, bigF]
    rw [bigF_fixF v k, ofNat_mod, Nat.add_mul, Nat.mul_assoc, ← Nat.pow_succ', Nat.add_assoc]
    congr 1
    rw [Nat.pow_succ, Nat.mod_mul, Nat.mul_comm (v / 256 ^ k % 256), Nat.add_comm]
theorem bigF_lt : ∀ (l : List UInt8) (a : Nat), bigF a l < (a + 1) * 256 ^ l.length
  | [], a => by simp [bigF]
  | c :: t, a => by
    simp only [bigF, List.length_cons]
    have := bigF_lt t (a * 256 + c.toNat)
    have hc := c.toNat_lt
    refine Nat.lt_of_lt_of_le this ?_
    rw [Nat.pow_succ', ← Nat.mul_assoc]
    exact Nat.mul_le_mul_right _ (by omega)
theorem bigF_split : ∀ (l : List UInt8) (a : Nat), bigF a l = a * 256 ^ l.length + bigF 0 l
  | [], a => by simp [bigF]
  | c :: t, a => by
    simp only [bigF, List.length_cons]
    rw [bigF_split t (a * 256 + c.toNat), bigF_split t (0 * 256 + c.toNat)]
    rw [Nat.pow_succ', Nat.add_mul, Nat.add_mul, Nat.mul_assoc, Nat.add_assoc]; simp
theorem fixF_mod (v : Nat) : ∀ (k m : Nat), k ≤ m → fixF (v % 256 ^ m) k = fixF v k
  | 0, m, h => rfl
  | k + 1, m, h => by
    simp only [fixF]
    rw [fixF_mod v k m (by omega)]
    congr 1
    apply UInt8.toNat.inj
    rw [ofNat_mod, ofNat_mod]
    obtain ⟨j, rfl⟩ : ∃ j, m = k + 1 + j := ⟨m - (k + 1), by omega⟩
    rw [Nat.pow_add, Nat.pow_succ, Nat.mul_assoc, Nat.mod_mul_right_div_self, Nat.mod_mul_right_mod]
theorem fixF_add (u v : Nat) : ∀ (k m : Nat), k ≤ m → fixF (u * 256 ^ m + v) k = fixF v k := fun k m h => by
  rw [← fixF_mod (u * 256 ^ m + v) k m h, ← fixF_mod v k m h]
  congr 1
  rw [Nat.mul_comm, Nat.mul_add_mod]
theorem fixF_bigF : ∀ (l : List UInt8), fixF (bigF 0 l) l.length = l
  | [] => rfl
  | c :: t => by
    simp only [List.length_cons, fixF, bigF]
    have hlt := bigF_lt t 0
    rw [bigF_split t]
    rw [fixF_add _ _ _ _ (Nat.le_refl _), fixF_bigF t]
    congr 1
    apply UInt8.toNat.inj
    rw [ofNat_mod]
    have hc := c.toNat_lt
    have e : ((0 * 256 + c.toNat) * 256 ^ t.length + bigF 0 t) / 256 ^ t.length = c.toNat := by
      rw [Nat.mul_comm, Nat.mul_add_div (Nat.pow_pos (by decide)), Nat.div_eq_of_lt (by omega)]; omega
    rw [e]; omega
end Go.Proofs.Ytaflikgdlkaefaa.Pl
namespace Go.Proofs.Ytaflikgdlkaefaa.Pl
theorem run_step (l : List UInt8) : ∀ k, k ≤ run l → k < l.length → (128 ≤ at_ l k → k + 1 ≤ run l) ∧ (at_ l k < 128 → run l = k) := by
  induction l with
  | nil => intro k _ h; simp at h
  | cons c t ih =>
    intro k hk hl
    by_cases hc : 128 ≤ c.toNat
    · have er : run (c :: t) = run t + 1 := by simp only [run]; rw [if_pos hc]
      rw [er] at hk ⊢
      cases k with
      | zero => simp [at_]; omega
      | succ k =>
        have hat : at_ (c :: t) (k + 1) = at_ t k := by simp [at_]
        rw [hat]
        have := ih k (by omega) (by simpa using hl)
        omega
    · have er : run (c :: t) = 0 := by simp only [run]; rw [if_neg hc]
      rw [er] at hk ⊢
      obtain rfl : k = 0 := by omega
      simp [at_]; omega
theorem val_snoc (l : List UInt8) (c : UInt8) : val (l ++ [c]) = val l + c.toNat % 128 * 128 ^ l.length := by
  induction l with
  | nil => simp [val]
  | cons d t ih =>
    simp only [List.cons_append, val, List.length_cons, ih]
    have e : c.toNat % 128 * 128 ^ (t.length + 1) = 128 * (c.toNat % 128 * 128 ^ t.length) := by
      rw [Nat.pow_succ, ← Nat.mul_assoc, Nat.mul_comm]
    rw [e]; omega
theorem val_lt (l : List UInt8) : val l < 128 ^ l.length := by
  induction l with
  | nil => simp [val]
  | cons c t ih => simp only [val, List.length_cons, Nat.pow_succ]; omega
theorem val_take_succ (l : List UInt8) (k : Nat) (h : k < l.length) : val (l.take (k + 1)) = val (l.take k) + at_ l k % 128 * 128 ^ k := by
  rw [List.take_add_one, List.getElem?_eq_getElem h]
  simp only [Option.toList_some]
  rw [val_snoc, List.length_take, Nat.min_eq_left (by omega)]
  simp [at_, List.getElem?_eq_getElem h]
theorem val_take_lt (l : List UInt8) (k : Nat) (h : k ≤ l.length) : val (l.take k) < 128 ^ k := by
  have := val_lt (l.take k)
  rwa [List.length_take, Nat.min_eq_left h] at this
theorem takeS_ten (l : List UInt8) (h : 10 ≤ run l) : takeS l = (0, 0, 21) := by rw [takeS_at l _ rfl, if_pos h]
theorem takeS_short (l : List UInt8) (h : run l = l.length) (h' : l.length < 10) : takeS l = (0, 0, 20) := by rw [takeS_at l _ h, if_neg (by omega), if_pos rfl]
theorem takeS_end (l : List UInt8) (k : Nat) (h : run l = k) (hk : k < l.length) (h' : k < 10) :
    takeS l = if (0 < k ∧ at_ l k = 0) ∨ (k = 9 ∧ 1 < at_ l k) then (0, 0, 21) else (val (l.take (k + 1)), k + 1, 0) := by
  rw [takeS_at l _ h, if_neg (by omega), if_neg (by omega)]
theorem pow7 (k : Nat) : 2 ^ (7 * k) = 128 ^ k := by rw [Nat.pow_mul]
end Go.Proofs.Ytaflikgdlkaefaa.Pl
namespace Go.Proofs.Ytaflikgdlkaefaa.Pl
theorem val_drop (l : List UInt8) (j : Nat) (h : j < l.length) : val (l.drop j) = at_ l j % 128 + 128 * val (l.drop (j + 1)) := by
  rw [List.drop_eq_getElem_cons h]
  simp [val, at_, List.getElem?_eq_getElem h]
theorem val_drop_le (l : List UInt8) : ∀ j, val (l.drop j) ≤ val l := by
  induction l with
  | nil => intro j; simp
  | cons c t ih =>
    intro j
    cases j with
    | zero => simp
    | succ j => simp only [List.drop_succ_cons, val]; have := ih j; omega
theorem at_take (l : List UInt8) (k j : Nat) (h : j < k) : at_ (l.take k) j = at_ l j := by
  simp only [at_, List.getElem?_take]; rw [if_pos h]
end Go.Proofs.Ytaflikgdlkaefaa.Pl
namespace Go.Proofs.Ytaflikgdlkaefaa.Pl
theorem bigF_snoc : ∀ (l : List UInt8) (a : Nat) (c : UInt8), bigF a (l ++ [c]) = bigF a l * 256 + c.toNat
  | [], a, c => by simp [bigF]
  | d :: t, a, c => by simp only [List.cons_append, bigF]; exact bigF_snoc t _ c
theorem big_take_succ (l : List UInt8) (k : Nat) (h : k < l.length) : bigF 0 (l.take (k + 1)) = bigF 0 (l.take k) * 256 + at_ l k := by
  rw [List.take_add_one, List.getElem?_eq_getElem h]
  simp only [Option.toList_some]
  rw [bigF_snoc]
  simp [at_, List.getElem?_eq_getElem h]
theorem big_take_lt (l : List UInt8) (k : Nat) : bigF 0 (l.take k) < 256 ^ k := by
  have := bigF_lt (l.take k) 0
  have h2 : (l.take k).length ≤ k := by rw [List.length_take]; omega
  refine Nat.lt_of_lt_of_le this ?_
  rw [Nat.zero_add, Nat.one_mul]
  exact Nat.pow_le_pow_right (by omega) h2
theorem pow8 (k : Nat) : 2 ^ (8 * k) = 256 ^ k := by rw [Nat.pow_mul]
end Go.Proofs.Ytaflikgdlkaefaa.Pl
namespace Go.Proofs.Ytaflikgdlkaefaa.Pl
theorem fixF_get (v : Nat) : ∀ (m j : Nat), j < m → (fixF v m)[m - 1 - j]? = some (UInt8.ofNat (v / 256 ^ j))
  | 0, j, h => by omega
  | m + 1, j, h => by
    simp only [fixF]
    by_cases hj : j = m
    · subst hj; simp
    · rw [show m + 1 - 1 - j = (m - 1 - j) + 1 by omega, List.getElem?_cons_succ]
      exact fixF_get v m j (by omega)
theorem fixF_take (v m j : Nat) (h : j < m) : (fixF v m).take (m - j) = (fixF v m).take (m - (j + 1)) ++ [UInt8.ofNat (v / 256 ^ j)] := by
  have := fixF_get v m j h
  rw [show m - j = (m - (j + 1)) + 1 by omega, List.take_add_one, show m - (j + 1) = m - 1 - j by omega, this]
  rfl
end Go.Proofs.Ytaflikgdlkaefaa.Pl
/- Ranges: plain mathematics: lists of ranges as sets of numbers. -/
namespace Go.Proofs.Ytaflikgdlkaefaa.Sp

structure Rg where
  a : Int
  b : Int
deriving DecidableEq
instance : Inhabited Rg := ⟨⟨0, 0⟩⟩
/-- the greatest number -/
def mx : Int := 1099511627775
def Rg.in_ (r : Rg) (n : Int) : Bool := decide (r.a ≤ n) && decide (n ≤ r.b)
def Rg.ok (r : Rg) : Bool := decide (1 ≤ r.a ∧ r.a ≤ r.b ∧ r.b ≤ mx)
/-- right, from lo on -/
def okR (lo : Int) : List Rg → Bool
  | [] => true
  | r :: t => decide (lo ≤ r.a) && r.ok && okR (r.b + 2) t
def right (l : List Rg) : Bool := okR 1 l
def has (l : List Rg) (n : Int) : Bool := l.any (·.in_ n)
theorem in_iff {r : Rg} {n : Int} : r.in_ n = true ↔ r.a ≤ n ∧ n ≤ r.b := by simp [Rg.in_]
theorem ok_iff {r : Rg} : r.ok = true ↔ 1 ≤ r.a ∧ r.a ≤ r.b ∧ r.b ≤ mx := by simp [Rg.ok]
theorem okR_cons {lo : Int} {r : Rg} {t : List Rg} : okR lo (r :: t) = true ↔ lo ≤ r.a ∧ r.ok = true ∧ okR (r.b + 2) t = true := by simp [okR, and_assoc]
theorem has_cons (r : Rg) (t : List Rg) (n : Int) : has (r :: t) n = (r.in_ n || has t n) := by simp [has]
theorem has_nil (n : Int) : has [] n = false := rfl
theorem has_append (l m : List Rg) (n : Int) : has (l ++ m) n = (has l n || has m n) := by simp [has]
theorem okR_mono {lo lo' : Int} (h : lo' ≤ lo) : ∀ {l : List Rg}, okR lo l = true → okR lo' l = true
  | [], _ => rfl
  | r :: t, hl => by
    rw [okR_cons] at hl ⊢
    exact ⟨by omega, hl.2⟩
/-- all numbers of a right list stand from lo on, and are numbers -/
theorem has_lo : ∀ {l : List Rg} {lo : Int}, okR lo l = true → ∀ n, has l n = true → lo ≤ n ∧ 1 ≤ n ∧ n ≤ mx
  | [], lo, _, n, h => by simp [has] at h
  | r :: t, lo, hl, n, h => by
    rw [okR_cons, ok_iff] at hl
    rw [has_cons, Bool.or_eq_true, in_iff] at h
    rcases h with h | h
    · omega
    · have := has_lo hl.2.2 n h; omega
/-- a right list is the one of its numbers -/
theorem one : ∀ {l m : List Rg} {lo lo' : Int}, okR lo l = true → okR lo' m = true → (∀ n, has l n = has m n) → l = m
  | [], [], _, _, _, _, _ => rfl
  | [], s :: u, _, _, _, hm, h => by
    have := h s.a
    rw [okR_cons, ok_iff] at hm
    rw [has_nil, has_cons, in_iff.2 ⟨Int.le_refl _, hm.2.1.2.1⟩] at this
    cases this
  | r :: t, [], _, _, hl, _, h => by
    have := h r.a
    rw [okR_cons, ok_iff] at hl
    rw [has_nil, has_cons, in_iff.2 ⟨Int.le_refl _, hl.2.1.2.1⟩] at this
    cases this
  | r :: t, s :: u, lo, lo', hl, hm, h => by
    have hl' := hl
    have hm' := hm
    rw [okR_cons, ok_iff] at hl hm
    have inl : ∀ n, has (r :: t) n = true → r.a ≤ n ∧ (n ≤ r.b ∨ r.b + 2 ≤ n ∧ has t n = true) := fun n hn => by
      rw [has_cons, Bool.or_eq_true, in_iff] at hn
      rcases hn with hn | hn
      · omega
      · have := has_lo hl.2.2 n hn; exact ⟨by omega, .inr ⟨this.1, hn⟩⟩
    have inm : ∀ n, has (s :: u) n = true → s.a ≤ n ∧ (n ≤ s.b ∨ s.b + 2 ≤ n ∧ has u n = true) := fun n hn => by
      rw [has_cons, Bool.or_eq_true, in_iff] at hn
      rcases hn with hn | hn
      · omega
      · have := has_lo hm.2.2 n hn; exact ⟨by omega, .inr ⟨this.1, hn⟩⟩
    have pl : ∀ n, r.a ≤ n → n ≤ r.b → has (s :: u) n = true := fun n h1 h2 => by rw [← h, has_cons, in_iff.2 ⟨h1, h2⟩]; rfl
    have pm : ∀ n, s.a ≤ n → n ≤ s.b → has (r :: t) n = true := fun n h1 h2 => by rw [h, has_cons, in_iff.2 ⟨h1, h2⟩]; rfl
    have ea : r.a = s.a := by
      have h1 := (inm _ (pl r.a (Int.le_refl _) hl.2.1.2.1)).1
      have h2 := (inl _ (pm s.a (Int.le_refl _) hm.2.1.2.1)).1
      omega
    have eb : r.b = s.b := by
      rcases Int.lt_trichotomy r.b s.b with hlt | he | hgt
      · have := (inl _ (pm (r.b + 1) (by omega) (by omega))).2; omega
      · exact he
      · have := (inm _ (pl (s.b + 1) (by omega) (by omega))).2; omega
    have e : r = s := by
      obtain ⟨a, b⟩ := r
      obtain ⟨a', b'⟩ := s
      simp only at ea eb
      rw [ea, eb]
    subst e
    congr 1
    refine one hl.2.2 hm.2.2 fun n => ?_
    have hn := h n
    rw [has_cons, has_cons] at hn
    rcases h1 : has t n with _ | _ <;> rcases h2 : has u n with _ | _
    · rfl
    · rw [h1, h2, Bool.or_false, Bool.or_true] at hn
      have g := has_lo hm.2.2 n h2
      have := in_iff.1 hn
      omega
    · rw [h1, h2, Bool.or_false, Bool.or_true] at hn
      have g := has_lo hl.2.2 n h1
      have := in_iff.1 hn.symm
      omega
    · rfl
theorem right_one {l m : List Rg} (hl : right l = true) (hm : right m = true) (h : ∀ n, has l n = has m n) : l = m := one hl hm h
/-! ### one range behind others -/
theorem okR_snoc : ∀ {l : List Rg} {lo : Int} {r : Rg}, okR lo (l ++ [r]) = true ↔ okR lo l = true ∧ r.ok = true ∧ lo ≤ r.a ∧ (∀ x, l.getLast? = some x → x.b + 2 ≤ r.a)
  | [], lo, r => by
    rw [List.nil_append, okR_cons]
    simp [okR]
    exact And.comm
  | x :: l, lo, r => by
    rw [List.cons_append, okR_cons, okR_snoc, okR_cons]
    constructor
    · rintro ⟨h1, h2, h3, h4, h5, h6⟩
      refine ⟨⟨h1, h2, h3⟩, h4, ?_, fun y hy => ?_⟩
      · have := ok_iff.1 h2; omega
      · cases l with
        | nil => simp at hy; subst hy; exact h5
        | cons z l => exact h6 y (by rw [List.getLast?_cons_cons] at hy; exact hy)
    · rintro ⟨⟨h1, h2, h3⟩, h4, h5, h6⟩
      refine ⟨h1, h2, h3, h4, ?_, fun y hy => ?_⟩
      · cases l with
        | nil => exact h6 x rfl
        | cons z l =>
          obtain ⟨y, hy⟩ : ∃ y, (z :: l).getLast? = some y := by
            rw [List.getLast?_eq_some_getLast (by simp)]; exact ⟨_, rfl⟩
          have h7 := h6 y (by rw [List.getLast?_cons_cons]; exact hy)
          have hb := okR_last h3 hy
          omega
      · cases l with
        | nil => simp at hy
        | cons z l => exact h6 y (by rw [List.getLast?_cons_cons]; exact hy)
 where okR_last : ∀ {l : List Rg} {lo : Int} {y : Rg}, okR lo l = true → l.getLast? = some y → lo ≤ y.a ∧ y.ok = true ∧ lo ≤ y.b
  | [], _, _, _, h => by simp at h
  | [x], lo, y, hl, h => by
    simp at h
    subst h
    rw [okR_cons] at hl
    have := ok_iff.1 hl.2.1
    exact ⟨hl.1, hl.2.1, by omega⟩
  | x :: z :: l, lo, y, hl, h => by
    rw [okR_cons] at hl
    rw [List.getLast?_cons_cons] at h
    have h1 := okR_last hl.2.2 h
    have h2 := ok_iff.1 hl.2.1
    exact ⟨by omega, h1.2.1, by omega⟩
theorem last_split {l : List Rg} {x : Rg} (h : l.getLast? = some x) : l = l.dropLast ++ [x] := by
  have hne : l ≠ [] := by intro e; rw [e] at h; cases h
  rw [List.getLast?_eq_some_getLast hne] at h
  injection h with h
  rw [← h, List.dropLast_concat_getLast]
def putR (o : List Rg) (r : Rg) : List Rg :=
  match o.getLast? with
  | none => o ++ [r]
  | some x => if r.a ≤ x.b + 1 then o.dropLast ++ [⟨x.a, max x.b r.b⟩] else o ++ [r]
theorem putR_ok {o : List Rg} {r : Rg} (ho : right o = true) (hr : r.ok = true) (hs : ∀ x, o.getLast? = some x → x.a ≤ r.a) :
    right (putR o r) = true ∧ (∀ n, has (putR o r) n = (has o n || r.in_ n)) ∧ ∀ x, (putR o r).getLast? = some x → x.a ≤ r.a := by
  have hr' := ok_iff.1 hr
  cases hl : o.getLast? with
  | none =>
    have : o = [] := List.getLast?_eq_none_iff.1 hl
    subst this
    refine ⟨by simp [putR, right, okR, hr]; omega, fun n => by simp [putR, has], fun x hx => by simp [putR] at hx; subst hx; omega⟩
  | some x =>
    have hx := hs x hl
    have hsp := last_split hl
    have hok := ho
    rw [hsp, right, okR_snoc] at hok
    obtain ⟨h1, h2, h3, h4⟩ := hok
    have h2' := ok_iff.1 h2
    by_cases hc : r.a ≤ x.b + 1
    · have e : putR o r = o.dropLast ++ [⟨x.a, max x.b r.b⟩] := by rw [putR, hl]; simp only; rw [if_pos hc]
      rw [e]
      refine ⟨?_, fun n => ?_, fun y hy => by simp at hy; subst hy; exact hx⟩
      · rw [right, okR_snoc]
        exact ⟨h1, ok_iff.2 ⟨by simp only; omega, by simp only; omega, by simp only; omega⟩, h3, h4⟩
      · have e2 : has o n = (has o.dropLast n || x.in_ n) := by
          conv => lhs; rw [hsp, has_append]
          simp [has]
        rw [has_append, e2, Bool.or_assoc]
        congr 1
        rw [Bool.eq_iff_iff, has_cons, has_nil, Bool.or_false, Bool.or_eq_true, in_iff, in_iff, in_iff]
        simp only
        omega
    · have e : putR o r = o ++ [r] := by rw [putR, hl]; simp only; rw [if_neg hc]
      rw [e]
      refine ⟨?_, fun n => by simp [has], fun y hy => by simp at hy; subst hy; omega⟩
      rw [right, okR_snoc]
      refine ⟨ho, hr, by omega, fun y hy => ?_⟩
      rw [hl] at hy
      injection hy with hy
      subst hy
      omega
/-- ranges in the order of where they begin, put together -/
theorem fold_put : ∀ {l o : List Rg}, right o = true → (∀ r ∈ l, r.ok = true) → (l.Pairwise fun r s => r.a ≤ s.a) → (∀ x, o.getLast? = some x → ∀ r ∈ l, x.a ≤ r.a) →
    right (l.foldl putR o) = true ∧ ∀ n, has (l.foldl putR o) n = (has o n || has l n)
  | [], o, ho, _, _, _ => ⟨ho, fun n => by simp [has]⟩
  | r :: l, o, ho, hl, hp, hs => by
    obtain ⟨hr, hp'⟩ := List.pairwise_cons.1 hp
    obtain ⟨h1, h2, h3⟩ := putR_ok ho (hl r (by simp)) (fun x hx => hs x hx r (by simp))
    obtain ⟨k1, k2⟩ := fold_put h1 (fun s hs' => hl s (by simp [hs'])) hp' (fun x hx s hs' => by have := h3 x hx; have := hr s hs'; omega)
    refine ⟨k1, fun n => ?_⟩
    rw [List.foldl_cons, k2, h2, has_cons, Bool.or_assoc]
/-! ### the document's add -/
def mergeR : List Rg → Rg → Rg × List Rg
  | [], r => (r, [])
  | x :: t, r => if x.a ≤ r.b + 1 then mergeR t ⟨min r.a x.a, max r.b x.b⟩ else (r, x :: t)
def addR : List Rg → Rg → List Rg
  | [], r => [r]
  | x :: t, r => if x.b < r.a - 1 then x :: addR t r else (mergeR (x :: t) r).1 :: (mergeR (x :: t) r).2
theorem mergeR_ok : ∀ {l : List Rg} {lo : Int} {r : Rg}, okR lo l = true → r.ok = true → (∀ x, l.head? = some x → r.a ≤ x.b + 1) →
    (mergeR l r).1.ok = true ∧ okR ((mergeR l r).1.b + 2) (mergeR l r).2 = true ∧ ((mergeR l r).1.a = r.a ∨ lo ≤ (mergeR l r).1.a) ∧ ∀ n, ((mergeR l r).1.in_ n || has (mergeR l r).2 n) = (r.in_ n || has l n)
  | [], lo, r, _, hr, _ => ⟨hr, rfl, .inl rfl, fun n => rfl⟩
  | x :: t, lo, r, hl, hr, hx => by
    have hx' := hx x rfl
    rw [okR_cons] at hl
    have h1 := ok_iff.1 hl.2.1
    have h2 := ok_iff.1 hr
    by_cases hc : x.a ≤ r.b + 1
    · have hr2 : Rg.ok ⟨min r.a x.a, max r.b x.b⟩ = true := ok_iff.2 ⟨by simp only; omega, by simp only; omega, by simp only; omega⟩
      have ih := mergeR_ok (l := t) (lo := x.b + 2) (r := ⟨min r.a x.a, max r.b x.b⟩) hl.2.2 hr2 (fun y hy => by
        cases t with
        | nil => cases hy
        | cons z t =>
          simp at hy
          subst hy
          have h3 := hl.2.2
          rw [okR_cons, ok_iff] at h3
          simp only
          omega)
      have e : mergeR (x :: t) r = mergeR t ⟨min r.a x.a, max r.b x.b⟩ := by rw [mergeR, if_pos hc]
      rw [e]
      obtain ⟨k1, k2, k3, k4⟩ := ih
      refine ⟨k1, k2, ?_, fun n => ?_⟩
      · simp only at k3; omega
      · rw [k4, has_cons, ← Bool.or_assoc]
        congr 1
        rw [Bool.eq_iff_iff, Bool.or_eq_true, in_iff, in_iff, in_iff]
        simp only
        omega
    · have e : mergeR (x :: t) r = (r, x :: t) := by rw [mergeR, if_neg hc]
      rw [e]
      exact ⟨hr, by rw [okR_cons]; exact ⟨by show r.b + 2 ≤ x.a; omega, hl.2⟩, .inl rfl, fun n => rfl⟩
theorem addR_ok : ∀ {l : List Rg} {lo : Int} {r : Rg}, okR lo l = true → r.ok = true → lo ≤ r.a → okR lo (addR l r) = true ∧ ∀ n, has (addR l r) n = (has l n || r.in_ n)
  | [], lo, r, _, hr, h => ⟨by simp [addR, okR, hr, h], fun n => by simp [addR, has]⟩
  | x :: t, lo, r, hl, hr, h => by
    by_cases hc : x.b < r.a - 1
    · rw [okR_cons] at hl
      obtain ⟨k1, k2⟩ := addR_ok (l := t) (lo := x.b + 2) (r := r) hl.2.2 hr (by omega)
      rw [addR, if_pos hc]
      exact ⟨by rw [okR_cons]; exact ⟨hl.1, hl.2.1, k1⟩, fun n => by rw [has_cons, k2, has_cons, Bool.or_assoc]⟩
    · obtain ⟨k1, k2, k3, k4⟩ := mergeR_ok (r := r) hl hr (fun y hy => by simp at hy; subst hy; omega)
      rw [addR, if_neg hc]
      exact ⟨by rw [okR_cons]; exact ⟨by omega, k1, k2⟩, fun n => by rw [has_cons, k4, Bool.or_comm]⟩
def joinR (a b : List Rg) : List Rg := b.foldl addR a
theorem fold_add : ∀ {b a : List Rg}, right a = true → (∀ r ∈ b, r.ok = true) → right (b.foldl addR a) = true ∧ ∀ n, has (b.foldl addR a) n = (has a n || has b n)
  | [], a, ha, _ => ⟨ha, fun n => by simp [has]⟩
  | r :: b, a, ha, hb => by
    have hr := hb r (by simp)
    obtain ⟨k1, k2⟩ := addR_ok (lo := 1) ha hr (ok_iff.1 hr).1
    obtain ⟨j1, j2⟩ := fold_add (b := b) k1 (fun s hs => hb s (by simp [hs]))
    exact ⟨j1, fun n => by rw [List.foldl_cons, j2, k2, has_cons, Bool.or_assoc]⟩
theorem right_ok : ∀ {l : List Rg} {lo : Int}, okR lo l = true → ∀ r ∈ l, r.ok = true
  | x :: t, lo, h, r, hr => by
    rw [okR_cons] at h
    rcases List.mem_cons.1 hr with e | hr
    · subst e; exact h.2.1
    · exact right_ok h.2.2 r hr
/-! ### what is taken away -/
def cut1 (o x : Rg) : List Rg := (if o.a ≤ min o.b (x.a - 1) then [⟨o.a, min o.b (x.a - 1)⟩] else []) ++ (if max o.a (x.b + 1) ≤ o.b then [⟨max o.a (x.b + 1), o.b⟩] else [])
def cutR (l : List Rg) (x : Rg) : List Rg := l.flatMap fun o => cut1 o x
def minusR (a b : List Rg) : List Rg := b.foldl cutR a
theorem cut1_has {o x : Rg} (hx : x.ok = true) (n : Int) : has (cut1 o x) n = (o.in_ n && !x.in_ n) := by
  have h := ok_iff.1 hx
  unfold cut1
  rw [has_append, Bool.eq_iff_iff, Bool.and_eq_true, Bool.or_eq_true, Bool.not_eq_true', in_iff]
  have hxn : x.in_ n = false ↔ ¬ (x.a ≤ n ∧ n ≤ x.b) := by rw [← in_iff]; simp
  rw [hxn]
  by_cases h1 : o.a ≤ min o.b (x.a - 1)
  · rw [if_pos h1]
    by_cases h2 : max o.a (x.b + 1) ≤ o.b
    · rw [if_pos h2, has_cons, has_cons, has_nil, Bool.or_false, Bool.or_false, in_iff, in_iff]; simp only; omega
    · rw [if_neg h2, has_cons, has_nil, Bool.or_false, in_iff]; simp only [Bool.false_eq_true, or_false]; omega
  · rw [if_neg h1]
    by_cases h2 : max o.a (x.b + 1) ≤ o.b
    · rw [if_pos h2, has_cons, has_nil, Bool.or_false, in_iff]; simp only [Bool.false_eq_true, false_or]; omega
    · rw [if_neg h2, has_nil]; simp only [Bool.false_eq_true, false_or, false_iff]; omega
theorem okR_append : ∀ {l m : List Rg} {lo hi : Int}, okR lo l = true → (∀ n, has l n = true → n + 2 ≤ hi) → okR hi m = true → lo ≤ hi → okR lo (l ++ m) = true
  | [], m, lo, hi, _, _, hm, h => okR_mono h hm
  | x :: t, m, lo, hi, hl, hh, hm, h => by
    rw [okR_cons] at hl
    have h1 := ok_iff.1 hl.2.1
    have h2 := hh x.b (by rw [has_cons, in_iff.2 ⟨h1.2.1, Int.le_refl _⟩]; rfl)
    rw [List.cons_append, okR_cons]
    exact ⟨hl.1, hl.2.1, okR_append hl.2.2 (fun n hn => hh n (by rw [has_cons, hn, Bool.or_true])) hm h2⟩
theorem cut1_ok {o x : Rg} (ho : o.ok = true) (hx : x.ok = true) : okR o.a (cut1 o x) = true := by
  have h := ok_iff.1 hx
  have h' := ok_iff.1 ho
  unfold cut1
  by_cases h1 : o.a ≤ min o.b (x.a - 1)
  · rw [if_pos h1]
    by_cases h2 : max o.a (x.b + 1) ≤ o.b
    · rw [if_pos h2, List.singleton_append, okR_cons, okR_cons, ok_iff, ok_iff]; simp only [okR, and_true]; omega
    · rw [if_neg h2, List.append_nil, okR_cons, ok_iff]; simp only [okR, and_true]; omega
  · rw [if_neg h1]
    by_cases h2 : max o.a (x.b + 1) ≤ o.b
    · rw [if_pos h2, List.nil_append, okR_cons, ok_iff]; simp only [okR, and_true]; omega
    · rw [if_neg h2]; rfl
theorem cutR_ok {x : Rg} (hx : x.ok = true) : ∀ {l : List Rg} {lo : Int}, okR lo l = true → okR lo (cutR l x) = true ∧ ∀ n, has (cutR l x) n = (has l n && !x.in_ n)
  | [], lo, _ => ⟨rfl, fun n => rfl⟩
  | o :: t, lo, hl => by
    rw [okR_cons] at hl
    have ho := ok_iff.1 hl.2.1
    obtain ⟨k1, k2⟩ := cutR_ok hx hl.2.2
    have e : cutR (o :: t) x = cut1 o x ++ cutR t x := by simp [cutR]
    rw [e]
    refine ⟨okR_append (hi := o.b + 2) (okR_mono hl.1 (cut1_ok hl.2.1 hx)) (fun n hn => ?_) k1 (by omega), fun n => ?_⟩
    · rw [cut1_has hx, Bool.and_eq_true, in_iff] at hn
      omega
    · rw [has_append, cut1_has hx, k2, has_cons, Bool.and_or_distrib_right]
theorem fold_cut : ∀ {b a : List Rg}, right a = true → (∀ r ∈ b, r.ok = true) → right (minusR a b) = true ∧ ∀ n, has (minusR a b) n = (has a n && !has b n)
  | [], a, ha, _ => ⟨ha, fun n => by simp [minusR, has]⟩
  | r :: b, a, ha, hb => by
    obtain ⟨k1, k2⟩ := cutR_ok (hb r (by simp)) ha
    obtain ⟨j1, j2⟩ := fold_cut (b := b) k1 (fun s hs => hb s (by simp [hs]))
    refine ⟨j1, fun n => ?_⟩
    have := j2 n
    rw [k2] at this
    rw [has_cons, Bool.not_or, ← Bool.and_assoc]
    exact this
/-- the program's way: one range and what is taken of it -/
def piece (r : Rg) : List Rg → List Rg
  | [] => if r.a ≤ r.b then [r] else []
  | x :: t => if x.a > r.b then (if r.a ≤ r.b then [r] else []) else (if x.a > r.a then [⟨r.a, x.a - 1⟩] else []) ++ piece ⟨x.b + 1, r.b⟩ t
def minP : List Rg → List Rg → List Rg
  | [], _ => []
  | r :: t, b => piece r (b.dropWhile fun x => decide (x.b < r.a)) ++ minP t (b.dropWhile fun x => decide (x.b < r.a))
theorem piece_ok : ∀ {b : List Rg} {r : Rg} {lo : Int}, okR lo b = true → 1 ≤ r.a → r.b ≤ mx → (∀ x, b.head? = some x → r.a ≤ x.b) →
    okR r.a (piece r b) = true ∧ ∀ n, has (piece r b) n = (r.in_ n && !has b n)
  | [], r, lo, _, h1, h2, _ => by
    rw [piece]
    by_cases h : r.a ≤ r.b
    · rw [if_pos h]; exact ⟨by rw [okR_cons, ok_iff]; exact ⟨by omega, ⟨h1, h, h2⟩, rfl⟩, fun n => by simp [has]⟩
    · rw [if_neg h]
      refine ⟨rfl, fun n => ?_⟩
      have : r.in_ n = false := by rw [← Bool.not_eq_true, in_iff]; omega
      rw [this]; rfl
  | x :: t, r, lo, hb, h1, h2, hx => by
    have hx' := hx x rfl
    rw [okR_cons] at hb
    have hxo := ok_iff.1 hb.2.1
    rw [piece]
    by_cases hc : x.a > r.b
    · rw [if_pos hc]
      have hn : ∀ n, r.in_ n = true → has (x :: t) n = false := fun n hn => by
        rw [← Bool.not_eq_true]
        intro h
        rw [in_iff] at hn
        rw [has_cons, Bool.or_eq_true, in_iff] at h
        rcases h with h | h
        · omega
        · have := has_lo hb.2.2 n h; omega
      by_cases h : r.a ≤ r.b
      · rw [if_pos h]
        refine ⟨by rw [okR_cons, ok_iff]; exact ⟨by omega, ⟨h1, h, h2⟩, rfl⟩, fun n => ?_⟩
        rw [has_cons, has_nil, Bool.or_false]
        cases hr : r.in_ n with
        | false => rfl
        | true => rw [hn n hr]; rfl
      · rw [if_neg h]
        refine ⟨rfl, fun n => ?_⟩
        have : r.in_ n = false := by rw [← Bool.not_eq_true, in_iff]; omega
        rw [this]; rfl
    · rw [if_neg hc]
      obtain ⟨k1, k2⟩ := piece_ok (b := t) (r := ⟨x.b + 1, r.b⟩) (lo := x.b + 2) hb.2.2 (by simp only; omega) h2 (fun y hy => by
        cases t with
        | nil => cases hy
        | cons z t =>
          simp at hy
          subst hy
          have h3 := hb.2.2
          rw [okR_cons, ok_iff] at h3
          simp only
          omega)
      simp only at k1
      have hkey : ∀ n, (r.in_ n && !has (x :: t) n) = ((Rg.mk r.a (x.a - 1)).in_ n || ((Rg.mk (x.b + 1) r.b).in_ n && !has t n)) := fun n => by
        rw [has_cons, Bool.eq_iff_iff]
        have ht : has t n = true → x.b + 2 ≤ n := fun h => (has_lo hb.2.2 n h).1
        cases hh : has t n with
        | false =>
          simp only [Bool.or_false, Bool.not_false, Bool.and_true, Bool.and_eq_true, Bool.or_eq_true, Bool.not_eq_true', in_iff]
          have hxn : x.in_ n = false ↔ ¬ (x.a ≤ n ∧ n ≤ x.b) := by rw [← in_iff]; simp
          rw [hxn]
          omega
        | true =>
          have := ht hh
          simp only [Bool.or_true, Bool.not_true, Bool.and_false, Bool.or_false, in_iff, Bool.false_eq_true, false_iff]
          omega
      by_cases h : x.a > r.a
      · rw [if_pos h]
        refine ⟨?_, fun n => by rw [has_append, k2, has_cons, has_nil, Bool.or_false, hkey]⟩
        refine okR_append (hi := x.b + 1) ?_ (fun n hn => ?_) k1 (by omega)
        · rw [okR_cons, ok_iff]; exact ⟨by simp only; omega, ⟨by simp only; omega, by simp only; omega, by simp only; omega⟩, rfl⟩
        · rw [has_cons, has_nil, Bool.or_false, in_iff] at hn
          simp only at hn
          omega
      · rw [if_neg h, List.nil_append]
        refine ⟨okR_mono (by omega) k1, fun n => ?_⟩
        rw [k2, hkey]
        have : (Rg.mk r.a (x.a - 1)).in_ n = false := by rw [← Bool.not_eq_true, in_iff]; simp only; omega
        rw [this, Bool.false_or]
end Go.Proofs.Ytaflikgdlkaefaa.Sp
/- Ranges: the program's minus, counts, what is first. -/
namespace Go.Proofs.Ytaflikgdlkaefaa.Sp

theorem drop_ok (v : Int) : ∀ {b : List Rg} {lo : Int}, okR lo b = true →
    okR lo (b.dropWhile fun x => decide (x.b < v)) = true ∧ (∀ x, (b.dropWhile fun x => decide (x.b < v)).head? = some x → v ≤ x.b) ∧ ∀ n, v ≤ n → has (b.dropWhile fun x => decide (x.b < v)) n = has b n
  | [], lo, _ => ⟨rfl, (fun x h => by cases h), fun n _ => rfl⟩
  | x :: t, lo, hb => by
    have hb' := hb
    rw [okR_cons] at hb
    have hx := ok_iff.1 hb.2.1
    by_cases h : x.b < v
    · rw [List.dropWhile_cons_of_pos (by simpa using h)]
      obtain ⟨k1, k2, k3⟩ := drop_ok v hb.2.2
      refine ⟨okR_mono (by omega) k1, k2, fun n hn => ?_⟩
      rw [k3 n hn, has_cons]
      have : x.in_ n = false := by rw [← Bool.not_eq_true, in_iff]; omega
      rw [this, Bool.false_or]
    · rw [List.dropWhile_cons_of_neg (by simpa using h)]
      exact ⟨hb', fun y hy => by simp at hy; subst hy; omega, fun n _ => rfl⟩
theorem minP_ok : ∀ {a : List Rg} {b : List Rg} {lo lob : Int}, okR lo a = true → okR lob b = true → okR lo (minP a b) = true ∧ ∀ n, has (minP a b) n = (has a n && !has b n)
  | [], b, lo, lob, _, _ => ⟨rfl, fun n => rfl⟩
  | r :: t, b, lo, lob, ha, hb => by
    rw [okR_cons] at ha
    have hr := ok_iff.1 ha.2.1
    obtain ⟨d1, d2, d3⟩ := drop_ok r.a hb
    rw [minP]
    generalize b.dropWhile (fun x => decide (x.b < r.a)) = b' at *
    obtain ⟨k1, k2⟩ := piece_ok d1 hr.1 hr.2.2 d2
    obtain ⟨m1, m2⟩ := minP_ok (a := t) (b := b') ha.2.2 d1
    refine ⟨okR_append (hi := r.b + 2) (okR_mono ha.1 k1) (fun n hn => ?_) m1 (by omega), fun n => ?_⟩
    · rw [k2, Bool.and_eq_true, in_iff] at hn; omega
    · rw [has_append, k2, m2, has_cons, ← Bool.and_or_distrib_right]
      cases h : (r.in_ n || has t n) with
      | false => rfl
      | true =>
        have : r.a ≤ n := by
          rw [Bool.or_eq_true, in_iff] at h
          rcases h with h | h
          · omega
          · have := has_lo ha.2.2 n h; omega
        rw [d3 n this]
/-- how many -/
def countR (l : List Rg) : Int := (l.map fun r => r.b - r.a + 1).foldr (· + ·) 0
theorem countR_cons (r : Rg) (t : List Rg) : countR (r :: t) = (r.b - r.a + 1) + countR t := rfl
def cnt (p : Int → Bool) (lo : Int) : Nat → Int
  | 0 => 0
  | k + 1 => (if p lo = true then 1 else 0) + cnt p (lo + 1) k
theorem cnt_congr {p q : Int → Bool} : ∀ (k : Nat) (lo : Int), (∀ n, lo ≤ n → n < lo + k → p n = q n) → cnt p lo k = cnt q lo k
  | 0, _, _ => rfl
  | k + 1, lo, h => by
    rw [cnt, cnt, h lo (by omega) (by omega), cnt_congr k (lo + 1) fun n h1 h2 => h n (by omega) (by omega)]
theorem cnt_snoc (p : Int → Bool) : ∀ (k : Nat) (lo : Int), cnt p lo (k + 1) = cnt p lo k + (if p (lo + k) = true then 1 else 0)
  | 0, lo => by simp [cnt]
  | k + 1, lo => by
    have ih := cnt_snoc p k (lo + 1)
    rw [cnt, ih, cnt]
    rw [show lo + 1 + (k : Int) = lo + ((k + 1 : Nat) : Int) by omega]
    omega
theorem cnt_none (p : Int → Bool) : ∀ (k : Nat) (lo : Int), (∀ n, lo ≤ n → n < lo + k → p n = false) → cnt p lo k = 0
  | 0, _, _ => rfl
  | k + 1, lo, h => by
    rw [cnt, h lo (by omega) (by omega), cnt_none p k (lo + 1) fun n h1 h2 => h n (by omega) (by omega)]; rfl
theorem count_eq : ∀ (k : Nat) (l : List Rg) (lo : Int), okR lo l = true → (∀ n, has l n = true → n < lo + k) → cnt (has l) lo k = countR l
  | 0, l, lo, hl, hh => by
    cases l with
    | nil => rfl
    | cons r t =>
      rw [okR_cons, ok_iff] at hl
      have := hh r.a (by rw [has_cons, in_iff.2 ⟨Int.le_refl _, hl.2.1.2.1⟩]; rfl)
      omega
  | k + 1, l, lo, hl, hh => by
    cases l with
    | nil => exact (cnt_none (has []) (k + 1) lo fun n _ _ => rfl).trans rfl
    | cons r t =>
      have hl' := hl
      rw [okR_cons, ok_iff] at hl
      rw [cnt]
      by_cases h1 : lo < r.a
      · have : has (r :: t) lo = false := by
          rw [← Bool.not_eq_true]
          intro h
          have := has_lo (lo := r.a) (by rw [okR_cons, ok_iff]; exact ⟨Int.le_refl _, hl.2⟩) lo h
          omega
        rw [this, count_eq k (r :: t) (lo + 1) (by rw [okR_cons, ok_iff]; exact ⟨by omega, hl.2⟩) (fun n hn => by have := hh n hn; omega)]
        simp
      · have e : r.a = lo := by omega
        have hlo : has (r :: t) lo = true := by rw [has_cons, in_iff.2 ⟨by omega, by omega⟩]; rfl
        rw [hlo, if_pos rfl, countR_cons]
        by_cases h2 : r.b = lo
        · have hc : cnt (has (r :: t)) (lo + 1) k = cnt (has t) (lo + 1) k := cnt_congr k (lo + 1) fun n h3 h4 => by
            rw [has_cons]
            have : r.in_ n = false := by rw [← Bool.not_eq_true, in_iff]; omega
            rw [this, Bool.false_or]
          rw [hc, count_eq k t (lo + 1) (okR_mono (by omega) hl.2.2) (fun n hn => by have := hh n (by rw [has_cons, hn, Bool.or_true]); omega)]
          omega
        · have hc : cnt (has (r :: t)) (lo + 1) k = cnt (has (⟨lo + 1, r.b⟩ :: t)) (lo + 1) k := cnt_congr k (lo + 1) fun n h3 h4 => by
            rw [has_cons, has_cons]
            congr 1
            rw [Bool.eq_iff_iff, in_iff, in_iff]
            simp only
            omega
          rw [hc, count_eq k (⟨lo + 1, r.b⟩ :: t) (lo + 1) (by rw [okR_cons, ok_iff]; exact ⟨Int.le_refl _, ⟨by simp only; omega, by simp only; omega, hl.2.1.2.2⟩, hl.2.2⟩) (fun n hn => by
            have h5 : has (r :: t) n = true := by
              rw [has_cons, Bool.or_eq_true, in_iff] at hn ⊢
              simp only at hn
              rcases hn with h | h
              · exact .inl (by omega)
              · exact .inr h
            have := hh n h5; omega), countR_cons]
          simp only
          omega
theorem countR_nonneg : ∀ {l : List Rg} {lo : Int}, okR lo l = true → 0 ≤ countR l
  | [], _, _ => by simp [countR]
  | r :: t, lo, h => by
    rw [okR_cons, ok_iff] at h
    have := countR_nonneg h.2.2
    rw [countR_cons]
    omega
theorem countR_le : ∀ {l : List Rg} {lo : Int}, okR lo l = true → lo ≤ mx + 2 → countR l ≤ mx + 2 - lo
  | [], lo, _, hlo => by simp [countR]; omega
  | r :: t, lo, h, _ => by
    rw [okR_cons, ok_iff] at h
    have := countR_le h.2.2 (by omega)
    rw [countR_cons]
    omega
/-- up to which number all are there -/
def firstR (l : List Rg) : Int := match l with
  | [] => 0
  | r :: _ => if r.a = 1 then r.b else 0
theorem first_has {l : List Rg} (h : right l = true) : 0 ≤ firstR l ∧ (∀ n, 1 ≤ n → n ≤ firstR l → has l n = true) ∧ has l (firstR l + 1) = false := by
  cases l with
  | nil => exact ⟨by simp [firstR], fun n h1 h2 => by simp [firstR] at h2; omega, rfl⟩
  | cons r t =>
    have h' := h
    rw [right, okR_cons, ok_iff] at h
    unfold firstR
    simp only
    by_cases e : r.a = 1
    · rw [if_pos e]
      refine ⟨by omega, fun n h1 h2 => by rw [has_cons, in_iff.2 ⟨by omega, h2⟩]; rfl, ?_⟩
      rw [← Bool.not_eq_true, has_cons, Bool.or_eq_true, in_iff]
      rintro (h1 | h1)
      · omega
      · have := has_lo h.2.2 _ h1; omega
    · rw [if_neg e]
      refine ⟨Int.le_refl _, fun n h1 h2 => by omega, ?_⟩
      rw [← Bool.not_eq_true]
      intro h1
      have := has_lo (lo := r.a) (by rw [okR_cons, ok_iff]; exact ⟨Int.le_refl _, h.2⟩) _ h1
      omega
theorem first_count {l : List Rg} (h : right l = true) : firstR l ≤ countR l := by
  cases l with
  | nil => simp [firstR, countR]
  | cons r t =>
    rw [right, okR_cons, ok_iff] at h
    have := countR_nonneg h.2.2
    unfold firstR
    rw [countR_cons]
    simp only
    split <;> omega
end Go.Proofs.Ytaflikgdlkaefaa.Sp
/- Ranges: the forms that the walks step through; the laws' sets. -/
namespace Go.Proofs.Ytaflikgdlkaefaa.Sp

theorem add_at : ∀ (l : List Rg) (r : Rg) (i : Nat), i ≤ l.length → (∀ j, j < i → (l[j]?.getD ⟨0, 0⟩).b < r.a - 1) → (i = l.length ∨ ¬ (l[i]?.getD ⟨0, 0⟩).b < r.a - 1) →
    addR l r = l.take i ++ (mergeR (l.drop i) r).1 :: (mergeR (l.drop i) r).2
  | [], r, i, hi, _, _ => by
    obtain rfl : i = 0 := by simpa using hi
    rfl
  | x :: t, r, 0, _, _, h => by
    have : ¬ x.b < r.a - 1 := by rcases h with h | h; · simp at h
                                 · simpa using h
    rw [addR, if_neg this]; rfl
  | x :: t, r, i + 1, hi, hj, h => by
    have h0 : x.b < r.a - 1 := by simpa using hj 0 (by omega)
    rw [addR, if_pos h0, add_at t r i (by simpa using hi) (fun j hj' => by simpa using hj (j + 1) (by omega)) (by simpa using h)]
    rfl
theorem merge_step {l : List Rg} {r : Rg} {i : Nat} (hi : i < l.length) (h : (l[i]?.getD ⟨0, 0⟩).a ≤ r.b + 1) :
    mergeR (l.drop i) r = mergeR (l.drop (i + 1)) ⟨min r.a (l[i]?.getD ⟨0, 0⟩).a, max r.b (l[i]?.getD ⟨0, 0⟩).b⟩ := by
  rw [List.getElem?_eq_getElem hi, Option.getD_some] at h ⊢
  rw [List.drop_eq_getElem_cons hi, mergeR, if_pos h]
theorem merge_stop {l : List Rg} {r : Rg} {i : Nat} (h : i = l.length ∨ i < l.length ∧ ¬ (l[i]?.getD ⟨0, 0⟩).a ≤ r.b + 1) : mergeR (l.drop i) r = (r, l.drop i) := by
  rcases h with h | ⟨hi, h⟩
  · rw [h, List.drop_length]; rfl
  · rw [List.getElem?_eq_getElem hi, Option.getD_some] at h
    rw [List.drop_eq_getElem_cons hi, mergeR, if_neg h]
/-! ### joined, taken away: right lists of the sets -/
def joinS (a b : List Rg) : List Rg := if right a = true ∧ right b = true then b.foldl addR a else []
def minusS (a b : List Rg) : List Rg := if right a = true ∧ right b = true then minusR a b else []
def hasS (l : List Rg) (n : Int) : Bool := right l && has l n
def countS (l : List Rg) : Int := if right l = true then countR l else 0
def firstS (l : List Rg) : Int := if right l = true then firstR l else 0
theorem joinS_right (a b : List Rg) : right (joinS a b) = true := by
  unfold joinS
  split
  · rename_i h; exact (fold_add h.1 (right_ok h.2)).1
  · rfl
theorem minusS_right (a b : List Rg) : right (minusS a b) = true := by
  unfold minusS
  split
  · rename_i h; exact (fold_cut h.1 (right_ok h.2)).1
  · rfl
theorem joinS_has {a b : List Rg} (ha : right a = true) (hb : right b = true) (n : Int) : has (joinS a b) n = (has a n || has b n) := by
  rw [joinS, if_pos ⟨ha, hb⟩]
  exact (fold_add ha (right_ok hb)).2 n
theorem minusS_has {a b : List Rg} (ha : right a = true) (hb : right b = true) (n : Int) : has (minusS a b) n = (has a n && !has b n) := by
  rw [minusS, if_pos ⟨ha, hb⟩]
  exact (fold_cut ha (right_ok hb)).2 n
/-- the program's join: sorted, then put together -/
theorem all_join {a b l : List Rg} (ha : right a = true) (hb : right b = true) (hm : ∀ r, r ∈ l ↔ r ∈ a ++ b) (hs : l.Pairwise fun r s => r.a ≤ s.a) : l.foldl putR [] = joinS a b := by
  have hok : ∀ r ∈ l, r.ok = true := fun r hr => by
    rcases List.mem_append.1 ((hm r).1 hr) with h | h
    · exact right_ok ha r h
    · exact right_ok hb r h
  obtain ⟨k1, k2⟩ := fold_put (o := []) rfl hok hs (fun x hx => by cases hx)
  refine right_one k1 (joinS_right a b) fun n => ?_
  rw [k2, joinS_has ha hb, has_nil, Bool.false_or, ← has_append, Bool.eq_iff_iff]
  simp only [has, List.any_eq_true]
  constructor
  · rintro ⟨r, h1, h2⟩; exact ⟨r, (hm r).1 h1, h2⟩
  · rintro ⟨r, h1, h2⟩; exact ⟨r, (hm r).2 h1, h2⟩
theorem minP_eq {a b : List Rg} (ha : right a = true) (hb : right b = true) : minP a b = minusS a b := by
  obtain ⟨k1, k2⟩ := minP_ok ha hb
  refine right_one k1 (minusS_right a b) fun n => ?_
  rw [k2, minusS_has ha hb]
/-- the list of some numbers -/
def numOk (n : Int) : Bool := decide (1 ≤ n ∧ n ≤ mx)
def ofS (l : List Int) : List Rg := l.foldl (fun o n => if numOk n = true then addR o ⟨n, n⟩ else o) []
theorem ofS_gen : ∀ (l : List Int) (o : List Rg), right o = true → right (l.foldl (fun o n => if numOk n = true then addR o ⟨n, n⟩ else o) o) = true ∧
    ∀ n, has (l.foldl (fun o n => if numOk n = true then addR o ⟨n, n⟩ else o) o) n = (has o n || (numOk n && l.contains n))
  | [], o, ho => ⟨ho, fun n => by simp⟩
  | x :: l, o, ho => by
    rw [List.foldl_cons]
    by_cases hx : numOk x = true
    · rw [if_pos hx]
      have hx' := hx
      rw [numOk, decide_eq_true_eq] at hx'
      obtain ⟨k1, k2⟩ := addR_ok (r := ⟨x, x⟩) (lo := 1) ho (ok_iff.2 ⟨hx'.1, Int.le_refl _, hx'.2⟩) hx'.1
      obtain ⟨j1, j2⟩ := ofS_gen l _ k1
      refine ⟨j1, fun n => ?_⟩
      rw [j2, k2, Bool.or_assoc]
      congr 1
      rw [List.contains_cons, Bool.eq_iff_iff]
      simp only [Bool.or_eq_true, Bool.and_eq_true, in_iff, beq_iff_eq]
      constructor
      · rintro (⟨h1, h2⟩ | ⟨h1, h2⟩)
        · have e : n = x := by omega
          subst e
          exact ⟨hx, .inl rfl⟩
        · exact ⟨h1, .inr h2⟩
      · rintro ⟨h1, h2 | h2⟩
        · subst h2; exact .inl ⟨Int.le_refl _, Int.le_refl _⟩
        · exact .inr ⟨h1, h2⟩
    · rw [if_neg hx]
      obtain ⟨j1, j2⟩ := ofS_gen l o ho
      refine ⟨j1, fun n => ?_⟩
      rw [j2, List.contains_cons]
      congr 1
      rw [Bool.eq_iff_iff]
      simp only [Bool.and_eq_true, Bool.or_eq_true, beq_iff_eq]
      constructor
      · rintro ⟨h1, h2⟩; exact ⟨h1, .inr h2⟩
      · rintro ⟨h1, h2 | h2⟩
        · subst h2; exact absurd h1 hx
        · exact ⟨h1, h2⟩
theorem ofS_right (l : List Int) : right (ofS l) = true := (ofS_gen l [] rfl).1
theorem ofS_has (l : List Int) (n : Int) : has (ofS l) n = (numOk n && l.contains n) := by rw [ofS, (ofS_gen l [] rfl).2, has_nil, Bool.false_or]
theorem ofS_same {l m : List Int} (h : ∀ n, n ∈ l ↔ n ∈ m) : ofS l = ofS m := right_one (ofS_right l) (ofS_right m) fun n => by
  rw [ofS_has, ofS_has]
  congr 1
  rw [Bool.eq_iff_iff, List.contains_iff_mem, List.contains_iff_mem]
  exact h n
/-- the program's list of numbers: sorted one by one, put together -/
theorem all_of {xs : List Int} {l : List Rg} (hm : ∀ r, r ∈ l ↔ ∃ n ∈ xs, numOk n = true ∧ r = ⟨n, n⟩) (hs : l.Pairwise fun r s => r.a ≤ s.a) : l.foldl putR [] = ofS xs := by
  have hok : ∀ r ∈ l, r.ok = true := fun r hr => by
    obtain ⟨n, _, h1, rfl⟩ := (hm r).1 hr
    rw [numOk, decide_eq_true_eq] at h1
    exact ok_iff.2 ⟨h1.1, Int.le_refl _, h1.2⟩
  obtain ⟨k1, k2⟩ := fold_put (o := []) rfl hok hs (fun x hx => by cases hx)
  refine right_one k1 (ofS_right xs) fun n => ?_
  rw [k2, ofS_has, has_nil, Bool.false_or, Bool.eq_iff_iff, Bool.and_eq_true, List.contains_iff_mem]
  simp only [has, List.any_eq_true]
  constructor
  · rintro ⟨r, h1, h2⟩
    obtain ⟨m, h3, h4, rfl⟩ := (hm r).1 h1
    rw [in_iff] at h2
    have e : n = m := by simp only at h2; omega
    subst e
    exact ⟨h4, h3⟩
  · rintro ⟨h1, h2⟩
    exact ⟨⟨n, n⟩, (hm _).2 ⟨n, h2, h1, rfl⟩, in_iff.2 ⟨Int.le_refl _, Int.le_refl _⟩⟩
end Go.Proofs.Ytaflikgdlkaefaa.Sp
/- Ranges as values, and as cells of memory. -/
namespace Go.Proofs.Ytaflikgdlkaefaa
open Go.RowKit Go.Proofs.Ytaflikgdlkaefaa.Sp
set_option maxRecDepth 20000

def _root_.Go.Proofs.Ytaflikgdlkaefaa.Sp.Rg.v (d : Rg) : Value := .agg #[.int .i64 d.a, .int .i64 d.b]
def _root_.Go.Proofs.Ytaflikgdlkaefaa.Sp.Rg.cells (d : Rg) : List Value := [.int .i64 d.a, .int .i64 d.b]
def _root_.Go.Proofs.Ytaflikgdlkaefaa.Sp.Rg.wfR (d : Rg) : Prop := i64in d.a ∧ i64in d.b
/-- a range's box -/
def StandsR (w : World) (g : Nat) (s : Rg) : Prop := g < w.heap.size ∧ w.cell? ⟨g, 0, none⟩ = some (.int .i64 s.a) ∧ w.cell? ⟨g, 1, none⟩ = some (.int .i64 s.b) ∧ w.frozen? ⟨g, 0, none⟩ = false ∧ w.frozen? ⟨g, 1, none⟩ = false
theorem StandsR.below {w w' : World} {g : Nat} {s : Rg} (h : StandsR w g s) (hb : Below w.heap.size w w') : StandsR w' g s := by
  obtain ⟨h1, h2, h3, h5, h6⟩ := h
  exact ⟨Nat.lt_of_lt_of_le h1 hb.size, (hb.cell h1).trans h2, (hb.cell h1).trans h3, (hb.frozen h1).trans h5, (hb.frozen h1).trans h6⟩
theorem StandsR.alloc {w : World} {g : Nat} {s : Rg} (h : StandsR w g s) (o : Obj) : StandsR (w.alloc o) g s := h.below (balloc (Below.refl _ _) o)
theorem StandsR.new (w : World) (t : TypeId) (s : Rg) : StandsR (w.alloc (.cells #[.int .i64 s.a, .int .i64 s.b] t)) w.heap.size s := by
  obtain ⟨h1, h2⟩ := cell2 w t (.int .i64 s.a) (.int .i64 s.b)
  exact ⟨by simp, h1, h2, by rw [frozen?_alloc_cells]; simp [World.frozen?], by rw [frozen?_alloc_cells]; simp [World.frozen?]⟩
/-- the two stores of a dot -/
def put2R (w : World) (g : Nat) (s : Rg) : World := (w.setCell ⟨g, 0, none⟩ (.int .i64 s.a)).setCell ⟨g, 1, none⟩ (.int .i64 s.b)
theorem StandsR.put {w : World} {g : Nat} {m : Rg} (h : StandsR w g m) (s : Rg) : StandsR (put2R w g s) g s := by
  obtain ⟨h1, h2, h3, h5, h6⟩ := h
  unfold put2R
  refine ⟨by simpa using h1, ?_, ?_, by simp only [setCell_frozen]; exact h5, by simp only [setCell_frozen]; exact h6⟩
  · rw [setCell_other _ _ _ _ _ _ (.inr (by omega)), World.cell?_setCell_same _ _ _ h2]
  · rw [World.cell?_setCell_same _ _ _ (u := .int .i64 m.b) (by rw [setCell_other _ _ _ _ _ _ (.inr (by omega))]; exact h3)]
theorem StandsR.put_other {w : World} {g g' : Nat} {m : Rg} (h : StandsR w g m) (s : Rg) (hne : g' ≠ g) : StandsR (put2R w g' s) g m := by
  obtain ⟨h1, h2, h3, h5, h6⟩ := h
  unfold put2R
  refine ⟨by simpa using h1, ?_, ?_, by simp only [setCell_frozen]; exact h5, by simp only [setCell_frozen]; exact h6⟩
  · rw [setCell_other _ _ _ _ _ _ (.inl hne), setCell_other _ _ _ _ _ _ (.inl hne)]; exact h2
  · rw [setCell_other _ _ _ _ _ _ (.inl hne), setCell_other _ _ _ _ _ _ (.inl hne)]; exact h3
theorem below_put2R {B : Nat} {a w : World} (h : Below B a w) {g : Nat} (hg : B ≤ g) (s : Rg) : Below B a (put2R w g s) := (h.setCell hg _).setCell hg _
theorem eq2R (w : World) (a b : Rg) : (binOp .eql 44 a.v b.v).run Try.prog w = .ok (.bool (decide (a = b))) w := by
  unfold Rg.v
  rw [run_eql_struct]
  obtain ⟨p, l⟩ := a
  obtain ⟨p', l'⟩ := b
  go_simp
  by_cases h1 : p = p' <;> by_cases h2 : l = l' <;> simp [h1, h2]
theorem ne2R (w : World) (a b : Rg) : (binOp .neq 44 a.v b.v).run Try.prog w = .ok (.bool (!decide (a = b))) w := by
  unfold Rg.v
  rw [run_neq_struct]
  obtain ⟨p, l⟩ := a
  obtain ⟨p', l'⟩ := b
  go_simp
  by_cases h1 : p = p' <;> by_cases h2 : l = l' <;> simp [h1, h2]
/-! ### rows of ranges -/
def rv (ls : List Rg) : List Value := ls.flatMap Rg.cells
theorem rv_get : ∀ (ls : List Rg) (k j : Nat) (s : Rg), ls[k]? = some s → j < 2 → (rv ls)[k * 2 + j]? = s.cells[j]?
  | [], k, j, s, h, _ => by simp at h
  | x :: ls, 0, j, s, h, hj => by
    simp at h; subst h
    show (x.cells ++ rv ls)[0 * 2 + j]? = _
    rw [List.getElem?_append_left (by simp [Rg.cells]; omega)]; congr 1; omega
  | x :: ls, k + 1, j, s, h, hj => by
    show (x.cells ++ rv ls)[(k + 1) * 2 + j]? = _
    rw [List.getElem?_append_right (by simp [Rg.cells]; omega), show (k + 1) * 2 + j - x.cells.length = k * 2 + j by simp [Rg.cells]; omega]
    exact rv_get ls k j s (by simpa using h) hj
theorem rv_len (ls : List Rg) : (rv ls).length = ls.length * 2 := by
  induction ls with
  | nil => rfl
  | cons x t ih => simp [rv, Rg.cells] at *; omega
theorem rv_append (a b : List Rg) : rv (a ++ b) = rv a ++ rv b := by simp [rv]
theorem rv_take (ls : List Rg) (k : Nat) : (rv ls).take (k * 2) = rv (ls.take k) := by
  induction ls generalizing k with
  | nil => simp [rv]
  | cons x t ih =>
    cases k with
    | zero => simp [rv]
    | succ k =>
      show (x.cells ++ rv t).take ((k + 1) * 2) = x.cells ++ rv (t.take k)
      rw [← ih k, show (k + 1) * 2 = x.cells.length + k * 2 by simp [Rg.cells]; omega, List.take_length_add_append]
theorem rgAt {w : World} {B : Nat} {A : Option Addr} {ls : List Rg} (h : Sl w B A (rv ls)) {k : Nat} (hk : k < ls.length) :
    ∃ b o, A = some ⟨b, o, none⟩ ∧ b < B ∧ b < w.heap.size ∧ w.cell? ⟨b, o + k * 2, none⟩ = some (.int .i64 (ls[k]?.getD ⟨0, 0⟩).a) ∧ w.cell? ⟨b, o + k * 2 + 1, none⟩ = some (.int .i64 (ls[k]?.getD ⟨0, 0⟩).b) := by
  obtain ⟨b, o, e, h1, h2, hc⟩ := h.at_ (k := k * 2) (by rw [rv_len]; omega)
  have hs : ls[k]? = some (ls[k]'hk) := List.getElem?_eq_getElem hk
  rw [hs]
  exact ⟨b, o, e, h1, h2, hc (k * 2 + 0) _ (rv_get ls k 0 _ hs (by omega)), hc (k * 2 + 1) _ (rv_get ls k 1 _ hs (by omega))⟩
end Go.Proofs.Ytaflikgdlkaefaa
