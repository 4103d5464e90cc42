import Init
namespace Go.Proofs.Ytjijhmeagjhfoaa.Pl

/-- The bytes of a number: seven bits a byte, the lowest first; each byte but the last bears the bit 128. -/
def encF : Nat → Nat → List UInt8
  | 0, v => [UInt8.ofNat v]
  | k + 1, v => if v < 128 then [UInt8.ofNat v] else UInt8.ofNat (v % 128 + 128) :: encF k (v / 128)
def enc (v : Nat) : List UInt8 := encF 9 v

/-- How many bytes ahead bear the bit 128. -/
def run : List UInt8 → Nat
  | [] => 0
  | c :: t => if 128 ≤ c.toNat then run t + 1 else 0
/-- The number of the lowest seven bits of each byte. -/
def val : List UInt8 → Nat
  | [] => 0
  | c :: t => c.toNat % 128 + 128 * val t
/-- What a byte is at a place, 0 beyond the end. -/
def at_ (l : List UInt8) (i : Nat) : Nat := (l[i]?.getD 0).toNat
/-- The number at the beginning, how many bytes it has, the error. -/
def takeS (l : List UInt8) : Nat × Nat × Nat :=
  if 10 ≤ run l then (0, 0, 21)
  else if run l = l.length then (0, 0, 20)
  else if (0 < run l ∧ at_ l (run l) = 0) ∨ (run l = 9 ∧ 1 < at_ l (run l)) then (0, 0, 21)
  else (val (l.take (run l + 1)), run l + 1, 0)

theorem takeS_at (l : List UInt8) (k : Nat) (hk : run l = k) : takeS l =
    if 10 ≤ k then (0, 0, 21) else if k = l.length then (0, 0, 20)
    else if (0 < k ∧ at_ l k = 0) ∨ (k = 9 ∧ 1 < at_ l k) then (0, 0, 21) else (val (l.take (k + 1)), k + 1, 0) := by subst hk; rfl

theorem toNat_ofNat {n : Nat} (h : n < 256) : (UInt8.ofNat n).toNat = n := by
  rw [UInt8.toNat_ofNat']; omega

theorem encF_len_pos (k v : Nat) : 1 ≤ (encF k v).length := by
  cases k with
  | zero => simp [encF]
  | succ k => simp only [encF]; split <;> simp
theorem encF_len_le : ∀ (k v : Nat), (encF k v).length ≤ k + 1
  | 0, v => by simp [encF]
  | k + 1, v => by
    simp only [encF]; split
    · simp
    · have := encF_len_le k (v / 128); simp only [List.length_cons]; omega
theorem div_lt_pow {k v : Nat} (h : v < 128 ^ (k + 1 + 1)) : v / 128 < 128 ^ (k + 1) := by
  rw [Nat.pow_succ] at h; exact Nat.div_lt_of_lt_mul (by rw [Nat.mul_comm]; exact h)

theorem run_le (l : List UInt8) : run l ≤ l.length := by
  induction l with
  | nil => simp [run]
  | cons c t ih => simp only [run, List.length_cons]; split <;> omega

/-- The encoded number, whatever stands behind: its run and its last byte. -/
theorem encF_run : ∀ (k v : Nat) (t : List UInt8), v < 128 ^ (k + 1) → run (encF k v ++ t) + 1 = (encF k v).length
  | 0, v, t, h => by
    simp only [encF, List.singleton_append, run, List.length_singleton]
    have hv : v < 128 := by simpa using h
    rw [toNat_ofNat (by omega), if_neg (by omega)]
  | k + 1, v, t, h => by
    simp only [encF]; split
    · rename_i hv
      simp only [List.singleton_append, run, List.length_singleton]
      rw [toNat_ofNat (by omega), if_neg (by omega)]
    · simp only [List.cons_append, run, List.length_cons]
      rw [toNat_ofNat (by omega), if_pos (by omega)]
      have := encF_run k (v / 128) t (div_lt_pow h)
      omega
theorem encF_val : ∀ (k v : Nat), v < 128 ^ (k + 1) → val (encF k v) = v
  | 0, v, h => by
    have hv : v < 128 := by simpa using h
    simp only [encF, val]; rw [toNat_ofNat (by omega)]; omega
  | k + 1, v, h => by
    simp only [encF]; split
    · simp only [val]; rw [toNat_ofNat (by omega)]; omega
    · simp only [val]; rw [toNat_ofNat (by omega), encF_val k (v / 128) (div_lt_pow h)]; omega
/-- The last byte. -/
theorem encF_last : ∀ (k v : Nat), v < 128 ^ (k + 1) → at_ (encF k v) ((encF k v).length - 1) = v / 128 ^ ((encF k v).length - 1) ∧ ((encF k v).length ≠ 1 → at_ (encF k v) ((encF k v).length - 1) ≠ 0)
  | 0, v, h => by
    have hv : v < 128 := by simpa using h
    simp only [encF, at_, List.length_singleton]; simp; omega
  | k + 1, v, h => by
    simp only [encF]; split
    · simp only [at_, List.length_singleton]; simp; omega
    · rename_i hv
      have ih := encF_last k (v / 128) (div_lt_pow h)
      have hp := encF_len_pos k (v / 128)
      obtain ⟨m, hm⟩ : ∃ m, (encF k (v / 128)).length = m + 1 := ⟨_, (Nat.succ_pred_eq_of_pos hp).symm⟩
      simp only [List.length_cons, hm, Nat.add_sub_cancel] at ih ⊢
      have e : at_ (UInt8.ofNat (v % 128 + 128) :: encF k (v / 128)) (m + 1) = at_ (encF k (v / 128)) m := by simp [at_]
      rw [e, ih.1]
      refine ⟨by rw [Nat.div_div_eq_div_mul, Nat.pow_succ, Nat.mul_comm], fun _ => ?_⟩
      by_cases h0 : m = 0
      · subst h0; simp; omega
      · rw [← ih.1]; exact ih.2 (by omega)

theorem lt_pow_of_lt {v : Nat} (h : v < 18446744073709551616) : v < 128 ^ (9 + 1) := Nat.lt_of_lt_of_le h (by decide)

theorem take_enc (v : Nat) (h : v < 18446744073709551616) (t : List UInt8) : takeS (enc v ++ t) = (v, (enc v).length, 0) := by
  have h1 := encF_run 9 v t (lt_pow_of_lt h)
  have h2 := encF_len_le 9 v
  have h3 := encF_last 9 v (lt_pow_of_lt h)
  have h4 := encF_val 9 v (lt_pow_of_lt h)
  show takeS (encF 9 v ++ t) = (v, (encF 9 v).length, 0)
  generalize encF 9 v = l at *
  have hr : run (l ++ t) = l.length - 1 := by omega
  have hat : at_ (l ++ t) (l.length - 1) = at_ l (l.length - 1) := by simp only [at_]; rw [List.getElem?_append_left (by omega)]
  rw [takeS_at _ _ hr, hat, if_neg (by omega), if_neg (by rw [List.length_append]; omega), if_neg]
  · rw [show l.length - 1 + 1 = l.length by omega, List.take_left, h4]
  · rintro (⟨a, b⟩ | ⟨a, b⟩)
    · exact h3.2 (by omega) b
    · rw [h3.1, a] at b
      have : v / 128 ^ 9 < 2 := Nat.div_lt_of_lt_mul (Nat.lt_of_lt_of_le h (by decide))
      omega

/-- No less of it is one. -/
theorem encF_run_take : ∀ (k v i : Nat), v < 128 ^ (k + 1) → i < (encF k v).length → run ((encF k v).take i) = i
  | 0, v, i, h, hi => by
    simp only [encF, List.length_singleton] at hi ⊢
    obtain rfl : i = 0 := by omega
    simp [run]
  | k + 1, v, i, h, hi => by
    simp only [encF] at hi ⊢
    split at hi
    · simp only [List.length_singleton] at hi
      obtain rfl : i = 0 := by omega
      simp [run]
    · rename_i hv
      rw [if_neg hv]
      cases i with
      | zero => simp [run]
      | succ i =>
        simp only [List.take_succ_cons, run]
        rw [toNat_ofNat (by omega), if_pos (by omega), encF_run_take k (v / 128) i (div_lt_pow h) (by simpa using hi)]
theorem take_less (v i : Nat) (h : v < 18446744073709551616) (hi : i < (enc v).length) : takeS ((enc v).take i) = (0, 0, 20) := by
  have h1 := encF_run_take 9 v i (lt_pow_of_lt h) hi
  have h2 := encF_len_le 9 v
  have hi' : i < (encF 9 v).length := hi
  show takeS ((encF 9 v).take i) = _
  rw [takeS_at _ _ h1, if_neg (by omega), if_pos (by rw [List.length_take]; omega)]

/-- Bytes that are read as a number are those that are laid for it. -/
theorem encF_of : ∀ (k : Nat) (l : List UInt8), run l < l.length → run l ≤ k → (0 < run l → at_ l (run l) ≠ 0) → encF k (val (l.take (run l + 1))) = l.take (run l + 1) ∧ val (l.take (run l + 1)) < 128 ^ (run l + 1)
  | k, [], h, _, _ => by simp [run] at h
  | k, c :: t, h, hk, h0 => by
    by_cases hc : 128 ≤ c.toNat
    · have er : run (c :: t) = run t + 1 := by simp only [run]; rw [if_pos hc]
      rw [er] at h hk h0 ⊢
      simp only [List.length_cons] at h
      obtain ⟨k, rfl⟩ : ∃ k', k = k' + 1 := ⟨k - 1, by omega⟩
      have hat : at_ (c :: t) (run t + 1) = at_ t (run t) := by simp [at_]
      rw [hat] at h0
      have ih := encF_of k t (by omega) (by omega) (fun _ => h0 (by omega))
      have hcl := c.toNat_lt
      have hv : 1 ≤ val (t.take (run t + 1)) := by
        have hne := h0 (by omega)
        clear ih
        revert hne h
        clear hat h0 hk er
        intro h hne
        have hgen : ∀ (s : List UInt8), run s < s.length → at_ s (run s) ≠ 0 → at_ s (run s) < 128 → 1 ≤ val (s.take (run s + 1)) := by
          intro s
          induction s with
          | nil => intro h; simp at h
          | cons d s ih =>
            intro h hne hlt
            by_cases hd : 128 ≤ d.toNat
            · have e : run (d :: s) = run s + 1 := by simp only [run]; rw [if_pos hd]
              have hat : at_ (d :: s) (run s + 1) = at_ s (run s) := by simp [at_]
              rw [e] at h hne hlt ⊢
              rw [hat] at hne hlt
              have := ih (by simpa using h) hne hlt
              simp only [List.take_succ_cons, val]
              omega
            · have e : run (d :: s) = 0 := by simp only [run]; rw [if_neg hd]
              rw [e] at hne hlt ⊢
              simp [at_] at hne hlt
              simp [val]
              omega
        refine hgen t (by omega) hne ?_
        have hlt : ∀ (s : List UInt8), run s < s.length → at_ s (run s) < 128 := by
          intro s
          induction s with
          | nil => intro h; simp at h
          | cons d s ih =>
            intro h
            by_cases hd : 128 ≤ d.toNat
            · have e : run (d :: s) = run s + 1 := by simp only [run]; rw [if_pos hd]
              have hat : at_ (d :: s) (run s + 1) = at_ s (run s) := by simp [at_]
              rw [e, hat]; rw [e] at h; exact ih (by simpa using h)
            · have e : run (d :: s) = 0 := by simp only [run]; rw [if_neg hd]
              rw [e]; simp [at_]; omega
        exact hlt t (by omega)
      simp only [List.take_succ_cons, val, encF]
      rw [if_neg (by omega)]
      have e1 : (c.toNat % 128 + 128 * val (t.take (run t + 1))) / 128 = val (t.take (run t + 1)) := by omega
      have e2 : (c.toNat % 128 + 128 * val (t.take (run t + 1))) % 128 + 128 = c.toNat := by omega
      rw [e1, e2, ih.1]
      refine ⟨by simp, ?_⟩
      have := ih.2
      rw [Nat.pow_succ 128 (run t + 1)]
      omega
    · have er : run (c :: t) = 0 := by simp only [run]; rw [if_neg hc]
      rw [er]
      have e : c.toNat % 128 + 128 * 0 = c.toNat := by omega
      simp only [Nat.zero_add, List.take_succ_cons, List.take_zero, val]
      rw [e]
      cases k with
      | zero => simp [encF]; omega
      | succ k => simp only [encF]; rw [if_pos (by omega)]; simp; omega

theorem val_lt_last : ∀ (l : List UInt8), run l < l.length → val (l.take (run l + 1)) < 128 ^ run l * (at_ l (run l) + 1)
  | [], h => by simp at h
  | c :: t, h => by
    by_cases hc : 128 ≤ c.toNat
    · have er : run (c :: t) = run t + 1 := by simp only [run]; rw [if_pos hc]
      rw [er] at h ⊢
      have hat : at_ (c :: t) (run t + 1) = at_ t (run t) := by simp [at_]
      rw [hat]
      have ih := val_lt_last t (by simpa using h)
      simp only [List.take_succ_cons, val]
      rw [Nat.pow_succ, Nat.mul_right_comm]
      omega
    · have er : run (c :: t) = 0 := by simp only [run]; rw [if_neg hc]
      rw [er]
      simp [val, at_]
      omega

theorem takeS_ok (l : List UInt8) (h : (takeS l).2.2 = 0) :
    1 ≤ (takeS l).2.1 ∧ (takeS l).2.1 ≤ 10 ∧ (takeS l).2.1 ≤ l.length ∧ enc (takeS l).1 = l.take (takeS l).2.1 ∧ (takeS l).1 < 18446744073709551616 := by
  have hr := run_le l
  unfold takeS at h ⊢
  by_cases h1 : 10 ≤ run l
  · rw [if_pos h1] at h; simp at h
  · rw [if_neg h1] at h ⊢
    by_cases h2 : run l = l.length
    · rw [if_pos h2] at h; simp at h
    · rw [if_neg h2] at h ⊢
      by_cases h3 : (0 < run l ∧ at_ l (run l) = 0) ∨ (run l = 9 ∧ 1 < at_ l (run l))
      · rw [if_pos h3] at h; simp at h
      · rw [if_neg h3]
        have ho := encF_of 9 l (by omega) (by omega) (fun a b => h3 (.inl ⟨a, b⟩))
        refine ⟨by simp, by simp; omega, by simp; omega, ho.1, ?_⟩
        by_cases h9 : run l = 9
        · have := val_lt_last l (by omega)
          have hle : at_ l (run l) ≤ 1 := by
            rcases Nat.lt_or_ge 1 (at_ l (run l)) with h | h
            · exact absurd (.inr ⟨h9, h⟩) h3
            · exact h
          refine Nat.lt_of_lt_of_le this ?_
          rw [h9] at hle ⊢
          exact Nat.le_trans (Nat.mul_le_mul_left _ (Nat.add_le_add_right hle 1)) (by decide)
        · refine Nat.lt_of_lt_of_le ho.2 (Nat.le_trans (Nat.pow_le_pow_right (by decide) (show run l + 1 ≤ 9 by omega)) (by decide))
theorem takeS_bad (l : List UInt8) (h : (takeS l).2.2 ≠ 0) : (takeS l).1 = 0 ∧ (takeS l).2.1 = 0 := by
  unfold takeS at h ⊢
  split
  · simp
  · split
    · simp
    · split
      · simp
      · rename_i h1 h2 h3
        rw [if_neg h1, if_neg h2, if_neg h3] at h
        exact absurd rfl h
theorem takeS_lt (l : List UInt8) : (takeS l).1 < 18446744073709551616 := by
  by_cases h : (takeS l).2.2 = 0
  · exact (takeS_ok l h).2.2.2.2
  · rw [(takeS_bad l h).1]; decide
theorem takeS_err (l : List UInt8) : (takeS l).2.2 = 0 ∨ (takeS l).2.2 = 20 ∨ (takeS l).2.2 = 21 := by
  unfold takeS
  split
  · simp
  · split
    · simp
    · split <;> simp


theorem enc_len (v : Nat) : 1 ≤ (enc v).length ∧ (enc v).length ≤ 10 := ⟨encF_len_pos 9 v, encF_len_le 9 v⟩

/-- How many bytes, by the number. -/
theorem encF_len_lt : ∀ (k v n : Nat), n ≤ k → v < 128 ^ (n + 1) → (encF k v).length ≤ n + 1
  | 0, v, n, hn, h => by simp [encF]
  | k + 1, v, n, hn, h => by
    simp only [encF]; split
    · simp
    · rename_i hv
      cases n with
      | zero => simp at h; omega
      | succ n =>
        have := encF_len_lt k (v / 128) n (by omega) (div_lt_pow h)
        simp only [List.length_cons]; omega
theorem encF_len_ge : ∀ (k v n : Nat), n ≤ k → 128 ^ n ≤ v → n + 1 ≤ (encF k v).length
  | 0, v, n, hn, h => by simp [encF]; omega
  | k + 1, v, n, hn, h => by
    simp only [encF]
    cases n with
    | zero => split <;> simp
    | succ n =>
      have hp : 0 < 128 ^ n := Nat.pow_pos (by decide)
      have h' : 128 ^ n ≤ v / 128 := by rw [Nat.le_div_iff_mul_le (by decide), ← Nat.pow_succ]; exact h
      have hv : ¬ v < 128 := by rw [Nat.pow_succ] at h; omega
      rw [if_neg hv]
      have := encF_len_ge k (v / 128) n (by omega) h'
      simp only [List.length_cons]; omega
theorem enc_len_le_iff (v n : Nat) (hn : n ≤ 8) : (enc v).length ≤ n + 1 ↔ v < 128 ^ (n + 1) := by
  constructor
  · intro h
    rcases Nat.lt_or_ge v (128 ^ (n + 1)) with h' | h'
    · exact h'
    · have := encF_len_ge 9 v (n + 1) (by omega) h'
      unfold enc at h; omega
  · exact fun h => encF_len_lt 9 v n (by omega) h
theorem enc_len_mono {x y : Nat} (h : x ≤ y) : (enc x).length ≤ (enc y).length := by
  have hy := enc_len y
  by_cases hn : (enc y).length = 10
  · have := enc_len x; omega
  · obtain ⟨n, hn⟩ : ∃ n, (enc y).length = n + 1 := ⟨(enc y).length - 1, by omega⟩
    rw [hn]
    have := (enc_len_le_iff y n (by omega)).1 (by omega)
    exact (enc_len_le_iff x n (by omega)).2 (by omega)
theorem enc_len_shift (x : Nat) : (enc x).length = 1 ∨ 0 < x / 128 ^ ((enc x).length - 1) := by
  have hx := enc_len x
  by_cases h1 : (enc x).length = 1
  · exact .inl h1
  · right
    obtain ⟨n, hn⟩ : ∃ n, (enc x).length = n + 1 + 1 := ⟨(enc x).length - 2, by omega⟩
    rw [hn, Nat.add_sub_cancel]
    have : ¬ x < 128 ^ (n + 1) := fun h => by have := (enc_len_le_iff x n (by omega)).2 h; omega
    exact Nat.div_pos (by omega) (Nat.pow_pos (by decide))
theorem enc_len_shift' (x : Nat) : (enc x).length = 10 ∨ x / 128 ^ (enc x).length = 0 := by
  have hx := enc_len x
  by_cases h1 : (enc x).length = 10
  · exact .inl h1
  · right
    obtain ⟨n, hn⟩ : ∃ n, (enc x).length = n + 1 := ⟨(enc x).length - 1, by omega⟩
    rw [hn]
    exact Nat.div_eq_of_lt ((enc_len_le_iff x n (by omega)).1 (by omega))
theorem enc_len_pow (k : Nat) (hk : k < 9) : (enc (128 ^ (k + 1))).length = k + 2 ∧ (enc (128 ^ (k + 1) - 1)).length = k + 1 := by
  have hp : 0 < 128 ^ (k + 1) := Nat.pow_pos (by decide)
  constructor
  · have h1 : (enc (128 ^ (k + 1))).length ≤ k + 2 := by
      by_cases h8 : k = 8
      · have := (enc_len (128 ^ (k + 1))).2; omega
      · exact (enc_len_le_iff _ (k + 1) (by omega)).2 (by rw [Nat.pow_succ 128 (k + 1)]; omega)
    have h2 : ¬ (enc (128 ^ (k + 1))).length ≤ k + 1 := fun h => by
      have := (enc_len_le_iff _ k (by omega)).1 h; omega
    omega
  · have h1 : (enc (128 ^ (k + 1) - 1)).length ≤ k + 1 := (enc_len_le_iff _ k (by omega)).2 (by omega)
    cases k with
    | zero => have := (enc_len (128 ^ (0 + 1) - 1)).1; omega
    | succ k =>
      have h2 : ¬ (enc (128 ^ (k + 1 + 1) - 1)).length ≤ k + 1 := fun h => by
        have := (enc_len_le_iff _ k (by omega)).1 h
        rw [Nat.pow_succ 128 (k + 1)] at this
        have hp2 : 0 < 128 ^ (k + 1) := Nat.pow_pos (by decide)
        omega
      omega

/-- Numbers, one behind another. -/
def encs : List Nat → List UInt8
  | [] => []
  | v :: t => enc v ++ encs t
theorem encs_append (a b : List Nat) : encs (a ++ b) = encs a ++ encs b := by
  induction a with
  | nil => rfl
  | cons v t ih => simp [encs, ih]
theorem encs_snoc (a : List Nat) (v : Nat) : encs (a ++ [v]) = encs a ++ enc v := by rw [encs_append]; simp [encs]
theorem encs_len (a : List Nat) : (encs a).length ≤ 10 * a.length := by
  induction a with
  | nil => simp [encs]
  | cons v t ih => have := (enc_len v).2; simp [encs]; omega

/-! the lowest bytes, the highest of them first -/
def fixF (v : Nat) : Nat → List UInt8
  | 0 => []
  | k + 1 => UInt8.ofNat (v / 256 ^ k) :: fixF v k
def bigF (a : Nat) : List UInt8 → Nat
  | [] => a
  | c :: t => bigF (a * 256 + c.toNat) t
def big (l : List UInt8) : Nat := bigF 0 (l.take 8)
theorem fixF_len (v k : Nat) : (fixF v k).length = k := by induction k <;> simp [fixF, *]
theorem ofNat_mod (n : Nat) : (UInt8.ofNat n).toNat = n % 256 := by rw [UInt8.toNat_ofNat']
theorem bigF_fixF (v : Nat) : ∀ (k a : Nat), bigF a (fixF v k) = a * 256 ^ k + v % 256 ^ k
  | 0, a => by simp [bigF, fixF, Nat.mod_one]
  | k + 1, a => by
    simp only [fixF, bigF]
    rw [bigF_fixF v k, ofNat_mod, Nat.add_mul, Nat.mul_assoc, ← Nat.pow_succ', Nat.add_assoc]
    congr 1
    rw [Nat.pow_succ, Nat.mod_mul, Nat.mul_comm (v / 256 ^ k % 256), Nat.add_comm]
theorem bigF_lt : ∀ (l : List UInt8) (a : Nat), bigF a l < (a + 1) * 256 ^ l.length
  | [], a => by simp [bigF]
  | c :: t, a => by
    simp only [bigF, List.length_cons]
    have := bigF_lt t (a * 256 + c.toNat)
    have hc := c.toNat_lt
    refine Nat.lt_of_lt_of_le this ?_
    rw [Nat.pow_succ', ← Nat.mul_assoc]
    exact Nat.mul_le_mul_right _ (by omega)
theorem bigF_split : ∀ (l : List UInt8) (a : Nat), bigF a l = a * 256 ^ l.length + bigF 0 l
  | [], a => by simp [bigF]
  | c :: t, a => by
    simp only [bigF, List.length_cons]
    rw [bigF_split t (a * 256 + c.toNat), bigF_split t (0 * 256 + c.toNat)]
    rw [Nat.pow_succ', Nat.add_mul, Nat.add_mul, Nat.mul_assoc, Nat.add_assoc]; simp
theorem fixF_mod (v : Nat) : ∀ (k m : Nat), k ≤ m → fixF (v % 256 ^ m) k = fixF v k
  | 0, m, h => rfl
  | k + 1, m, h => by
    simp only [fixF]
    rw [fixF_mod v k m (by omega)]
    congr 1
    apply UInt8.toNat.inj
    rw [ofNat_mod, ofNat_mod]
    obtain ⟨j, rfl⟩ : ∃ j, m = k + 1 + j := ⟨m - (k + 1), by omega⟩
    rw [Nat.pow_add, Nat.pow_succ, Nat.mul_assoc, Nat.mod_mul_right_div_self, Nat.mod_mul_right_mod]
theorem fixF_add (u v : Nat) : ∀ (k m : Nat), k ≤ m → fixF (u * 256 ^ m + v) k = fixF v k := fun k m h => by
  rw [← fixF_mod (u * 256 ^ m + v) k m h, ← fixF_mod v k m h]
  congr 1
  rw [Nat.mul_comm, Nat.mul_add_mod]
theorem fixF_bigF : ∀ (l : List UInt8), fixF (bigF 0 l) l.length = l
  | [] => rfl
  | c :: t => by
    simp only [List.length_cons, fixF, bigF]
    have hlt := bigF_lt t 0
    rw [bigF_split t]
    rw [fixF_add _ _ _ _ (Nat.le_refl _), fixF_bigF t]
    congr 1
    apply UInt8.toNat.inj
    rw [ofNat_mod]
    have hc := c.toNat_lt
    have e : ((0 * 256 + c.toNat) * 256 ^ t.length + bigF 0 t) / 256 ^ t.length = c.toNat := by
      rw [Nat.mul_comm, Nat.mul_add_div (Nat.pow_pos (by decide)), Nat.div_eq_of_lt (by omega)]; omega
    rw [e]; omega
end Go.Proofs.Ytjijhmeagjhfoaa.Pl
namespace Go.Proofs.Ytjijhmeagjhfoaa.Pl
theorem run_step (l : List UInt8) : ∀ k, k ≤ run l → k < l.length → (128 ≤ at_ l k → k + 1 ≤ run l) ∧ (at_ l k < 128 → run l = k) := by
  induction l with
  | nil => intro k _ h; simp at h
  | cons c t ih =>
    intro k hk hl
    by_cases hc : 128 ≤ c.toNat
    · have er : run (c :: t) = run t + 1 := by simp only [run]; rw [if_pos hc]
      rw [er] at hk ⊢
      cases k with
      | zero => simp [at_]; omega
      | succ k =>
        have hat : at_ (c :: t) (k + 1) = at_ t k := by simp [at_]
        rw [hat]
        have := ih k (by omega) (by simpa using hl)
        omega
    · have er : run (c :: t) = 0 := by simp only [run]; rw [if_neg hc]
      rw [er] at hk ⊢
      obtain rfl : k = 0 := by omega
      simp [at_]; omega
theorem val_snoc (l : List UInt8) (c : UInt8) : val (l ++ [c]) = val l + c.toNat % 128 * 128 ^ l.length := by
  induction l with
  | nil => simp [val]
  | cons d t ih =>
    simp only [List.cons_append, val, List.length_cons, ih]
    have e : c.toNat % 128 * 128 ^ (t.length + 1) = 128 * (c.toNat % 128 * 128 ^ t.length) := by
      rw [Nat.pow_succ, ← Nat.mul_assoc, Nat.mul_comm]
    rw [e]; omega
theorem val_lt (l : List UInt8) : val l < 128 ^ l.length := by
  induction l with
  | nil => simp [val]
  | cons c t ih => simp only [val, List.length_cons, Nat.pow_succ]; omega
theorem val_take_succ (l : List UInt8) (k : Nat) (h : k < l.length) : val (l.take (k + 1)) = val (l.take k) + at_ l k % 128 * 128 ^ k := by
  rw [List.take_add_one, List.getElem?_eq_getElem h]
  simp only [Option.toList_some]
  rw [val_snoc, List.length_take, Nat.min_eq_left (by omega)]
  simp [at_, List.getElem?_eq_getElem h]
theorem val_take_lt (l : List UInt8) (k : Nat) (h : k ≤ l.length) : val (l.take k) < 128 ^ k := by
  have := val_lt (l.take k)
  rwa [List.length_take, Nat.min_eq_left h] at this
theorem takeS_ten (l : List UInt8) (h : 10 ≤ run l) : takeS l = (0, 0, 21) := by rw [takeS_at l _ rfl, if_pos h]
theorem takeS_short (l : List UInt8) (h : run l = l.length) (h' : l.length < 10) : takeS l = (0, 0, 20) := by rw [takeS_at l _ h, if_neg (by omega), if_pos rfl]
theorem takeS_end (l : List UInt8) (k : Nat) (h : run l = k) (hk : k < l.length) (h' : k < 10) :
    takeS l = if (0 < k ∧ at_ l k = 0) ∨ (k = 9 ∧ 1 < at_ l k) then (0, 0, 21) else (val (l.take (k + 1)), k + 1, 0) := by
  rw [takeS_at l _ h, if_neg (by omega), if_neg (by omega)]
theorem pow7 (k : Nat) : 2 ^ (7 * k) = 128 ^ k := by rw [Nat.pow_mul]
end Go.Proofs.Ytjijhmeagjhfoaa.Pl
namespace Go.Proofs.Ytjijhmeagjhfoaa.Pl
theorem val_drop (l : List UInt8) (j : Nat) (h : j < l.length) : val (l.drop j) = at_ l j % 128 + 128 * val (l.drop (j + 1)) := by
  rw [List.drop_eq_getElem_cons h]
  simp [val, at_, List.getElem?_eq_getElem h]
theorem val_drop_le (l : List UInt8) : ∀ j, val (l.drop j) ≤ val l := by
  induction l with
  | nil => intro j; simp
  | cons c t ih =>
    intro j
    cases j with
    | zero => simp
    | succ j => simp only [List.drop_succ_cons, val]; have := ih j; omega
theorem at_take (l : List UInt8) (k j : Nat) (h : j < k) : at_ (l.take k) j = at_ l j := by
  simp only [at_, List.getElem?_take]; rw [if_pos h]
end Go.Proofs.Ytjijhmeagjhfoaa.Pl
namespace Go.Proofs.Ytjijhmeagjhfoaa.Pl
theorem bigF_snoc : ∀ (l : List UInt8) (a : Nat) (c : UInt8), bigF a (l ++ [c]) = bigF a l * 256 + c.toNat
  | [], a, c => by simp [bigF]
  | d :: t, a, c => by simp only [List.cons_append, bigF]; exact bigF_snoc t _ c
theorem big_take_succ (l : List UInt8) (k : Nat) (h : k < l.length) : bigF 0 (l.take (k + 1)) = bigF 0 (l.take k) * 256 + at_ l k := by
  rw [List.take_add_one, List.getElem?_eq_getElem h]
  simp only [Option.toList_some]
  rw [bigF_snoc]
  simp [at_, List.getElem?_eq_getElem h]
theorem big_take_lt (l : List UInt8) (k : Nat) : bigF 0 (l.take k) < 256 ^ k := by
  have := bigF_lt (l.take k) 0
  have h2 : (l.take k).length ≤ k := by rw [List.length_take]; omega
  refine Nat.lt_of_lt_of_le this ?_
  rw [Nat.zero_add, Nat.one_mul]
  exact Nat.pow_le_pow_right (by omega) h2
theorem pow8 (k : Nat) : 2 ^ (8 * k) = 256 ^ k := by rw [Nat.pow_mul]
end Go.Proofs.Ytjijhmeagjhfoaa.Pl
namespace Go.Proofs.Ytjijhmeagjhfoaa.Pl
theorem fixF_get (v : Nat) : ∀ (m j : Nat), j < m → (fixF v m)[m - 1 - j]? = some (UInt8.ofNat (v / 256 ^ j))
  | 0, j, h => by omega
  | m + 1, j, h => by
    simp only [fixF]
    by_cases hj : j = m
    · subst hj; simp
    · rw [show m + 1 - 1 - j = (m - 1 - j) + 1 by omega, List.getElem?_cons_succ]
      exact fixF_get v m j (by omega)
theorem fixF_take (v m j : Nat) (h : j < m) : (fixF v m).take (m - j) = (fixF v m).take (m - (j + 1)) ++ [UInt8.ofNat (v / 256 ^ j)] := by
  have := fixF_get v m j h
  rw [show m - j = (m - (j + 1)) + 1 by omega, List.take_add_one, show m - (j + 1) = m - 1 - j by omega, this]
  rfl
end Go.Proofs.Ytjijhmeagjhfoaa.Pl

