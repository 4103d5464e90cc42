import Init
namespace Go.Proofs.YtjbelkpmbbkhgaaDoor.Pc

def poly : BitVec 32 := 0xedb88320#32
/-- One bit more. -/
def f (s : BitVec 32) : BitVec 32 := if s.getLsbD 0 then s >>> 1 ^^^ poly else s >>> 1
def fs : Nat → BitVec 32 → BitVec 32
  | 0, s => s
  | k + 1, s => fs k (f s)
def tabN : List Nat := [0x00000000, 0x1db71064, 0x3b6e20c8, 0x26d930ac, 0x76dc4190, 0x6b6b51f4, 0x4db26158, 0x5005713c,
  0xedb88320, 0xf00f9344, 0xd6d6a3e8, 0xcb61b38c, 0x9b64c2b0, 0x86d3d2d4, 0xa00ae278, 0xbdbdf21c]
/-- Half a byte more, by the table. -/
def nib (s : BitVec 32) : BitVec 32 := s >>> 4 ^^^ BitVec.ofNat 32 (tabN.getD (s &&& 15#32).toNat 0)
def b8 (c : UInt8) : BitVec 32 := BitVec.ofNat 32 c.toNat
/-- A byte more. -/
def step (s : BitVec 32) (c : UInt8) : BitVec 32 := fs 8 (s ^^^ b8 c)
def go (s : BitVec 32) : List UInt8 → BitVec 32
  | [] => s
  | c :: t => go (step s c) t
def more (s : BitVec 32) (l : List UInt8) : BitVec 32 := ~~~ go (~~~ s) l
def sum (l : List UInt8) : BitVec 32 := more 0#32 l

theorem f_xor (a b : BitVec 32) : f (a ^^^ b) = f a ^^^ f b := by
  have e1 : ∀ x y p : BitVec 32, x ^^^ y ^^^ p = x ^^^ (y ^^^ p) := fun x y p => BitVec.xor_assoc x y p
  have e2 : ∀ x y p : BitVec 32, x ^^^ y ^^^ p = (x ^^^ p) ^^^ y := fun x y p => by
    rw [BitVec.xor_assoc, BitVec.xor_comm y, ← BitVec.xor_assoc]
  have e3 : ∀ x y p : BitVec 32, x ^^^ y = (x ^^^ p) ^^^ (y ^^^ p) := fun x y p => by
    ext i; simp only [BitVec.getElem_xor]; cases x[i] <;> cases y[i] <;> cases p[i] <;> rfl
  unfold f
  rw [BitVec.getLsbD_xor, BitVec.ushiftRight_xor_distrib]
  cases a.getLsbD 0 <;> cases b.getLsbD 0
  · rfl
  · exact e1 _ _ _
  · exact e2 _ _ _
  · exact e3 _ _ _
theorem f_zero : f 0#32 = 0#32 := by decide
theorem fs_xor : ∀ (k : Nat) (a b : BitVec 32), fs k (a ^^^ b) = fs k a ^^^ fs k b
  | 0, _, _ => rfl
  | k + 1, a, b => by simp only [fs]; rw [f_xor, fs_xor k]
theorem fs_zero : ∀ k, fs k 0#32 = 0#32
  | 0 => rfl
  | k + 1 => by simp only [fs]; rw [f_zero, fs_zero k]
theorem fs_add : ∀ (j k : Nat) (s : BitVec 32), fs (j + k) s = fs k (fs j s)
  | 0, k, s => by simp [fs]
  | j + 1, k, s => by rw [Nat.add_right_comm]; simp only [fs]; exact fs_add j k (f s)
theorem f_even {s : BitVec 32} (h : s.getLsbD 0 = false) : f s = s >>> 1 := by unfold f; rw [h]; rfl
theorem fs_low : ∀ (k : Nat) (s : BitVec 32), (∀ i, i < k → s.getLsbD i = false) → fs k s = s >>> k
  | 0, s, _ => by simp [fs]
  | k + 1, s, h => by
    simp only [fs]
    rw [f_even (h 0 (by omega)), fs_low k (s >>> 1) (fun i hi => by rw [BitVec.getLsbD_ushiftRight]; exact h (1 + i) (by omega)), ← BitVec.shiftRight_add, Nat.add_comm]
theorem f_inj0 {s : BitVec 32} (h : f s = 0#32) : s = 0#32 := by
  unfold f at h
  by_cases h0 : s.getLsbD 0 = true
  · rw [if_pos h0] at h
    have := congrArg (fun x => BitVec.getLsbD x 31) h
    simp [poly] at this
  · rw [if_neg h0] at h
    have h0' : s.getLsbD 0 = false := by simpa using h0
    apply BitVec.eq_of_getLsbD_eq
    intro i hi
    cases i with
    | zero => rw [h0']; simp
    | succ i =>
      have := congrArg (fun x => BitVec.getLsbD x i) h
      simp only [BitVec.getLsbD_ushiftRight] at this
      rw [Nat.add_comm i 1, this]; simp
theorem fs_inj0 : ∀ (k : Nat) {s : BitVec 32}, fs k s = 0#32 → s = 0#32
  | 0, _, h => h
  | k + 1, _, h => f_inj0 (fs_inj0 k h)
theorem tab_all : ∀ k : Fin 16, fs 4 (BitVec.ofNat 32 k.val) = BitVec.ofNat 32 (tabN.getD k.val 0) := by decide
theorem split4 (s : BitVec 32) : s = (s >>> 4) <<< 4 ^^^ (s &&& 15#32) := by
  apply BitVec.eq_of_getLsbD_eq
  intro i hi
  have h15 : (15#32).getLsbD i = decide (i < 4) := by
    have : ∀ j : Fin 32, (15#32).getLsbD j.val = decide (j.val < 4) := by decide
    exact this ⟨i, hi⟩
  simp only [BitVec.getLsbD_xor, BitVec.getLsbD_shiftLeft, BitVec.getLsbD_ushiftRight, BitVec.getLsbD_and, h15]
  by_cases h : i < 4
  · simp [h]
  · simp [h, show 4 + (i - 4) = i by omega, hi]
theorem nib_eq (s : BitVec 32) : nib s = fs 4 s := by
  have hk : (s &&& 15#32).toNat < 16 := by
    rw [BitVec.toNat_and]
    exact Nat.and_lt_two_pow _ (show (15#32).toNat < 2 ^ 4 by decide)
  conv => rhs; rw [split4 s]
  rw [fs_xor, fs_low 4 _ (fun i hi => by simp [BitVec.getLsbD_shiftLeft, hi])]
  have e1 : (s >>> 4) <<< 4 >>> 4 = s >>> 4 := by
    apply BitVec.eq_of_getLsbD_eq
    intro i hi
    simp only [BitVec.getLsbD_ushiftRight, BitVec.getLsbD_shiftLeft]
    by_cases h : 4 + i < 32
    · simp [h]
    · simp [h]; rw [BitVec.getLsbD_of_ge s (4 + i) (by omega)]
  rw [e1]
  have := tab_all ⟨(s &&& 15#32).toNat, hk⟩
  simp only [BitVec.ofNat_toNat] at this
  rw [show BitVec.setWidth 32 (s &&& 15#32) = s &&& 15#32 by simp] at this
  rw [this]; rfl
theorem step_nib (s : BitVec 32) (c : UInt8) : step s c = nib (nib (s ^^^ b8 c)) := by
  rw [nib_eq, nib_eq, ← fs_add]; rfl

theorem go_append (s : BitVec 32) (a b : List UInt8) : go s (a ++ b) = go (go s a) b := by
  induction a generalizing s with
  | nil => rfl
  | cons c t ih => simp only [List.cons_append, go]; exact ih _
theorem more_append (s : BitVec 32) (a b : List UInt8) : more s (a ++ b) = more (more s a) b := by
  simp only [more, go_append, BitVec.not_not]
theorem more_nil (s : BitVec 32) : more s [] = s := by simp [more, go]
/-- How two states that part go on. -/
theorem go_xor : ∀ (l : List UInt8) (s d : BitVec 32), go (s ^^^ d) l = go s l ^^^ fs (8 * l.length) d
  | [], s, d => by simp [go, fs]
  | c :: t, s, d => by
    simp only [go, step, List.length_cons]
    rw [BitVec.xor_assoc, BitVec.xor_comm d, ← BitVec.xor_assoc, fs_xor, go_xor t, Nat.mul_succ, Nat.add_comm, fs_add]
def xor3 : List UInt8 → List UInt8 → List UInt8 → List UInt8
  | a :: as, b :: bs, c :: cs => (a ^^^ b ^^^ c) :: xor3 as bs cs
  | _, _, _ => []
theorem b8_xor (a b : UInt8) : b8 (a ^^^ b) = b8 a ^^^ b8 b := by
  apply BitVec.eq_of_toNat_eq
  have ha := a.toNat_lt; have hb := b.toNat_lt
  simp only [b8, BitVec.toNat_xor, BitVec.toNat_ofNat, UInt8.toNat_xor]
  have : a.toNat ^^^ b.toNat < 2 ^ 8 := Nat.xor_lt_two_pow (by omega) (by omega)
  rw [Nat.mod_eq_of_lt (by omega), Nat.mod_eq_of_lt (by omega), Nat.mod_eq_of_lt (by omega)]
theorem xor_swap (a b c d e g : BitVec 32) : a ^^^ b ^^^ c ^^^ (d ^^^ e ^^^ g) = (a ^^^ d) ^^^ (b ^^^ e) ^^^ (c ^^^ g) := by
  ext i; simp only [BitVec.getElem_xor]
  cases a[i] <;> cases b[i] <;> cases c[i] <;> cases d[i] <;> cases e[i] <;> cases g[i] <;> rfl
theorem go_lin : ∀ (a b c : List UInt8) (s t u : BitVec 32), a.length = b.length → b.length = c.length → go (s ^^^ t ^^^ u) (xor3 a b c) = go s a ^^^ go t b ^^^ go u c
  | [], [], [], s, t, u, _, _ => by simp [xor3, go]
  | a :: as, b :: bs, c :: cs, s, t, u, h1, h2 => by
    simp only [xor3, go, step]
    rw [b8_xor, b8_xor, xor_swap, fs_xor, fs_xor]
    exact go_lin as bs cs _ _ _ (by simpa using h1) (by simpa using h2)
  | [], _ :: _, _, _, _, _, h, _ => by simp at h
  | _ :: _, [], _, _, _, _, h, _ => by simp at h
  | [], [], _ :: _, _, _, _, _, h => by simp at h
  | _ :: _, _ :: _, [], _, _, _, _, h => by simp at h
theorem not_xor3 (a b c : BitVec 32) : ~~~ (a ^^^ b ^^^ c) = ~~~ a ^^^ ~~~ b ^^^ ~~~ c := by
  ext i; simp only [BitVec.getElem_xor, BitVec.getElem_not]
  cases a[i] <;> cases b[i] <;> cases c[i] <;> rfl
theorem sum_lin (a b c : List UInt8) (h1 : a.length = b.length) (h2 : b.length = c.length) : sum (xor3 a b c) = sum a ^^^ sum b ^^^ sum c := by
  simp only [sum, more]
  rw [← not_xor3, ← go_lin a b c _ _ _ h1 h2]
  congr 1
/-- Bytes that part in a row of d (each byte xor'ed) give another sum. -/
def diff : List UInt8 → BitVec 32 → BitVec 32
  | [], d => d
  | c :: t, d => diff t (fs 8 (d ^^^ b8 c))
def xorL : List UInt8 → List UInt8 → List UInt8
  | a :: as, b :: bs => (a ^^^ b) :: xorL as bs
  | _, _ => []
theorem go_xorL : ∀ (a d : List UInt8) (s e : BitVec 32), a.length = d.length → go (s ^^^ e) (xorL a d) = go s a ^^^ diff d e
  | [], [], s, e, _ => by simp [xorL, go, diff]
  | a :: as, d :: ds, s, e, h => by
    simp only [xorL, go, diff, step]
    rw [b8_xor, ← go_xorL as ds _ _ (by simpa using h)]
    congr 1
    rw [← fs_xor]
    congr 1
    ext i; simp only [BitVec.getElem_xor]
    cases s[i] <;> cases e[i] <;> cases (b8 a)[i] <;> cases (b8 d)[i] <;> rfl
  | [], _ :: _, _, _, h => by simp at h
  | _ :: _, [], _, _, h => by simp at h
/-- What is put in the middle turns the sum, where its own way from 0 is not 0. -/
theorem sum_mid (p a d t : List UInt8) (h : a.length = d.length) (hd : diff d 0#32 ≠ 0#32) : sum (p ++ xorL a d ++ t) ≠ sum (p ++ a ++ t) := by
  intro he
  simp only [sum, more] at he
  have he' : go (~~~0#32) (p ++ xorL a d ++ t) = go (~~~0#32) (p ++ a ++ t) := by
    have := congrArg (fun x => ~~~ x) he
    simpa using this
  rw [go_append, go_append, go_append, go_append] at he'
  have e1 := go_xorL a d (go (~~~0#32) p) 0#32 h
  rw [BitVec.xor_zero] at e1
  rw [e1, go_xor] at he'
  have : fs (8 * t.length) (diff d 0#32) = 0#32 := by
    have h2 := congrArg (fun x => go (go (~~~0#32) p ) a |> fun s => go s t ^^^ x) he'
    simp only [← BitVec.xor_assoc, BitVec.xor_self, BitVec.zero_xor] at h2
    exact h2
  exact hd (fs_inj0 _ this)
theorem b8_ne {c : UInt8} (h : c ≠ 0) : b8 c ≠ 0#32 := by
  intro e
  apply h
  apply UInt8.toNat.inj
  have := congrArg BitVec.toNat e
  have hc := c.toNat_lt
  simp only [b8, BitVec.toNat_ofNat] at this
  rw [Nat.mod_eq_of_lt (by omega)] at this
  simpa using this
theorem diff_one {c : UInt8} (h : c ≠ 0) : diff [c] 0#32 ≠ 0#32 := by
  simp only [diff, BitVec.zero_xor]
  exact fun e => b8_ne h (fs_inj0 8 e)
/-- Four bytes: their number, the first the lowest. -/
def num4 (a b c d : UInt8) : BitVec 32 := b8 a ^^^ b8 b <<< 8 ^^^ b8 c <<< 16 ^^^ b8 d <<< 24
theorem b8_getLsbD (c : UInt8) (i : Nat) (h : 8 ≤ i) : (b8 c).getLsbD i = false := by
  simp only [b8, BitVec.getLsbD_ofNat]
  rw [Nat.testBit_lt_two_pow (Nat.lt_of_lt_of_le c.toNat_lt (Nat.pow_le_pow_right (by decide) h))]; simp
theorem fs_up (k : Nat) (c : UInt8) (hk : k + 8 ≤ 32) : fs k (b8 c <<< k) = b8 c := by
  rw [fs_low k _ (fun i hi => by simp [BitVec.getLsbD_shiftLeft, hi])]
  apply BitVec.eq_of_getLsbD_eq
  intro i hi
  simp only [BitVec.getLsbD_ushiftRight, BitVec.getLsbD_shiftLeft]
  by_cases h : k + i < 32
  · simp [h, show k + i - k = i by omega]
  · simp [h]; rw [b8_getLsbD c i (by omega)]
theorem diff_four (a b c d : UInt8) : diff [a, b, c, d] 0#32 = fs 32 (num4 a b c d) := by
  simp only [diff, BitVec.zero_xor, num4]
  have e1 : fs 32 (b8 a) = fs 8 (fs 8 (fs 8 (fs 8 (b8 a)))) := by
    rw [← fs_add, ← fs_add, ← fs_add]
  have e2 : fs 32 (b8 b <<< 8) = fs 8 (fs 8 (fs 8 (b8 b))) := by
    rw [← fs_add, ← fs_add, ← fs_up 8 b (by omega), ← fs_add, fs_up 8 b (by omega)]
  have e3 : fs 32 (b8 c <<< 16) = fs 8 (fs 8 (b8 c)) := by
    rw [← fs_add, ← fs_up 16 c (by omega), ← fs_add, fs_up 16 c (by omega)]
  have e4 : fs 32 (b8 d <<< 24) = fs 8 (b8 d) := by
    rw [← fs_up 24 d (by omega), ← fs_add, fs_up 24 d (by omega)]
  rw [fs_xor 32, fs_xor 32, fs_xor 32, e1, e2, e3, e4]
  simp only [fs_xor 8]
theorem num4_of (n : Nat) : num4 (UInt8.ofNat n) (UInt8.ofNat (n / 256)) (UInt8.ofNat (n / 65536)) (UInt8.ofNat (n / 16777216)) = BitVec.ofNat 32 n := by
  apply BitVec.eq_of_getLsbD_eq
  intro i hi
  have hb : ∀ (m j : Nat), (b8 (UInt8.ofNat m)).getLsbD j = (decide (j < 8) && m.testBit j) := by
    intro m j
    by_cases hj : j < 8
    · simp only [b8, BitVec.getLsbD_ofNat, UInt8.toNat_ofNat']
      rw [Nat.testBit_mod_two_pow]; simp [hj]; omega
    · rw [b8_getLsbD _ _ (by omega)]; simp [hj]
  have hd : ∀ (k j : Nat), (n / 2 ^ k).testBit j = n.testBit (k + j) := fun k j => by rw [← Nat.shiftRight_eq_div_pow, Nat.testBit_shiftRight]
  have e8 : n / 256 = n / 2 ^ 8 := rfl
  have e16 : n / 65536 = n / 2 ^ 16 := rfl
  have e24 : n / 16777216 = n / 2 ^ 24 := rfl
  simp only [num4, BitVec.getLsbD_xor, BitVec.getLsbD_shiftLeft, hb, BitVec.getLsbD_ofNat, e8, e16, e24, hd]
  by_cases h1 : i < 8
  · simp [h1, hi, show i < 16 by omega, show i < 24 by omega]
  · by_cases h2 : i < 16
    · simp [h1, h2, hi, show i < 24 by omega, show i - 8 < 8 by omega, show 8 + (i - 8) = i by omega]
    · by_cases h3 : i < 24
      · simp [h1, h2, h3, hi, show ¬ i - 8 < 8 by omega, show i - 16 < 8 by omega, show 16 + (i - 16) = i by omega]
      · simp [h1, h2, h3, hi, show ¬ i - 8 < 8 by omega, show ¬ i - 16 < 8 by omega, show i - 24 < 8 by omega, show 24 + (i - 24) = i by omega]
theorem diff_burst (n : Nat) (h : n < 4294967296) (h0 : n ≠ 0) : diff [UInt8.ofNat n, UInt8.ofNat (n / 256), UInt8.ofNat (n / 65536), UInt8.ofNat (n / 16777216)] 0#32 ≠ 0#32 := by
  rw [diff_four, num4_of n]
  intro e
  have := fs_inj0 32 e
  have := congrArg BitVec.toNat this
  simp only [BitVec.toNat_ofNat] at this
  rw [Nat.mod_eq_of_lt (by omega)] at this
  exact h0 (by simpa using this)
end Go.Proofs.YtjbelkpmbbkhgaaDoor.Pc

