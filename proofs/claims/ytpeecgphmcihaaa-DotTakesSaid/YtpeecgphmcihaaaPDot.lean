/- Dots: plain mathematics of their bytes and their order. -/
import Derived.Test.YtpeecgphmcihaaaPNum
namespace Go.Proofs.Ytpeecgphmcihaaa.Dt
open Go.Proofs.Ytpeecgphmcihaaa.Pl

structure D2 where
  r : Int
  q : Int
deriving DecidableEq
instance : Inhabited D2 := ⟨⟨0, 0⟩⟩
def D2.right (d : D2) : Bool := decide (0 ≤ d.r ∧ d.r < 64 ∧ 1 ≤ d.q ∧ d.q ≤ 1099511627775)
def D2.lt (a b : D2) : Bool := decide (a.r < b.r ∨ a.r = b.r ∧ a.q < b.q)
def D2.bytes (d : D2) : List UInt8 := if d.right = true then UInt8.ofNat d.r.toNat :: enc d.q.toNat else []
def takeD (b : List UInt8) : D2 × Nat × Nat :=
  match b with
  | [] => (⟨0, 0⟩, 0, 20)
  | c :: t => if 64 ≤ c.toNat then (⟨0, 0⟩, 0, 21) else if (takeS t).2.2 ≠ 0 then (⟨0, 0⟩, 0, (takeS t).2.2)
    else if (takeS t).1 < 1 ∨ (takeS t).1 > 1099511627775 then (⟨0, 0⟩, 0, 21) else (⟨(c.toNat : Int), ((takeS t).1 : Int)⟩, (takeS t).2.1 + 1, 0)
theorem right_iff {d : D2} : d.right = true ↔ 0 ≤ d.r ∧ d.r < 64 ∧ 1 ≤ d.q ∧ d.q ≤ 1099511627775 := by simp [D2.right]
theorem bytes_right {d : D2} (h : d.right = true) : d.bytes = UInt8.ofNat d.r.toNat :: enc d.q.toNat := by rw [D2.bytes, if_pos h]
theorem bytes_not {d : D2} (h : d.right = false) : d.bytes = [] := by rw [D2.bytes, if_neg (by simp [h])]
theorem bytes_le (d : D2) : d.bytes.length ≤ 11 := by
  unfold D2.bytes
  have := enc_len d.q.toNat
  split <;> simp <;> omega
theorem bytes_ge {d : D2} (h : d.right = true) : 2 ≤ d.bytes.length := by
  rw [bytes_right h]
  have := enc_len d.q.toNat
  simp; omega
theorem take_bytes {d : D2} (h : d.right = true) (t : List UInt8) : takeD (d.bytes ++ t) = (d, d.bytes.length, 0) := by
  rw [bytes_right h]
  obtain ⟨h1, h2, h3, h4⟩ := right_iff.1 h
  have hq := take_enc d.q.toNat (by omega) t
  show takeD (UInt8.ofNat d.r.toNat :: (enc d.q.toNat ++ t)) = _
  unfold takeD
  simp only [hq, toNat_ofNat (show d.r.toNat < 256 by omega)]
  rw [if_neg (by omega), if_neg (by simp), if_neg (by omega)]
  obtain ⟨r, q⟩ := d
  simp only at *
  rw [show ((r.toNat : Nat) : Int) = r by omega, show ((q.toNat : Nat) : Int) = q by omega]
  simp
theorem takeD_ok {b : List UInt8} (h : (takeD b).2.2 = 0) : (takeD b).1.right = true ∧ (takeD b).1.bytes = b.take (takeD b).2.1 ∧ 2 ≤ (takeD b).2.1 ∧ (takeD b).2.1 ≤ b.length := by
  cases b with
  | nil => simp [takeD] at h
  | cons c t =>
    unfold takeD at h ⊢
    simp only at h ⊢
    by_cases h1 : 64 ≤ c.toNat
    · rw [if_pos h1] at h; simp at h
    rw [if_neg h1] at h ⊢
    by_cases h2 : (takeS t).2.2 ≠ 0
    · rw [if_pos h2] at h; exact absurd h h2
    rw [if_neg h2] at h ⊢
    by_cases h3 : (takeS t).1 < 1 ∨ (takeS t).1 > 1099511627775
    · rw [if_pos h3] at h; simp at h
    rw [if_neg h3]
    have h2' : (takeS t).2.2 = 0 := by omega
    have hr : (⟨(c.toNat : Int), ((takeS t).1 : Int)⟩ : D2).right = true := right_iff.2 ⟨by simp, by simp; omega, by simp; omega, by simp; omega⟩
    obtain ⟨k1, k2, k3, k4, _⟩ := takeS_ok t h2'
    refine ⟨hr, ?_, by simp; omega, by simp; omega⟩
    rw [bytes_right hr]
    simp only [Int.toNat_natCast, UInt8.ofNat_toNat, List.take_succ_cons]
    rw [k4]
theorem takeD_bad {b : List UInt8} (h : (takeD b).2.2 ≠ 0) : (takeD b).1 = ⟨0, 0⟩ ∧ (takeD b).2.1 = 0 := by
  cases b with
  | nil => exact ⟨rfl, rfl⟩
  | cons c t =>
    unfold takeD at h ⊢
    simp only at h ⊢
    split at h
    · rename_i h1; rw [if_pos h1]; exact ⟨rfl, rfl⟩
    · rename_i h1
      rw [if_neg h1]
      split at h
      · rename_i h2; rw [if_pos h2]; exact ⟨rfl, rfl⟩
      · rename_i h2
        rw [if_neg h2]
        split at h
        · rename_i h3; rw [if_pos h3]; exact ⟨rfl, rfl⟩
        · exact absurd rfl h
theorem takeD_err (b : List UInt8) : (takeD b).2.2 = 0 ∨ (takeD b).2.2 = 20 ∨ (takeD b).2.2 = 21 := by
  cases b with
  | nil => exact .inr (.inl rfl)
  | cons c t =>
    unfold takeD
    simp only
    split
    · exact .inr (.inr rfl)
    · split
      · exact takeS_err t
      · split
        · exact .inr (.inr rfl)
        · exact .inl rfl

/-! ### the order -/
theorem lt_iff {a b : D2} : a.lt b = true ↔ a.r < b.r ∨ a.r = b.r ∧ a.q < b.q := by simp [D2.lt]
theorem lt_false {a b : D2} : a.lt b = false ↔ ¬ (a.r < b.r ∨ a.r = b.r ∧ a.q < b.q) := by simp [D2.lt]
theorem lt_irrefl (a : D2) : a.lt a = false := lt_false.2 (by omega)
theorem lt_trans {a b c : D2} (h : a.lt b = true) (h' : b.lt c = true) : a.lt c = true := by rw [lt_iff] at *; omega
theorem lt_asymm {a b : D2} (h : a.lt b = true) : b.lt a = false := by rw [lt_iff] at h; rw [lt_false]; omega
theorem eq_of_not_lt {a b : D2} (h : a.lt b = false) (h' : b.lt a = false) : a = b := by
  rw [lt_false] at h h'
  obtain ⟨a1, a2⟩ := a
  obtain ⟨b1, b2⟩ := b
  simp only at h h'
  have : a1 = b1 ∧ a2 = b2 := by omega
  rw [this.1, this.2]

/-- rising: each above the one ahead -/
def Rise (l : List D2) : Prop := l.Pairwise fun a b => a.lt b = true
/-- two rising lists of the same dots are one -/
theorem Rise.one : ∀ {l m : List D2}, Rise l → Rise m → (∀ x, x ∈ l ↔ x ∈ m) → l = m
  | [], [], _, _, _ => rfl
  | [], y :: m, _, _, h => absurd ((h y).2 (by simp)) (by simp)
  | x :: l, [], _, _, h => absurd ((h x).1 (by simp)) (by simp)
  | x :: l, y :: m, hl, hm, h => by
    obtain ⟨hx, hl'⟩ := List.pairwise_cons.1 hl
    obtain ⟨hy, hm'⟩ := List.pairwise_cons.1 hm
    have e : x = y := by
      rcases List.mem_cons.1 ((h x).1 (by simp)) with e | hxm
      · exact e
      · rcases List.mem_cons.1 ((h y).2 (by simp)) with e | hyl
        · exact e.symm
        · have := lt_asymm (hx y hyl); rw [hy x hxm] at this; cases this
    subst e
    congr 1
    refine Rise.one hl' hm' fun z => ⟨fun hz => ?_, fun hz => ?_⟩
    · rcases List.mem_cons.1 ((h z).1 (by simp [hz])) with e | h'
      · subst e; have := hx z hz; rw [lt_irrefl] at this; cases this
      · exact h'
    · rcases List.mem_cons.1 ((h z).2 (by simp [hz])) with e | h'
      · subst e; have := hy z hz; rw [lt_irrefl] at this; cases this
      · exact h'
/-- one dot into a rising list -/
def insD : List D2 → D2 → List D2
  | [], x => [x]
  | y :: l, x => if y.lt x = true then y :: insD l x else if y = x then y :: l else x :: y :: l
theorem insD_mem : ∀ (l : List D2) (x z : D2), z ∈ insD l x ↔ z = x ∨ z ∈ l
  | [], x, z => by simp [insD]
  | y :: l, x, z => by
    unfold insD
    split
    · simp only [List.mem_cons, insD_mem l x z]
      constructor
      · rintro (h | h | h) <;> simp [h]
      · rintro (h | h | h) <;> simp [h]
    · split
      · rename_i h; subst h; simp
      · simp
theorem insD_rise : ∀ {l : List D2} (x : D2), Rise l → Rise (insD l x)
  | [], x, _ => by simp [insD, Rise]
  | y :: l, x, h => by
    obtain ⟨hy, hl⟩ := List.pairwise_cons.1 h
    unfold insD
    split
    · rename_i hlt
      refine List.pairwise_cons.2 ⟨fun z hz => ?_, insD_rise x hl⟩
      rcases (insD_mem l x z).1 hz with e | hz
      · subst e; exact hlt
      · exact hy z hz
    · rename_i hlt
      split
      · exact h
      · rename_i hne
        have hxy : x.lt y = true := by
          rcases hb : x.lt y with _ | _
          · exact absurd (eq_of_not_lt (by simpa using hlt) hb) hne
          · rfl
        refine List.pairwise_cons.2 ⟨fun z hz => ?_, h⟩
        rcases List.mem_cons.1 hz with e | hz
        · subst e; exact hxy
        · exact lt_trans hxy (hy z hz)
def sortD (l : List D2) : List D2 := l.foldl insD []
theorem sort_gen : ∀ (l o : List D2), Rise o → Rise (l.foldl insD o) ∧ ∀ z, z ∈ l.foldl insD o ↔ z ∈ l ∨ z ∈ o
  | [], o, h => ⟨h, fun z => by simp⟩
  | x :: l, o, h => by
    obtain ⟨h1, h2⟩ := sort_gen l (insD o x) (insD_rise x h)
    refine ⟨h1, fun z => ?_⟩
    rw [List.foldl_cons, h2, insD_mem]
    simp only [List.mem_cons]
    constructor
    · rintro (h | h | h) <;> simp [h]
    · rintro ((h | h) | h) <;> simp [h]
theorem sortD_rise (l : List D2) : Rise (sortD l) := (sort_gen l [] List.Pairwise.nil).1
theorem sortD_mem (l : List D2) (z : D2) : z ∈ sortD l ↔ z ∈ l := by simpa [sortD] using (sort_gen l [] List.Pairwise.nil).2 z
theorem sortD_one {l m : List D2} (h : Rise m) (hm : ∀ z, z ∈ m ↔ z ∈ l) : m = sortD l := Rise.one h (sortD_rise l) fun z => by rw [hm, sortD_mem]
theorem sortD_same {l m : List D2} (h : ∀ z, z ∈ m ↔ z ∈ l) : sortD m = sortD l := sortD_one (sortD_rise m) fun z => by rw [sortD_mem, h]
theorem sortD_self {l : List D2} (h : Rise l) : sortD l = l := (sortD_one h fun _ => Iff.rfl).symm
/-- neighbours that are one, once -/
def cmpD : List D2 → List D2
  | [] => []
  | [x] => [x]
  | x :: y :: l => if x = y then cmpD (y :: l) else x :: cmpD (y :: l)
theorem cmpD_mem : ∀ (l : List D2) (z : D2), z ∈ cmpD l ↔ z ∈ l
  | [], z => by simp [cmpD]
  | [x], z => by simp [cmpD]
  | x :: y :: l, z => by
    unfold cmpD
    split
    · rename_i h; subst h; rw [cmpD_mem (x :: l) z]; simp
    · rw [List.mem_cons, cmpD_mem (y :: l) z]; simp
theorem cmpD_rise : ∀ {l : List D2}, (l.Pairwise fun a b => b.lt a = false) → Rise (cmpD l)
  | [], _ => List.Pairwise.nil
  | [x], _ => by simp [cmpD, Rise]
  | x :: y :: l, h => by
    obtain ⟨hx, hl⟩ := List.pairwise_cons.1 h
    unfold cmpD
    split
    · exact cmpD_rise hl
    · rename_i hne
      refine List.pairwise_cons.2 ⟨fun z hz => ?_, cmpD_rise hl⟩
      have hz' := (cmpD_mem _ z).1 hz
      rcases hb : x.lt z with _ | _
      · have e := eq_of_not_lt hb (hx z hz')
        subst e
        rcases List.mem_cons.1 hz' with e | hz2
        · exact absurd e hne
        · have h1 := (List.pairwise_cons.1 hl).1 x hz2
          have h2 := hx y (by simp)
          exact absurd (eq_of_not_lt h1 h2) hne
      · rfl
theorem sort_compact {l m : List D2} (hs : m.Pairwise fun a b => b.lt a = false) (hm : ∀ z, z ∈ m ↔ z ∈ l) : cmpD m = sortD l := sortD_one (cmpD_rise hs) fun z => by rw [cmpD_mem, hm]
end Go.Proofs.Ytpeecgphmcihaaa.Dt

