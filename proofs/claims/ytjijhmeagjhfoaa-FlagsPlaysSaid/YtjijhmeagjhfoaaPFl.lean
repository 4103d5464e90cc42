/- Flags: marks, which one counts, ids (plain). -/
import Derived.Test.YtjijhmeagjhfoaaS3
import Derived.Test.YtjijhmeagjhfoaaId
namespace Go.Proofs.Ytjijhmeagjhfoaa

structure ID where
  l : List UInt8
  h : l.length = 32
deriving DecidableEq
def ID.lt (a b : ID) : Bool := ltB a.l b.l
theorem ID.ext' {a b : ID} (h : a.l = b.l) : a = b := by
  cases a; cases b; cases h; rfl
theorem ltB_total : ∀ (a b : List UInt8), a.length = b.length → ltB a b = false → ltB b a = false → a = b
  | [], [], _, _, _ => rfl
  | [], _ :: _, h, _, _ => by simp at h
  | _ :: _, [], h, _, _ => by simp at h
  | x :: a, y :: b, h, h1, h2 => by
    rw [ltB_cons] at h1 h2
    simp only [Bool.or_eq_false_iff, Bool.and_eq_false_iff, decide_eq_false_iff_not] at h1 h2
    obtain ⟨h1, h1'⟩ := h1
    obtain ⟨h2, h2'⟩ := h2
    have e : x.toNat = y.toNat := by omega
    rw [ltB_total a b (by simpa using h) (h1'.resolve_left (by omega)) (h2'.resolve_left (by omega)), UInt8.toNat_inj.1 e]
theorem ID.irrefl (a : ID) : a.lt a = false := cmpB_self_lt a.l
theorem ID.trans {a b c : ID} (h1 : a.lt b = true) (h2 : b.lt c = true) : a.lt c = true := ltB_trans a.l b.l c.l (by rw [a.h, b.h]) (by rw [b.h, c.h]) h1 h2
theorem ID.asymm {a b : ID} (h : a.lt b = true) : b.lt a = false := by
  cases h' : b.lt a
  · rfl
  · have := ID.trans h h'
    rw [ID.irrefl] at this; cases this
theorem ID.total {a b : ID} (h1 : a.lt b = false) (h2 : b.lt a = false) : a = b := ID.ext' (ltB_total a.l b.l (by rw [a.h, b.h]) h1 h2)
theorem ID.ne_of_lt {a b : ID} (h : a.lt b = true) : a ≠ b := by
  rintro rfl
  rw [ID.irrefl] at h; cases h

/-- a mark: its stamp, and is it on -/
structure FM where
  s : S3
  on : Bool
deriving DecidableEq
def FM.right (m : FM) : Prop := m.s.right = true
def FM.code (m : FM) : Int := ((m.s.p * 65536 + m.s.l) * 64 + m.s.r) * 2 + (if m.on then 1 else 0)
theorem S3.right_iff (s : S3) : s.right = true ↔ (0 ≤ s.p ∧ s.p ≤ 281474976710655 ∧ 0 ≤ s.l ∧ s.l ≤ 65535 ∧ 0 ≤ s.r ∧ s.r < 64) := by
  unfold S3.right; rw [decide_eq_true_eq]
theorem S3.lt_code {a b : S3} (ha : a.right = true) (hb : b.right = true) : a.lt b = decide ((a.p * 65536 + a.l) * 64 + a.r < (b.p * 65536 + b.l) * 64 + b.r) := by
  rw [S3.right_iff] at ha hb
  unfold S3.lt
  rw [decide_eq_decide]
  omega
theorem S3.eq_code {a b : S3} (ha : a.right = true) (hb : b.right = true) : (a = b) ↔ ((a.p * 65536 + a.l) * 64 + a.r = (b.p * 65536 + b.l) * 64 + b.r) := by
  rw [S3.right_iff] at ha hb
  obtain ⟨p, l, r⟩ := a
  obtain ⟨p', l', r'⟩ := b
  simp only [S3.mk.injEq] at *
  omega
theorem FM.code_nonneg {m : FM} (h : m.right) : 0 ≤ m.code := by
  have := (S3.right_iff _).1 h
  unfold FM.code
  split <;> omega
theorem FM.code_inj {m n : FM} (hm : m.right) (hn : n.right) (h : m.code = n.code) : m = n := by
  have e := S3.eq_code hm hn
  unfold FM.code at h
  obtain ⟨s, on⟩ := m
  obtain ⟨s', on'⟩ := n
  simp only at h e
  have h1 : s = s' := e.2 (by cases on <;> cases on' <;> simp at h <;> omega)
  subst h1
  congr 1
  cases on <;> cases on' <;> simp at h <;> first | rfl | omega
/-- what was there stays -/
def keepM (was new : FM) : Bool := new.s.lt was.s || (decide (new.s = was.s) && (was.on || !new.on))
theorem keepM_code {a b : FM} (ha : a.right) (hb : b.right) : keepM a b = decide (b.code ≤ a.code) := by
  unfold keepM
  rw [S3.lt_code hb ha]
  have e := S3.eq_code hb ha
  rw [show decide (b.s = a.s) = decide ((b.s.p * 65536 + b.s.l) * 64 + b.s.r = (a.s.p * 65536 + a.s.l) * 64 + a.s.r) from by rw [decide_eq_decide]; exact e]
  unfold FM.code
  generalize (b.s.p * 65536 + b.s.l) * 64 + b.s.r = x
  generalize (a.s.p * 65536 + a.s.l) * 64 + a.s.r = y
  by_cases h1 : x < y
  · have : x * 2 + (if b.on = true then 1 else 0) ≤ y * 2 + (if a.on = true then 1 else 0) := by (repeat' split) <;> omega
    simp [h1, this]
  · by_cases h2 : x = y
    · subst h2
      cases ha : a.on <;> cases hb : b.on <;> simp <;> omega
    · have : ¬ x * 2 + (if b.on = true then 1 else 0) ≤ y * 2 + (if a.on = true then 1 else 0) := by (repeat' split) <;> omega
      simp [h1, h2, this]
/-- the number of what counts -/
def codeO : Option FM → Int
  | none => -1
  | some m => m.code
def rightO (o : Option FM) : Prop := ∀ m, o = some m → m.right
theorem codeO_inj {a b : Option FM} (ha : rightO a) (hb : rightO b) (h : codeO a = codeO b) : a = b := by
  cases a with
  | none => cases b with
    | none => rfl
    | some n => have := FM.code_nonneg (hb n rfl); simp [codeO] at h; omega
  | some m => cases b with
    | none => have := FM.code_nonneg (ha m rfl); simp [codeO] at h; omega
    | some n => rw [FM.code_inj (ha m rfl) (hb n rfl) h]
def told (o : Option FM) (m : FM) : Bool := match o with | none => true | some a => !keepM a m
theorem told_code {o : Option FM} {m : FM} (ho : rightO o) (hm : m.right) : told o m = decide (codeO o < m.code) := by
  cases o with
  | none =>
    have := FM.code_nonneg hm
    have h : codeO none < m.code := by show (-1 : Int) < m.code; omega
    simp [told, h]
  | some a =>
    simp only [told, codeO]
    rw [keepM_code (ho a rfl) hm]
    by_cases h : m.code ≤ a.code
    · simp [h, show ¬ a.code < m.code by omega]
    · simp [h, show a.code < m.code by omega]
def mxO (o : Option FM) (m : FM) : FM := match o with | none => m | some a => if keepM a m then a else m
theorem mxO_right {o : Option FM} {m : FM} (ho : rightO o) (hm : m.right) : (mxO o m).right := by
  cases o with
  | none => exact hm
  | some a =>
    simp only [mxO]
    split
    · exact ho a rfl
    · exact hm
theorem mxO_code {o : Option FM} {m : FM} (ho : rightO o) (hm : m.right) : (mxO o m).code = max (codeO o) m.code := by
  cases o with
  | none =>
    have := FM.code_nonneg hm
    simp only [mxO, codeO]; omega
  | some a =>
    simp only [mxO, codeO]
    rw [keepM_code (ho a rfl) hm]
    by_cases h : m.code ≤ a.code
    · simp [h]; omega
    · simp [h]; omega
theorem mxO_told {o : Option FM} {m : FM} : mxO o m = if told o m then m else o.getD m := by
  cases o with
  | none => rfl
  | some a =>
    simp only [mxO, told]
    by_cases h : keepM a m = true <;> simp [h]
end Go.Proofs.Ytjijhmeagjhfoaa

