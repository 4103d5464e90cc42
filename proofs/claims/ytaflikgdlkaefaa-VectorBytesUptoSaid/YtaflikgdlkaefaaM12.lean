/- Cursors: bytes taken one behind the other. -/
import Derived.Test.YtaflikgdlkaefaaM00
import Derived.Test.YtaflikgdlkaefaaM02
import Derived.Test.YtaflikgdlkaefaaM08
import Derived.Test.YtaflikgdlkaefaaM11
open List (getElem?_toArray getElem?_cons_succ getElem?_cons_zero)
namespace Go.Proofs.Ytaflikgdlkaefaa
open Go.RowKit Go.Proofs.Ytaflikgdlkaefaa.Pl
set_option maxRecDepth 20000

def cuv (A : Option Addr) (n c k e : Nat) : List Value := [.slice A n c, .int .i64 (k : Int), .int .i64 (e : Int)]
/-- a cursor over bytes below block B: k of them are taken, e is its error -/
structure CuS (w : World) (g B : Nat) (A : Option Addr) (c : Nat) (b : List UInt8) (k e : Nat) : Prop where
  at_ : At w g (cuv A b.length c k e)
  sl : Sl w B A (bv b)
  hB : B ≤ g
  hc : b.length ≤ c
  hm : c ≤ maxLen
  hk : k ≤ b.length
section
variable {w w' : World} {g B : Nat} {A : Option Addr} {c : Nat} {b : List UInt8} {k e : Nat}
theorem CuS.below (h : CuS w g B A c b k e) (hb : Below w.heap.size w w') : CuS w' g B A c b k e := ⟨h.at_.below hb, h.sl.below' hb, h.hB, h.hc, h.hm, h.hk⟩
theorem CuS.drew (h : CuS w g B A c b k e) : CuS w.drew g B A c b k e := ⟨h.at_, h.sl, h.hB, h.hc, h.hm, h.hk⟩
theorem CuS.grown (h : CuS w g B A c b k e) {row : Option Nat} (hg : w.grownBy w' row) (hr : ∀ r, row = some r → g < r) : CuS w' g B A c b k e :=
  ⟨h.at_.grown hg (fun e' => by have := hr g e'; omega), h.sl.grown hg (fun r e' => by have := hr r e'; have := h.hB; omega), h.hB, h.hc, h.hm, h.hk⟩
theorem CuS.err (h : CuS w g B A c b k e) (e' : Nat) : CuS (w.setCell ⟨g, 2, none⟩ (.int .i64 (e' : Int))) g B A c b k e' :=
  ⟨h.at_.set 2 (.int .i64 (e' : Int)) (by simp [cuv]), h.sl.setCell h.hB _, h.hB, h.hc, h.hm, h.hk⟩
theorem CuS.go (h : CuS w g B A c b k e) {k' : Nat} (hk : k' ≤ b.length) : CuS (w.setCell ⟨g, 1, none⟩ (.int .i64 (k' : Int))) g B A c b k' e :=
  ⟨h.at_.set 1 (.int .i64 (k' : Int)) (by simp [cuv]), h.sl.setCell h.hB _, h.hB, h.hc, h.hm, hk⟩
theorem grownC (w : World) (g o : Nat) (v : Value) : w.grownBy (w.setCell ⟨g, o, none⟩ v) (some g) :=
  ⟨rfl, rfl, rfl, by simp, fun i _ hne => Below.heap_setCell _ _ _ _ (fun e => hne (by rw [e]))⟩
theorem grownR (w : World) (row : Option Nat) : w.grownBy w row := ⟨rfl, rfl, rfl, Nat.le_refl _, fun _ _ _ => rfl⟩
theorem grownB {row : Option Nat} (h : Below w.heap.size w w') : w.grownBy w' row := ⟨h.os, h.tape, h.output, h.size, fun i hi _ => h.block i hi⟩
theorem grownT {w2 : World} {row : Option Nat} (h : w.grownBy w' row) (k : w'.grownBy w2 row) : w.grownBy w2 row := grown_step h k (.inl rfl)
/-- the first error stays -/
def erS (e e' : Nat) : Nat := if e = 0 then e' else e
set_option maxRecDepth 100000 in
set_option maxHeartbeats 1600000 in
theorem CErr_any (h : CuS w g B A c b k e) : Calls Try.prog 49 #[.pointer (some ⟨g, 0, none⟩)] w fun r w' => r = .returned (.int .i64 (e : Int)) ∧ w = w' := by
  have c2 := h.at_.c 2 rfl
  clear h
  go_enter Try.func49, Try.ntmps49
  go_wp2_with fail
  go_ret
  exact ⟨rfl, rfl⟩
set_option maxRecDepth 100000 in
set_option maxHeartbeats 1600000 in
theorem CAt_any (h : CuS w g B A c b k e) : Calls Try.prog 51 #[.pointer (some ⟨g, 0, none⟩)] w fun r w' => r = .returned (.int .i64 (k : Int)) ∧ w = w' := by
  have c2 := h.at_.c 1 rfl
  clear h
  go_enter Try.func51, Try.ntmps51
  go_wp2_with fail
  go_ret
  exact ⟨rfl, rfl⟩
set_option maxRecDepth 100000 in
set_option maxHeartbeats 1600000 in
theorem CFail_any (h : CuS w g B A c b k e) (e' : Nat) : Calls Try.prog 67 #[.pointer (some ⟨g, 0, none⟩), .int .i64 (e' : Int)] w fun r w' => r = .returned (.tuple #[]) ∧ CuS w' g B A c b k (erS e e') ∧ w.grownBy w' (some g) := by
  have c2 := h.at_.c 2 rfl
  have f2 := h.at_.f 2 rfl
  unfold erS
  by_cases he : e = 0
  · subst he
    have HE := Lib.hid (h.err e')
    have HG := Lib.hid (grownC w g 2 (.int .i64 (e' : Int)))
    clear h
    go_enter Try.func67, Try.ntmps67
    go_wp2_with fail
    go_end0
    exact ⟨rfl, HE.out, HG.out⟩
  · have hb : ((e : Int) == 0) = false := by rw [beq_eq_false_iff_ne]; omega
    rw [if_neg he]
    have HE := Lib.hid h
    clear h he
    go_enter Try.func67, Try.ntmps67
    go_wp2_with fail
    go_end0
    exact ⟨rfl, HE.out, grownR _ _⟩
set_option maxRecDepth 100000 in
set_option maxHeartbeats 1600000 in
theorem CAsk_any (h : CuS w g B A c b k e) (p : Bool) : Calls Try.prog 48 #[.pointer (some ⟨g, 0, none⟩), .bool p] w fun r w' => r = .returned (.tuple #[]) ∧ CuS w' g B A c b k (if p = true then e else erS e 21) ∧ w.grownBy w' (some g) := by
  have HE := Lib.hid h
  have HF := Lib.hid (CFail_any h 21)
  clear h
  cases p with
  | true =>
    go_enter Try.func48, Try.ntmps48
    go_wp2_with fail
    go_end0
    exact ⟨rfl, HE.out, grownR _ _⟩
  | false =>
    go_enter Try.func48, Try.ntmps48
    go_wp2_with fail
    refine HF.out.mono ?_
    rintro r w1 ⟨rfl, h1, h2⟩
    go_wp2_with fail
    go_end0
    exact ⟨rfl, h1, h2⟩
set_option maxRecDepth 100000 in
set_option maxHeartbeats 1600000 in
theorem CSkip_any (h : CuS w g B A c b k e) (m e' : Nat) (hm : k + m ≤ b.length) : Calls Try.prog 66 #[.pointer (some ⟨g, 0, none⟩), .int .i64 (m : Int), .int .i64 (e' : Int)] w fun r w' => r = .returned (.tuple #[]) ∧ CuS w' g B A c b (if erS e e' = 0 then k + m else k) (erS e e') ∧ w.grownBy w' (some g) := by
  have HF := Lib.hid (CFail_any h e')
  have hlen : k + m ≤ 9223372036854775807 := by have := h.hc; have := h.hm; simp only [maxLen] at this; omega
  clear h
  generalize erS e e' = x at *
  obtain ⟨k2, hk2⟩ : ∃ k2, (if x = 0 then k + m else k) = k2 := ⟨_, rfl⟩
  rw [hk2]
  have HK := Lib.hid hk2
  clear hk2
  go_enter Try.func66, Try.ntmps66
  go_wp2_with fail
  refine HF.out.mono ?_
  rintro r w1 ⟨rfl, h1, h2⟩
  have c1 := h1.at_.c 1 rfl
  have f1 := h1.at_.f 1 rfl
  have c2 := h1.at_.c 2 rfl
  by_cases hx : x = 0
  · subst hx
    have HE := Lib.hid (show CuS (w1.setCell ⟨g, 1, none⟩ (.int .i64 ((k + m : Nat) : Int))) g B A c b k2 0 by rw [← HK.out, if_pos rfl]; exact h1.go hm)
    have HG := Lib.hid (grownT h2 (grownC w1 g 1 (.int .i64 ((k + m : Nat) : Int))))
    have hw : IntKind.i64.wrap ((k : Int) + (m : Int)) = ((k + m : Nat) : Int) := by rw [IntKind.wrap_i64]; omega
    clear h1 h2 hm hlen
    go_wp2_with fail
    go_end0
    exact ⟨rfl, HE.out, HG.out⟩
  · have hb : ((x : Int) == 0) = false := by rw [beq_eq_false_iff_ne]; omega
    have HE := Lib.hid (And.intro (show CuS w1 g B A c b k2 x by rw [← HK.out, if_neg hx]; exact h1) h2)
    clear h1 h2 hx
    go_wp2_with fail
    go_end0
    exact ⟨rfl, HE.out.1, HE.out.2⟩
set_option maxRecDepth 100000 in
set_option maxHeartbeats 1600000 in
theorem CLeft_any (h : CuS w g B A c b k e) : Calls Try.prog 83 #[.pointer (some ⟨g, 0, none⟩)] w fun r w' => r = .returned (.int .i64 ((b.length - k : Nat) : Int)) ∧ Below w.heap.size w w' := by
  have c0 := h.at_.e 0 rfl
  have c1 := h.at_.e 1 rfl
  have hw : IntKind.i64.wrap ((b.length : Int) - (k : Int)) = ((b.length - k : Nat) : Int) := by have := h.hk; have := h.hc; have := h.hm; simp only [maxLen] at this; rw [IntKind.wrap_i64]; omega
  clear h
  go_enter Try.func83, Try.ntmps83
  go_wp2_with fail
  refine bstart (by kernel_rfl) ?_
  refine btake 0 (oi := _) (v := ?_) (by simp only [List.getElem?_toArray, List.getElem?_cons_zero]; rfl) (by kernel_rfl) (by exact fun _ _ _ h => h) (by first | assumption | exact KB.refl _) (.inl ⟨by rfl, fun W hW => ?_⟩) ?_; rotate_left
  · (go_simp; first | done | with_reducible rfl)
  try simp only [Act.put, List.setIfInBounds_toArray, List.set_cons_zero, List.set_cons_succ]
  refine btake 1 (oi := _) (v := ?_) (by simp only [getElem?_toArray, getElem?_cons_succ, getElem?_cons_zero]; rfl) (by kernel_rfl) (by exact fun _ _ _ h => h) (by first | assumption | exact KB.refl _) (.inl ⟨by rfl, fun W hW => ?_⟩) ?_; rotate_left
  · (go_simp; first | done | with_reducible rfl)
  try simp only [Act.put, List.setIfInBounds_toArray, List.set_cons_zero, List.set_cons_succ]
  refine btake 2 (oi := _) (v := ?_) (by simp only [getElem?_toArray, getElem?_cons_succ, getElem?_cons_zero]; rfl) (by kernel_rfl) (by exact fun _ _ _ h => h) (by first | assumption | exact KB.refl _) (.inl ⟨by rfl, fun W hW => ?_⟩) ?_; rotate_left
  · (go_simp; first | done | with_reducible rfl)
  try simp only [Act.put, List.setIfInBounds_toArray, List.set_cons_zero, List.set_cons_succ]
  refine btake 3 (oi := _) (v := ?_) (by simp only [getElem?_toArray, getElem?_cons_succ, getElem?_cons_zero]; rfl) (by kernel_rfl) (by exact fun _ _ _ h => h) (by first | assumption | exact KB.refl _) (.inl ⟨by rfl, fun W hW => ?_⟩) ?_; rotate_left
  · (go_simp; first | done | with_reducible rfl)
  try simp only [Act.put, List.setIfInBounds_toArray, List.set_cons_zero, List.set_cons_succ]
  refine btake 4 (oi := _) (v := ?_) (by simp only [getElem?_toArray, getElem?_cons_succ, getElem?_cons_zero]; rfl) (by kernel_rfl) (by exact fun _ _ _ h => h) (by first | assumption | exact KB.refl _) (.inl ⟨by rfl, fun W hW => ?_⟩) ?_; rotate_left
  · (go_simp; first | done | with_reducible rfl)
  try simp only [Act.put, List.setIfInBounds_toArray, List.set_cons_zero, List.set_cons_succ]
  refine btake 5 (oi := _) (v := ?_) (by simp only [getElem?_toArray, getElem?_cons_succ, getElem?_cons_zero]; rfl) (by kernel_rfl) (by exact fun _ _ _ h => h) (by first | assumption | exact KB.refl _) (.inl ⟨by rfl, fun W hW => ?_⟩) ?_; rotate_left
  · (go_simp; first | done | with_reducible rfl)
  try simp only [Act.put, List.setIfInBounds_toArray, List.set_cons_zero, List.set_cons_succ]
  refine btake 6 (oi := _) (v := ?_) (by simp only [getElem?_toArray, getElem?_cons_succ, getElem?_cons_zero]; rfl) (by kernel_rfl) (by exact fun _ _ _ h => h) (by first | assumption | exact KB.refl _) (.inl ⟨by rfl, fun W hW => ?_⟩) ?_; rotate_left
  · (go_simp; first | done | with_reducible rfl)
  try simp only [Act.put, List.setIfInBounds_toArray, List.set_cons_zero, List.set_cons_succ]
  refine btake 7 (oi := _) (v := ?_) (by simp only [getElem?_toArray, getElem?_cons_succ, getElem?_cons_zero]; rfl) (by kernel_rfl) (by exact fun _ _ _ h => h) (by first | assumption | exact KB.refl _) (.inl ⟨by rfl, fun W hW => ?_⟩) ?_; rotate_left
  · (go_simp; first | done | with_reducible rfl)
  try simp only [Act.put, List.setIfInBounds_toArray, List.set_cons_zero, List.set_cons_succ]
  refine btake 8 (oi := _) (v := ?_) (by simp only [getElem?_toArray, getElem?_cons_succ, getElem?_cons_zero]; rfl) (by kernel_rfl) (by exact fun _ _ _ h => h) (by first | assumption | exact KB.refl _) (.inl ⟨by rfl, fun W hW => ?_⟩) ?_; rotate_left
  · (go_simp; first | done | with_reducible rfl)
  try simp only [Act.put, List.setIfInBounds_toArray, List.set_cons_zero, List.set_cons_succ]
  refine btake 9 (oi := _) (v := ?_) (by simp only [getElem?_toArray, getElem?_cons_succ, getElem?_cons_zero]; rfl) (by kernel_rfl) (by exact fun _ _ _ h => h) (by first | assumption | exact KB.refl _) (.inl ⟨by rfl, fun W hW => ?_⟩) ?_; rotate_left
  · (go_simp; first | done | with_reducible rfl)
  try simp only [Act.put, List.setIfInBounds_toArray, List.set_cons_zero, List.set_cons_succ]
  refine btake 10 (oi := _) (v := ?_) (by simp only [getElem?_toArray, getElem?_cons_succ, getElem?_cons_zero]; rfl) (by kernel_rfl) (by exact fun _ _ _ h => h) (by first | assumption | exact KB.refl _) (.inl ⟨by rfl, fun W hW => ?_⟩) ?_; rotate_left
  · (go_simp; first | done | with_reducible rfl)
  try simp only [Act.put, List.setIfInBounds_toArray, List.set_cons_zero, List.set_cons_succ]
  refine bdone (by kernel_rfl) ?_
  go_wp2_with fail
  go_ret
  exact ⟨rfl, (Below.refl _ _).drew⟩
set_option maxRecDepth 100000 in
set_option maxHeartbeats 1600000 in
theorem CRest_any (h : CuS w g B A c b k e) : Calls Try.prog 65 #[.pointer (some ⟨g, 0, none⟩)] w fun r w' => r = .returned (.slice (if c = k then A else A.map (·.add k)) (b.length - k) (c - k)) ∧ Below w.heap.size w w' := by
  have c0 := h.at_.e 0 rfl
  have c1 := h.at_.e 1 rfl
  have hk := h.hk
  have hc := h.hc
  clear h
  go_enter Try.func65, Try.ntmps65
  go_wp2_with fail
  refine bstart (by kernel_rfl) ?_
  refine btake 0 (oi := _) (v := ?_) (by simp only [List.getElem?_toArray, List.getElem?_cons_zero]; rfl) (by kernel_rfl) (by exact fun _ _ _ h => h) (by first | assumption | exact KB.refl _) (.inl ⟨by rfl, fun W hW => ?_⟩) ?_; rotate_left
  · (go_simp; first | done | with_reducible rfl)
  try simp only [Act.put, List.setIfInBounds_toArray, List.set_cons_zero, List.set_cons_succ]
  refine btake 1 (oi := _) (v := ?_) (by simp only [getElem?_toArray, getElem?_cons_succ, getElem?_cons_zero]; rfl) (by kernel_rfl) (by exact fun _ _ _ h => h) (by first | assumption | exact KB.refl _) (.inl ⟨by rfl, fun W hW => ?_⟩) ?_; rotate_left
  · (go_simp; first | done | with_reducible rfl)
  try simp only [Act.put, List.setIfInBounds_toArray, List.set_cons_zero, List.set_cons_succ]
  refine btake 2 (oi := _) (v := ?_) (by simp only [getElem?_toArray, getElem?_cons_succ, getElem?_cons_zero]; rfl) (by kernel_rfl) (by exact fun _ _ _ h => h) (by first | assumption | exact KB.refl _) (.inl ⟨by rfl, fun W hW => ?_⟩) ?_; rotate_left
  · (go_simp; first | done | with_reducible rfl)
  try simp only [Act.put, List.setIfInBounds_toArray, List.set_cons_zero, List.set_cons_succ]
  refine btake 3 (oi := _) (v := ?_) (by simp only [getElem?_toArray, getElem?_cons_succ, getElem?_cons_zero]; rfl) (by kernel_rfl) (by exact fun _ _ _ h => h) (by first | assumption | exact KB.refl _) (.inl ⟨by rfl, fun W hW => ?_⟩) ?_; rotate_left
  · (go_simp; first | done | with_reducible rfl)
  try simp only [Act.put, List.setIfInBounds_toArray, List.set_cons_zero, List.set_cons_succ]
  refine btake 4 (oi := _) (v := ?_) (by simp only [getElem?_toArray, getElem?_cons_succ, getElem?_cons_zero]; rfl) (by kernel_rfl) (by exact fun _ _ _ h => h) (by first | assumption | exact KB.refl _) (.inl ⟨by rfl, fun W hW => ?_⟩) ?_; rotate_left
  · (go_simp; first | done | with_reducible rfl)
  try simp only [Act.put, List.setIfInBounds_toArray, List.set_cons_zero, List.set_cons_succ]
  refine btake 5 (oi := _) (v := ?_) (by simp only [getElem?_toArray, getElem?_cons_succ, getElem?_cons_zero]; rfl) (by kernel_rfl) (by exact fun _ _ _ h => h) (by first | assumption | exact KB.refl _) (.inl ⟨by rfl, fun W hW => ?_⟩) ?_; rotate_left
  · (go_simp; first | done | with_reducible rfl)
  try simp only [Act.put, List.setIfInBounds_toArray, List.set_cons_zero, List.set_cons_succ]
  refine btake 6 (oi := _) (v := ?_) (by simp only [getElem?_toArray, getElem?_cons_succ, getElem?_cons_zero]; rfl) (by kernel_rfl) (by exact fun _ _ _ h => h) (by first | assumption | exact KB.refl _) (.inl ⟨by rfl, fun W hW => ?_⟩) ?_; rotate_left
  · (go_simp; first | done | with_reducible rfl)
  try simp only [Act.put, List.setIfInBounds_toArray, List.set_cons_zero, List.set_cons_succ]
  refine btake 7 (oi := _) (v := ?_) (by simp only [getElem?_toArray, getElem?_cons_succ, getElem?_cons_zero]; rfl) (by kernel_rfl) (by exact fun _ _ _ h => h) (by first | assumption | exact KB.refl _) (.inl ⟨by rfl, fun W hW => ?_⟩) ?_; rotate_left
  · (go_simp; first | done | with_reducible rfl)
  try simp only [Act.put, List.setIfInBounds_toArray, List.set_cons_zero, List.set_cons_succ]
  refine btake 8 (oi := _) (v := ?_) (by simp only [getElem?_toArray, getElem?_cons_succ, getElem?_cons_zero]; rfl) (by kernel_rfl) (by exact fun _ _ _ h => h) (by first | assumption | exact KB.refl _) (.inl ⟨by rfl, fun W hW => ?_⟩) ?_; rotate_left
  · (go_simp; first | done | with_reducible rfl)
  try simp only [Act.put, List.setIfInBounds_toArray, List.set_cons_zero, List.set_cons_succ]
  refine btake 9 (oi := _) (v := ?_) (by simp only [getElem?_toArray, getElem?_cons_succ, getElem?_cons_zero]; rfl) (by kernel_rfl) (by exact fun _ _ _ h => h) (by first | assumption | exact KB.refl _) (.inl ⟨by rfl, fun W hW => ?_⟩) ?_; rotate_left
  · (go_simp; first | done | with_reducible rfl)
  try simp only [Act.put, List.setIfInBounds_toArray, List.set_cons_zero, List.set_cons_succ]
  refine bdone (by kernel_rfl) ?_
  go_wp2_with fail
  all_goals
    go_ret
    exact ⟨rfl, (Below.refl _ _).drew⟩
end
end Go.Proofs.Ytaflikgdlkaefaa
/- Vectors: vector.Of. -/
namespace Go.Proofs.Ytaflikgdlkaefaa
open Go.RowKit Go.Maps Go.Proofs.Ytaflikgdlkaefaa.Pl Go.Proofs.Ytaflikgdlkaefaa.Sp Go.Proofs.Ytaflikgdlkaefaa.Ve
set_option maxRecDepth 20000

theorem zcell (w : World) (x : Int) : Sl (w.alloc (.cells #[.int .i64 x] 2)) (w.alloc (.cells #[.int .i64 x] 2)).heap.size (some ⟨w.heap.size, 0, none⟩) (zv [x]) := Sl.oneZ w x
theorem RangeIs.left_kept {P : Program} {t k e : TypeId} {α β : Type} [DecidableEq α] {T : MT P t k e α β} {w w' : World} {b r : Nat} {L : List (α × β)} {rem : List α} (h : RangeIs T w b r L rem) {row : Option Nat} (hg : w.grownBy w' row) (hne : some b ≠ row) (hne2 : some r ≠ row) : w'.rangeLeft b r = w.rangeLeft b r := by
  obtain ⟨_, es, left, cnt, h1, _⟩ := h
  rw [h1.left_eq, (h1.kept hg hne hne2).left_eq]
theorem RangeIs.nodup {P : Program} {t k e : TypeId} {α β : Type} [DecidableEq α] {T : MT P t k e α β} {w : World} {b r : Nat} {L : List (α × β)} {rem : List α} (h : RangeIs T w b r L rem) : rem.Nodup := by
  obtain ⟨_, es, left, cnt, _, _, h3, _⟩ := h
  exact h3
theorem RangeIs.walkV {P : Program} {t k e : TypeId} {α β : Type} [DecidableEq α] {T : MT P t k e α β} {w : World} {b r : Nat} {L : List (α × β)} {rem : List α} (h : RangeIs T w b r L rem) : ∃ o : Obj, w.heap[r]? = some o ∧ o.isWalk = true := by
  obtain ⟨_, es, left, cnt, h1, _⟩ := h
  exact h1.iter_walk
/-- the map of ranges stands while an iterator turns -/
theorem MS.grownI {w w' : World} {b g : Nat} {R : List RA} (h : MS w b R) (hg : w.grownBy w' (some g)) (hw : ∃ o : Obj, w.heap[g]? = some o ∧ o.isWalk = true) (hne : b ≠ g) : MS w' b R := by
  refine ⟨h.m.kept hg (fun e => hne (Option.some.inj e)), fun q hq => (h.rs q hq).grown hg fun hl b' o s e e' => ?_, h.ks⟩
  have e2 := Option.some.inj e'
  subst e2
  obtain ⟨ob, h1, h2⟩ := hw
  rcases (h.rs q hq).1 with h3 | ⟨b2, o2, e3, _, _, h4⟩
  · obtain ⟨x, t, hx⟩ := List.exists_cons_of_ne_nil hl
    rw [hx] at h3
    have := congrArg List.length h3
    rw [rv_len] at this
    simp at this
  · rw [e] at e3
    injection e3 with e3
    injection e3 with e4 e5
    subst e4
    obtain ⟨x, t, hx⟩ := List.exists_cons_of_ne_nil hl
    have h5 := h4 0 (.int .i64 x.a) (by rw [hx]; rfl)
    unfold World.cell? at h5
    dsimp only at h5
    rw [h1] at h5
    cases ob <;> simp_all [Obj.isWalk]
/-- what the first loop holds through its region -/
def QZ (g : Nat) (d : Dt.D2) (b : Nat) (L : List (Int × RSl)) (W : World) : Prop := At W g [.int .i64 d.r, .int .i64 d.q] ∧ MapIs MZ W b L
/-- how far the second loop is -/
def Done (T : List RA) (Z : List RZ) (rem : List Int) : Prop := ∀ r, r ∉ rem → partV (T.map RA.p) r = ofS (seqZ Z r)
set_option maxRecDepth 100000 in
set_option maxHeartbeats 6400000 in
theorem VOf_own (w : World) (A : Option Addr) (n c : Nat) (l : List Dt.D2) (hs : Sl w w.heap.size A (dv l)) (h0 : n = l.length) (hl : n ≤ 100000) :
    Calls Try.prog 22 #[.slice A n c] w (PAns w (ofV l)) := by
  have HN := Lib.hid h0
  clear h0
  go_enter Try.func22, Try.ntmps22
  have hb0 : Below w.heap.size w (w.alloc (.cells #[.slice none 0 0] 27)) := balloc (Below.refl _ _) _
  have a0 : At (w.alloc (.cells #[.slice none 0 0] 27)) w.heap.size [.slice none 0 0] := At.new w 27 #[.slice none 0 0]
  have hmm := @run_makeMap Try.prog
  have hb1 := balloc hb0 (.map #[] 0)
  have a1 := a0.alloc (.map #[] 0)
  have hz0 := OZ.made (w.alloc (.cells #[.slice none 0 0] 27)) (base := w.heap.size + 2) (by simp)
  have hbs : (w.alloc (.cells #[.slice none 0 0] 27)).heap.size = w.heap.size + 1 := by simp
  rw [hbs] at hz0
  have HI := Lib.hid (And.intro hb1 (And.intro a1 hz0))
  clear hb0 a0 hb1 a1 hz0
  go_wp2_with fail
  go_loopw [12] (fun x12 wr => ∃ (k : Nat) (Z : List RZ), k ≤ n ∧ x12 = .int .i64 (k : Int) ∧ OZ wr (w.heap.size + 2) (w.heap.size + 1) Z ∧ (∀ r, seqZ Z r = seqsOf (l.take k) r) ∧ At wr w.heap.size [.slice none 0 0] ∧ Below w.heap.size w wr ∧ w.heap.size + 2 ≤ wr.heap.size) (fun x12 _ => n - (intOf x12).toNat)
  case atStart => exact ⟨0, [], by omega, rfl, HI.out.2.2, fun r => by simp [seqZ, findZ, seqsOf], HI.out.2.1, HI.out.1, by simp⟩
  case round =>
    clear HI
    obtain ⟨k, Z, hk, rfl, hZ, hq, h0, hbel, hsz⟩ := hrel
    by_cases hlt : k < n
    · have hkl : k < l.length := by have := HN.out; omega
      obtain ⟨b, o, rfl, hbB, hbW, c0, c1⟩ := dotAt hs hkl
      have hd : l[k]? = some (l[k]?.getD ⟨0, 0⟩) := by rw [List.getElem?_eq_getElem hkl]; rfl
      generalize l[k]?.getD ⟨0, 0⟩ = d at *
      replace c0 := (hbel.cell hbW).trans c0
      replace c1 := (hbel.cell hbW).trans c1
      have hd1 : decide ((k : Int) < (n : Int)) = true := by rw [decide_eq_true_eq]; omega
      have hn0 : (0 : Int) ≤ (k : Int) := by omega
      have hn1 : (k : Int) < (n : Int) := by omega
      have hbx0 := balloc (Below.refl wr.heap.size wr) (.cells #[.int .i64 d.r, .int .i64 d.q] 32)
      have hbx := hbel.alloc hbel.size (.cells #[.int .i64 d.r, .int .i64 d.q] 32)
      have hbox := At.new wr 32 #[.int .i64 d.r, .int .i64 d.q]
      have hdr := fun W => DRight_any W d
      unfold Dt.D2.v at hdr
      obtain ⟨p, hp⟩ : ∃ p, d.right = p := ⟨_, rfl⟩
      rw [hp] at hdr
      have HD := Lib.hid hdr
      obtain ⟨A2, c2, hlv, hown0, hap⟩ := hZ.lk d.r
      have hlen2 : (seqZ Z d.r).length ≤ 100000 := by
        rw [hq]
        unfold seqsOf
        rw [List.length_map]
        refine Nat.le_trans (List.length_filter_le _ _) ?_
        rw [List.length_take]
        omega
      obtain ⟨sq, hsq⟩ : ∃ s, seqZ Z d.r = s := ⟨_, rfl⟩
      rw [hsq] at hlv hown0 hap hlen2
      obtain ⟨ls, hls⟩ : ∃ m, sq.length = m := ⟨_, rfl⟩
      rw [hls] at hlv hown0 hap hlen2
      have hlt0 : ∀ x, (Value.slice A2 ls c2).ownBlock = some x → w.heap.size + 2 ≤ x ∧ x < wr.heap.size := fun x e => World.ownsRow.lt hown0 x e
      have HLK := Lib.hid (And.intro hlv (And.intro hown0 (And.intro hap (And.intro hlt0 (And.intro hsq (And.intro hls hlen2))))))
      have HBX := Lib.hid hbx0
      clear hlv hown0 hap hlen2 hlt0 hsq hls
      have HX := Lib.hid (And.intro (hZ.below hbx0) (And.intro hq (And.intro (h0.below hbx0) (And.intro hbx (And.intro hbox (And.intro hd (And.intro hp (Nat.le_trans hsz hbx0.size))))))))
      have y0 := hbox.c 0 rfl
      have y1 := hbox.c 1 rfl
      clear hdr hp hd hbox hbx hbx0 hbel h0 hq hZ hsz
      go_wp2_with fail
      generalize wr.alloc (.cells #[.int .i64 d.r, .int .i64 d.q] 32) = W1 at *
      refine (HD.out W1).mono ?_
      rintro e w1 ⟨rfl, h1⟩
      have H1 := Lib.hid h1
      have hq1 := HX.out.2.2.2.2.1.below h1
      clear h1 c0 c1 y0 y1
      cases p with
      | false =>
        have HZ := Lib.hid (And.intro (HX.out.1.below H1.out) (And.intro (show ∀ r, seqZ Z r = seqsOf (l.take (k + 1)) r from fun r => by rw [seqsOf_take HX.out.2.2.2.2.2.1, if_neg (by rw [HX.out.2.2.2.2.2.2.1]; simp)]; exact HX.out.2.1 r) (And.intro (HX.out.2.2.1.below H1.out) (And.intro (HX.out.2.2.2.1.trans (H1.out.mono HX.out.2.2.2.1.size)) (Nat.le_trans HX.out.2.2.2.2.2.2.2 H1.out.size)))))
        clear hq1
        go_wp2_with fail
        go_roundw
        case rel => exact ⟨k + 1, Z, by omega, by go_num, HZ.out.1, HZ.out.2.1, HZ.out.2.2.1, HZ.out.2.2.2.1, HZ.out.2.2.2.2⟩
        case measure => simp [intOf]; omega
      | true =>
        obtain ⟨q1, q2, q3, q4⟩ := Dt.right_iff.1 HX.out.2.2.2.2.2.2.1
        have hki : i64in d.r := by unfold i64in; omega
        have hZ1 := HX.out.1.below H1.out
        have hlr : ∀ W, QZ wr.heap.size d (w.heap.size + 1) (Z.map RZ.raw) W → (Instr.lookup 80 (.map (some (w.heap.size + 1))) (.int .i64 d.r) false).run Try.prog W = .ok (.slice A2 ls c2) W := fun W h => by
          have := h.2.look1_run (x := d.r) hki
          rw [← HLK.out.1]
          exact this
        have hS0 : QZ wr.heap.size d (w.heap.size + 1) (Z.map RZ.raw) w1.drew := ⟨hq1.drew, hZ1.m⟩
        have f0 : ∀ W, QZ wr.heap.size d (w.heap.size + 1) (Z.map RZ.raw) W → W.cell? ⟨wr.heap.size, 0, none⟩ = some (.int .i64 d.r) := fun W h => h.1.c 0 rfl
        have f1 : ∀ W, QZ wr.heap.size d (w.heap.size + 1) (Z.map RZ.raw) W → W.cell? ⟨wr.heap.size, 1, none⟩ = some (.int .i64 d.q) := fun W h => h.1.c 1 rfl
        have HZ := Lib.hid (And.intro hZ1 hq1)
        have hlen2 : ls ≤ 100000 := HLK.out.2.2.2.2.2.2
        clear hq1 q1 q2 q3 q4 hZ1
        go_wp2_with fail
        refine bstartE (QZ wr.heap.size d (w.heap.size + 1) (Z.map RZ.raw)) 11 (by kernel_rfl) ?_
        refine btakeE 0 [] (oi := _) (v := ?_) (by simp only [getElem?_toArray, getElem?_cons_zero]; rfl) (by kernel_rfl) (by exact fun _ _ _ h => h) (by first | assumption | exact KB.refl _) (.inl ⟨by rfl, fun W hW => ?_⟩) ?_; rotate_left
        · (go_simp; first | done | with_reducible rfl)
        try simp only [Act.put, List.setIfInBounds_toArray, List.set_cons_zero, List.set_cons_succ]
        refine btakeE 1 [] (oi := _) (v := ?_) (by simp only [getElem?_toArray, getElem?_cons_succ, getElem?_cons_zero]; rfl) (by kernel_rfl) (by exact fun _ _ _ h => h) (by first | assumption | exact KB.refl _) (.inl ⟨by rfl, fun W hW => ?_⟩) ?_; rotate_left
        · (go_simp; first | done | with_reducible rfl)
        try simp only [Act.put, List.setIfInBounds_toArray, List.set_cons_zero, List.set_cons_succ]
        refine btakeE 2 [] (oi := _) (v := ?_) (by simp only [getElem?_toArray, getElem?_cons_succ, getElem?_cons_zero]; rfl) (by kernel_rfl) (by exact fun _ _ _ h => h) (by first | assumption | exact KB.refl _) (.inl ⟨by rfl, fun W hW => ?_⟩) ?_; rotate_left
        · (go_simp; first | done | with_reducible rfl)
        try simp only [Act.put, List.setIfInBounds_toArray, List.set_cons_zero, List.set_cons_succ]
        refine btakeE 3 [] (oi := _) (v := ?_) (by simp only [getElem?_toArray, getElem?_cons_succ, getElem?_cons_zero]; rfl) (by kernel_rfl) (by exact fun _ _ _ h => h) (by first | assumption | exact KB.refl _) (.inl ⟨by rfl, fun W hW => ?_⟩) ?_; rotate_left
        · (go_simp; first | done | with_reducible rfl)
        try simp only [Act.put, List.setIfInBounds_toArray, List.set_cons_zero, List.set_cons_succ]
        refine btakeE 4 [] (oi := _) (v := ?_) (by simp only [getElem?_toArray, getElem?_cons_succ, getElem?_cons_zero]; rfl) (by kernel_rfl) (by exact fun _ _ _ h => h) (by first | assumption | exact KB.refl _) (.inl ⟨by rfl, fun W hW => ?_⟩) ?_; rotate_left
        · (go_simp; first | done | with_reducible rfl)
        try simp only [Act.put, List.setIfInBounds_toArray, List.set_cons_zero, List.set_cons_succ]
        refine btakeE 5 [] (oi := _) (v := ?_) (by simp only [getElem?_toArray, getElem?_cons_succ, getElem?_cons_zero]; rfl) (by kernel_rfl) (by exact fun _ _ _ h => h) (by first | assumption | exact KB.refl _) (.inl ⟨by rfl, fun W hW => ?_⟩) ?_; rotate_left
        · (go_simp; first | done | with_reducible rfl)
        try simp only [Act.put, List.setIfInBounds_toArray, List.set_cons_zero, List.set_cons_succ]
        refine btakeE 6 [] (oi := _) (v := ?_) (by simp only [getElem?_toArray, getElem?_cons_succ, getElem?_cons_zero]; rfl) (by kernel_rfl) (by exact fun _ _ _ h => h) (by first | assumption | exact KB.refl _) (.inl ⟨by rfl, fun W hW => ?_⟩) ?_; rotate_left
        · (go_simp; first | done | with_reducible rfl)
        try simp only [Act.put, List.setIfInBounds_toArray, List.set_cons_zero, List.set_cons_succ]
        refine btakeE 7 [] (oi := _) (v := ?_) (by simp only [getElem?_toArray, getElem?_cons_succ, getElem?_cons_zero]; rfl) (by kernel_rfl) (by exact fun _ _ _ h => h) (by first | assumption | exact KB.refl _) (.inl ⟨by rfl, fun W hW => ?_⟩) ?_; rotate_left
        · (go_simp; first | done | with_reducible rfl)
        try simp only [Act.put, List.setIfInBounds_toArray, List.set_cons_zero, List.set_cons_succ]
        refine btakeE 8 [] (oi := _) (v := ?_) (by simp only [getElem?_toArray, getElem?_cons_succ, getElem?_cons_zero]; rfl) (by kernel_rfl) (by exact fun _ _ _ h => h) (by first | assumption | exact KB.refl _) (.inl ⟨by rfl, fun W hW => ?_⟩) ?_; rotate_left
        · (go_simp; first | done | with_reducible rfl)
        try simp only [Act.put, List.setIfInBounds_toArray, List.set_cons_zero, List.set_cons_succ]
        -- 9: Op.buildSlice 81 1 #[(0, Operand.tmp 26)]
        refine bopE 9 (o := _) (by simp only [getElem?_toArray, getElem?_cons_succ, getElem?_cons_zero]; rfl) (by kernel_rfl) (by rfl) (fun K hK => ?_)
        go_simp
        have hkb : QZ wr.heap.size d (w.heap.size + 1) (Z.map RZ.raw) (w1.alloc (.cells #[.int .i64 d.q] 2)).drew := ⟨(HZ.out.2.below (boxZ w1 d.q)).drew, (HZ.out.1.m.below (boxZ w1 d.q)).drew⟩
        refine hK.out _ _ hkb ?_; clear hK K
        try simp only [Act.put, List.setIfInBounds_toArray, List.set_cons_zero, List.set_cons_succ]
        -- 10: Op.call { callee := Callee.builtin Builtin.append, args := #[Operand.tmp 24, Operand.tmp 27], argTypes := #[81, 81] }
        refine bopE 10 (o := _) (by simp only [getElem?_toArray, getElem?_cons_succ, getElem?_cons_zero]; rfl) (by kernel_rfl) (by rfl) (fun K hK => ?_)
        have hZ2 := HZ.out.1.below (boxZ w1 d.q)
        have hownA : OwnZ (w1.alloc (.cells #[.int .i64 d.q] 2)).drew (w.heap.size + 2) (.slice A2 ls c2) sq := (HLK.out.2.1.below (HBX.out.trans (H1.out.mono HBX.out.size))).below (boxZ w1 d.q).drew
        refine wp_appZ rfl hownA (B := (w1.alloc (.cells #[.int .i64 d.q] 2)).heap.size) (k := [d.q]) (zcell w1 d.q) rfl rfl rfl (by rw [List.length_singleton, HLK.out.2.2.2.2.2.1]; omega) (by have := HX.out.2.2.2.2.2.2.2; have := H1.out.size; simp; omega) ?_
        intro v4 w4 hown4 hg4d hat4
        have hg4 : (w1.alloc (.cells #[.int .i64 d.q] 2)).grownBy w4 (Value.slice A2 ls c2).ownBlock := grownT (grownB (Below.refl _ _).drew) hg4d
        clear hg4d
        obtain ⟨A4, c4, rfl, _⟩ := hown4.form
        have hgr := HLK.out.2.2.2.1
        have hkb : QZ wr.heap.size d (w.heap.size + 1) (Z.map RZ.raw) w4 := ⟨(HZ.out.2.below (boxZ w1 d.q)).grown hg4 (fun e => by have := hgr _ e; omega), hZ2.mapAt hg4 (fun x e => (hgr x e).1)⟩
        have hB4 : Below w.heap.size w w4 := ((HX.out.2.2.2.1.trans (H1.out.mono HX.out.2.2.2.1.size)).trans ((boxZ w1 d.q).mono (Nat.le_trans HX.out.2.2.2.1.size H1.out.size))).grown hg4 (Nat.le_trans HX.out.2.2.2.1.size (Nat.le_trans H1.out.size (boxZ w1 d.q).size)) (fun x e => by have := (hgr x e).1; omega)
        have h04 : At w4 w.heap.size [.slice none 0 0] := ((HX.out.2.2.1.below H1.out).below (boxZ w1 d.q)).grown hg4 (fun e => by have := (hgr _ e).1; omega)
        have hs4 : w.heap.size + 2 ≤ w4.heap.size := by have h1 := HX.out.2.2.2.2.2.2.2; have h2 := H1.out.size; have h3 := (boxZ w1 d.q).size; have h4 : (w1.alloc (.cells #[.int .i64 d.q] 2)).heap.size ≤ w4.heap.size := hg4.size; omega
        obtain ⟨n4, hn4⟩ : ∃ m, (sq ++ [d.q]).length = m := ⟨_, rfl⟩
        rw [hn4] at hown4 hat4
        have hg4' := hg4
        have H4 := Lib.hid (And.intro hown4 (And.intro hg4' (And.intro hat4 (And.intro hB4 (And.intro h04 (And.intro hs4 (And.intro hn4 hkb)))))))
        clear hown4 hg4 hg4' hat4 hB4 h04 hs4 hownA hgr
        rw [hn4]
        clear hn4
        refine hK.out _ _ hkb ?_; clear hK K
        try simp only [Act.put, List.setIfInBounds_toArray, List.set_cons_zero, List.set_cons_succ]
        -- 11: Op.mapUpdate 80 (Operand.tmp 18) (Operand.tmp 20) (Operand.tmp 28)
        refine blastE 11 (o := _) (by simp only [getElem?_toArray, getElem?_cons_succ, getElem?_cons_zero]; rfl) (by kernel_rfl) (by rfl) (by rfl) (fun K hK => ?_)
        have hlz := HZ.out.1.len
        refine wp_mput rfl H4.out.2.2.2.2.2.2.2.2 (by rw [List.length_map]; simp only [maxLen]; omega) rfl (c := d.r) rfl hki (d := ⟨A4, n4, c4⟩) rfl ?_
        intro w5 h51 h52
        have hdr2 := (Dt.right_iff.1 HX.out.2.2.2.2.2.2.1)
        have hput : OZ w5 (w.heap.size + 2) (w.heap.size + 1) (putZ Z ⟨d.r, A4, c4, sq ++ [d.q]⟩) := by
          have hz := HZ.out.1.below (boxZ w1 d.q)
          have e1 := HLK.out.2.2.2.2.1
          have e2 := HLK.out.2.2.2.2.2.1
          have e4 := H4.out.2.2.2.2.2.2.1
          refine hz.put (r := d.r) (A := A2) (A' := A4) (c := c2) (c' := c4) (l := sq ++ [d.q]) ⟨hdr2.1, hdr2.2.1⟩ ?_ ?_ ?_ ?_ ?_ ?_ h52
          · rw [e1, e2]; exact HLK.out.1
          · rw [e1, e2]; exact HLK.out.2.2.1
          · rw [e4]; exact H4.out.1
          · rw [e1, e2]; exact H4.out.2.1
          · rw [e4, e1, e2]; exact H4.out.2.2.1
          · rw [e4]; exact h51
        have hseq : ∀ r, seqZ (putZ Z ⟨d.r, A4, c4, sq ++ [d.q]⟩) r = seqsOf (l.take (k + 1)) r := fun r => by
          rw [seq_putZ, seqsOf_take HX.out.2.2.2.2.2.1]
          dsimp only
          by_cases hr : r = d.r
          · rw [if_pos hr, if_pos ⟨HX.out.2.2.2.2.2.2.1, hr.symm⟩, ← HX.out.2.1, hr, HLK.out.2.2.2.2.1]
          · rw [if_neg hr, if_neg (fun e => hr e.2.symm)]; exact HX.out.2.1 r
        have hb5 : Below w.heap.size w w5 := H4.out.2.2.2.1.grown h52.grown H4.out.2.2.2.1.size (fun g e => by have := Option.some.inj e; omega)
        have h05 : At w5 w.heap.size [.slice none 0 0] := H4.out.2.2.2.2.1.grown h52.grown (fun e => by have := Option.some.inj e; omega)
        have H5 := Lib.hid (And.intro hput (And.intro hseq (And.intro h05 (And.intro hb5 (Nat.le_trans H4.out.2.2.2.2.2.1 h52.grown.size)))))
        clear hput hseq h05 hb5 h51 h52
        refine hK.out _ _ ?_; clear hK K
        try simp only [Act.put]
        refine bdoneE (by kernel_rfl) ?_
        go_wp2_with fail
        go_roundw
        case rel => exact ⟨k + 1, _, by omega, by go_num, H5.out.1, H5.out.2.1, H5.out.2.2.1, H5.out.2.2.2.1, H5.out.2.2.2.2⟩
        case measure => simp [intOf]; omega
    · obtain rfl : k = n := by omega
      have hd1 : decide ((k : Int) < (k : Int)) = false := by rw [decide_eq_false_iff_not]; omega
      obtain ⟨wq, rfl⟩ : ∃ wq : World, wq = wr := ⟨_, rfl⟩
      have hqf : ∀ r, seqZ Z r = seqsOf l r := fun r => by rw [hq, HN.out, List.take_length]
      have hba := balloc (Below.refl wq.heap.size wq) (.map #[] 0)
      have hmap := hZ.m.below hba
      have hall := MS.made wq
      have hD0 : Done [] Z ((Z.map RZ.raw).map (·.1)) := fun r hr => by rw [seqZ_out hr]; rfl
      have hlz : ∀ r, (seqZ Z r).length ≤ 100000 := fun r => by
        rw [hqf]
        unfold seqsOf
        rw [List.length_map]
        refine Nat.le_trans (List.length_filter_le _ _) ?_
        have := HN.out
        omega
      have HZ := Lib.hid (And.intro hZ (And.intro hqf (And.intro h0 (And.intro hbel (And.intro hall (And.intro hD0 (And.intro hlz hsz)))))))
      have hsa : (wq.alloc (.map #[] 0)).heap.size = wq.heap.size + 1 := by simp
      have hit : wq.heap.size < (wq.alloc (.map #[] 0)).heap.size := by omega
      clear hsa
      clear hZ hq h0 hbel hall hqf hD0 hs hsz hlz
      go_wp2_with (first
        | (at_range; refine mrange rfl rfl hmap rfl ?_; intro w0 hrg0 hg0 hs0)
        | go_in)
      go_frame
      have hba0 : Below wq.heap.size wq w0 := hba.grown hg0 hba.size (fun j e => by cases e)
      have HA0 := Lib.hid (And.intro (HZ.out.2.2.2.2.1.below (show Below (wq.alloc (.map #[] 0)).heap.size (wq.alloc (.map #[] 0)) w0 from (Below.refl _ _).grown hg0 (Nat.le_refl _) (fun j e => by cases e))) hba0)
      clear hmap hba hba0 hg0 hs0
      generalize (wq.alloc (.map #[] 0)).heap.size = it at *
      go_loopw [33] (fun _ wr => ∃ (rem : List Int) (T : List RA), RangeIs MZ wr (w.heap.size + 1) it (Z.map RZ.raw) rem ∧ MS wr wq.heap.size T ∧ Done T Z rem ∧ Below wq.heap.size wq wr) (fun _ wr => wr.rangeLeft (w.heap.size + 1) it)
      case atStart => exact ⟨_, [], hrg0, HA0.out.1, HZ.out.2.2.2.2.2.1, HA0.out.2⟩
      case round =>
        clear hrg0 HA0
        obtain ⟨rem, T, hrg, hT, hD, hbz⟩ := hrel
        have hszw := HZ.out.2.2.2.2.2.2.2
        go_wp2_with (first
          | (at_next; refine mnext rfl rfl hrg rfl ?_ ?_)
          | go_in)
        · intro hrem
          have hTf : ∀ r, partV (T.map RA.p) r = ofS (seqsOf l r) := fun r => by rw [hD r (by rw [hrem]; simp), HZ.out.2.1]
          have hro := rows_own wr wq.heap.size T hT (fun r => by
            rw [hTf, ← HZ.out.2.1]
            have := ofS_len (seqZ Z r)
            have := HZ.out.2.2.2.2.2.2.1 r
            omega)
          rw [show (fun r => partV (T.map RA.p) r) = fun r => ofS (seqsOf l r) from funext hTf] at hro
          have HO := Lib.hid hro
          have HB := Lib.hid (HZ.out.2.2.2.1.trans (hbz.mono HZ.out.2.2.2.1.size))
          have HE := Lib.hid (HZ.out.2.2.1.below hbz)
          clear hrg hT hD hbz hTf hro hrem
          go_wp2_with fail
          refine HO.out.mono ?_
          rintro e w8 ⟨A8, c8, R8, rfl, hvo8, hR8, hb8⟩
          have d2 := HE.out.below hb8
          have z0 := d2.c 0 rfl
          have z1 := d2.f 0 rfl
          have hg2w : w.heap.size < wr.heap.size := HE.out.lt
          have hby := HB.out.trans (hb8.mono HB.out.size)
          have hvo9 := hvo8.kept (grownS w8 w.heap.size 0 (.slice A8 R8.length c8)) (by omega)
          have HW := Lib.hid (And.intro (d2.set 0 (.slice A8 R8.length c8) (by simp)) (And.intro (hby.setCell (Nat.le_refl _) (p := ⟨w.heap.size, 0, none⟩) (.slice A8 R8.length c8)) hvo9))
          clear d2 hb8 hby hvo8 hvo9
          go_wp2_with fail
          exact bodyPost_ret (results_vec rfl _ rfl HW.out.1) rfl ⟨A8, c8, R8, rfl, HW.out.2.2.lower (by omega), hR8, HW.out.2.1⟩
        · intro kc d w1 hc _ hlc hrg1 hg1 hs1 hen hlt1
          obtain ⟨A3, n3, c3⟩ := d
          replace hen : (Instr.entry (.pointer (some ⟨it, 0, none⟩))).run Try.prog w1 = .ok (.tuple #[.int .i64 kc, .slice A3 n3 c3]) w1 := hen
          have hbz1 : Below wq.heap.size wq w1 := hbz.grown hg1 hbz.size (fun j e => by have := Option.some.inj e; omega)
          have hT1 : MS w1 wq.heap.size T := hT.grownI hg1 hrg.walkV (by omega)
          obtain ⟨k1, k2, k3, k4⟩ := (HZ.out.1.below hbz1).at_ hlc
          dsimp only at k1 k2
          have HO := Lib.hid (Of_any w1 A3 n3 c3 (seqZ Z kc) k2 k1 (by rw [k1]; have := HZ.out.2.2.2.2.2.2.1 kc; omega))
          have hki : i64in kc := by unfold i64in; omega
          have HR := Lib.hid (And.intro hrg1 (And.intro hT1 (And.intro hD (And.intro hbz1 (And.intro hlt1 (hrg.nodup))))))
          clear hrg hT hD hbz hrg1 hT1 hbz1 k1 k2 hlc hc hg1 hlt1 hs1
          go_wp2_with fail
          refine HO.out.mono ?_
          rintro e w2 ⟨A4, c4, rfl, hs4, hl4, hc4, hb4⟩
          have hT2 := HR.out.2.1.below hb4
          have HQ := Lib.hid (And.intro hb4 (And.intro hT2 (show RSt w2 ⟨kc, A4, c4, ofS (seqZ Z kc)⟩ from ⟨hs4, hl4, hc4⟩)))
          have hlen := hT2.len
          clear hT2 hb4 hs4 hl4 hc4
          go_wp2_with (refine mput rfl rfl HQ.out.2.1.m ?_ rfl (c := kc) rfl hki (d := ⟨A4, (ofS (seqZ Z kc)).length, c4⟩) rfl ?_)
          · rw [List.length_map]; simp only [maxLen]; omega
          · intro w3 h31 h32
            have hT3 := HQ.out.2.1.put ⟨kc, A4, c4, ofS (seqZ Z kc)⟩ HQ.out.2.2 ⟨k3, k4⟩ h31 h32
            have hb3 : Below wq.heap.size wq w3 := (HR.out.2.2.2.1.trans (HQ.out.1.mono HR.out.2.2.2.1.size)).grown h32.grown (Nat.le_trans HR.out.2.2.2.1.size HQ.out.1.size) (fun g e => by have := Option.some.inj e; omega)
            have r2 := HR.out.1.kept (grownB (row := none) HQ.out.1) (by simp) (by simp)
            have r3 := r2.kept h32.grown (fun e => by have := Option.some.inj e; omega) (fun e => by have := Option.some.inj e; omega)
            have m2 := HR.out.1.left_kept (grownB (row := none) HQ.out.1) (by simp) (by simp)
            have m3 := r2.left_kept h32.grown (fun e => by have := Option.some.inj e; omega) (fun e => by have := Option.some.inj e; omega)
            have hD3 : Done (putR T ⟨kc, A4, c4, ofS (seqZ Z kc)⟩) Z (rem.erase kc) := fun r hr => by
              rw [part_put]
              dsimp only
              by_cases e : r = kc
              · rw [if_pos e, e]
              · rw [if_neg e]
                refine HR.out.2.2.1 r fun hm => hr ?_
                exact (HR.out.2.2.2.2.2.mem_erase_iff).2 ⟨e, hm⟩
            have HW := Lib.hid (And.intro r3 (And.intro hT3 (And.intro hD3 (And.intro hb3 (show w3.rangeLeft (w.heap.size + 1) it < wr.rangeLeft (w.heap.size + 1) it by rw [m3, m2]; exact HR.out.2.2.2.2.1)))))
            clear r2 r3 m2 m3 hT3 hD3 hb3 h31 h32
            go_wp2_with fail
            go_roundw
            case rel => exact ⟨_, _, HW.out.1, HW.out.2.1, HW.out.2.2.1, HW.out.2.2.2.1⟩
            case measure => exact HW.out.2.2.2.2
end Go.Proofs.Ytaflikgdlkaefaa
/- Vectors: vector.Add. -/
namespace Go.Proofs.Ytaflikgdlkaefaa
open Go.RowKit Go.Maps Go.Proofs.Ytaflikgdlkaefaa.Pl Go.Proofs.Ytaflikgdlkaefaa.Sp Go.Proofs.Ytaflikgdlkaefaa.Ve
set_option maxRecDepth 20000

theorem Sl.oneD (w : World) (d : Dt.D2) : Sl (w.alloc (.cells #[.int .i64 d.r, .int .i64 d.q] 32)) (w.alloc (.cells #[.int .i64 d.r, .int .i64 d.q] 32)).heap.size (some ⟨w.heap.size, 0, none⟩) (dv [d]) :=
  (Sl.new w 32 #[.int .i64 d.r, .int .i64 d.q] (0, 0)).more (by simp)
theorem boxD (w : World) (d : Dt.D2) : Below w.heap.size w (w.alloc (.cells #[.int .i64 d.r, .int .i64 d.q] 32)) := balloc (Below.refl _ _) _
set_option maxRecDepth 100000 in
set_option maxHeartbeats 6400000 in
theorem VAdd_own (w : World) (A : Option Addr) (n c : Nat) (R : List RA) (V : VL) (hv : VS w A n c R V) (hl : n ≤ 1000000) (hm : Lim 10000 V) (d : Dt.D2) :
    Calls Try.prog 26 #[.agg #[.slice A n c], d.v] w (PAns w (addV V d)) := by
  have hb0 : Below w.heap.size w (((w.alloc (.cells #[.slice A n c] 27)).alloc (.cells #[.int .i64 d.r, .int .i64 d.q] 32)).alloc (.cells #[.slice none 0 0] 27)) := balloc (balloc (balloc (Below.refl _ _) _) _) _
  have a0 : At (((w.alloc (.cells #[.slice A n c] 27)).alloc (.cells #[.int .i64 d.r, .int .i64 d.q] 32)).alloc (.cells #[.slice none 0 0] 27)) w.heap.size [.slice A n c] := ((At.new w 27 #[.slice A n c]).alloc _).alloc _
  have a1 : At (((w.alloc (.cells #[.slice A n c] 27)).alloc (.cells #[.int .i64 d.r, .int .i64 d.q] 32)).alloc (.cells #[.slice none 0 0] 27)) (w.heap.size + 1) [.int .i64 d.r, .int .i64 d.q] := by
    have := (At.new (w.alloc (.cells #[.slice A n c] 27)) 32 #[.int .i64 d.r, .int .i64 d.q]).alloc (.cells #[.slice none 0 0] 27)
    rw [World.size_alloc] at this
    exact this
  have a2 : At (((w.alloc (.cells #[.slice A n c] 27)).alloc (.cells #[.int .i64 d.r, .int .i64 d.q] 32)).alloc (.cells #[.slice none 0 0] 27)) (w.heap.size + 1 + 1) [.slice none 0 0] := by
    have := At.new ((w.alloc (.cells #[.slice A n c] 27)).alloc (.cells #[.int .i64 d.r, .int .i64 d.q] 32)) 27 #[.slice none 0 0]
    rw [World.size_alloc, World.size_alloc] at this
    exact this
  obtain ⟨p, hp⟩ : ∃ p, d.right = p := ⟨_, rfl⟩
  have hdr := fun W => DRight_any W d
  unfold Dt.D2.v at hdr
  rw [hp] at hdr
  have HD := Lib.hid hdr
  have HV := Lib.hid (And.intro hv (And.intro hl (And.intro hm hp)))
  clear hv hl hm hp hdr
  unfold Dt.D2.v
  have z10 := a1.c 0 rfl
  have z11 := a1.c 1 rfl
  go_enter Try.func26, Try.ntmps26
  go_wp2_with fail
  generalize ((w.alloc (.cells #[.slice A n c] 27)).alloc (.cells #[.int .i64 d.r, .int .i64 d.q] 32)).alloc (.cells #[.slice none 0 0] 27) = W at *
  refine (HD.out W).mono ?_
  rintro e w1 ⟨rfl, h1⟩
  have b0 := a0.below h1
  have b1 := a1.below h1
  have b2 := a2.below h1
  have hbz := hb0.trans (h1.mono hb0.size)
  clear h1 a0 a1 a2 hb0 z10 z11
  cases p with
  | false =>
    have HF := Lib.hid (show addV V d = [] by rw [addV, if_neg (by rw [HV.out.2.2.2]; simp)])
    have z0 := b2.c 0 rfl
    have z1 := b2.f 0 rfl
    have HZ := Lib.hid (And.intro (b2.set 0 (.slice none 0 0) (by simp)) (hbz.setCell (show w.heap.size ≤ w.heap.size + 2 by omega) (p := ⟨w.heap.size + 1 + 1, 0, none⟩) (.slice none 0 0)))
    clear b0 b1 b2
    go_wp2_with fail
    exact bodyPost_ret (results_vec rfl _ rfl HZ.out.1) rfl (by rw [HF.out]; exact PAns.nil HZ.out.2)
  | true =>
    have HF := Lib.hid (show addV V d = joinV V (ofV [d]) by rw [addV, if_pos HV.out.2.2.2])
    have e0 := b0.e 0 rfl
    have e1 := b1.e 0 rfl
    have e2 := b1.e 1 rfl
    have hg2 := b2.lt
    have HB := Lib.hid (And.intro b2 hbz)
    clear b0 b1 b2 hbz
    go_wp2_with fail
    refine bstartE (KB w1.heap) 5 (by kernel_rfl) ?_
    refine btakeE 0 [] (oi := _) (v := ?_) (by simp only [getElem?_toArray, getElem?_cons_zero]; rfl) (by kernel_rfl) (by exact fun _ _ _ h => h) (by first | assumption | exact KB.refl _) (.inl ⟨by rfl, fun W hW => ?_⟩) ?_; rotate_left
    · (go_simp; first | done | with_reducible rfl)
    try simp only [Act.put, List.setIfInBounds_toArray, List.set_cons_zero, List.set_cons_succ]
    refine btakeE 1 [] (oi := _) (v := ?_) (by simp only [getElem?_toArray, getElem?_cons_succ, getElem?_cons_zero]; rfl) (by kernel_rfl) (by exact fun _ _ _ h => h) (by first | assumption | exact KB.refl _) (.inl ⟨by rfl, fun W hW => ?_⟩) ?_; rotate_left
    · (go_simp; first | done | with_reducible rfl)
    try simp only [Act.put, List.setIfInBounds_toArray, List.set_cons_zero, List.set_cons_succ]
    -- 2: Op.buildSlice 53 1 #[(0, Operand.tmp 10)]
    refine bopE 2 (o := _) (by simp only [getElem?_toArray, getElem?_cons_succ, getElem?_cons_zero]; rfl) (by kernel_rfl) (by rfl) (fun K hK => ?_)
    go_simp
    have hkb : KB w1.heap (w1.drew.alloc (.cells #[.int .i64 d.r, .int .i64 d.q] 32)) := KB.of ((Below.refl _ w1).drew.trans (boxD w1.drew d))
    refine hK.out _ _ hkb ?_; clear hK K
    try simp only [Act.put, List.setIfInBounds_toArray, List.set_cons_zero, List.set_cons_succ]
    -- 3: newsreel/vector.Of
    refine bopE 3 (o := _) (by simp only [getElem?_toArray, getElem?_cons_succ, getElem?_cons_zero]; rfl) (by kernel_rfl) (by rfl) (fun K hK => ?_)
    go_simp
    have hbd : Below w1.heap.size w1 (w1.alloc (.cells #[.int .i64 d.r, .int .i64 d.q] 32)).drew := (boxD w1 d).drew
    refine (VOf_own _ _ 1 1 [d] (show Sl (w1.alloc (.cells #[.int .i64 d.r, .int .i64 d.q] 32)).drew _ (some ⟨w1.heap.size, 0, none⟩) (dv [d]) from (Sl.oneD w1 d).drew) rfl (by omega)).mono ?_
    rintro e w3 ⟨A3, c3, R3, rfl, hv3, hR3, hb3⟩
    have hb13 : Below w1.heap.size w1 w3 := hbd.trans (hb3.mono hbd.size)
    have hkb : KB w1.heap w3 := KB.of hb13
    obtain ⟨A4, c4, e4, hvs⟩ := hv3.vs
    injection e4 with e4a e4b e4c
    clear e4b
    subst e4a
    subst e4c
    have H3 := Lib.hid (And.intro hb13 (show VS w3 A3 R3.length c3 R3 (ofV [d]) by rw [← hR3]; exact hvs))
    obtain ⟨n3, hn3⟩ : ∃ m, R3.length = m := ⟨_, rfl⟩
    rw [hn3] at H3
    have hn364 : n3 ≤ 64 := by rw [← H3.out.2.len]; exact ofV_length _
    have HN3 := Lib.hid hn364
    rw [hn3]
    clear hv3 hR3 hb3 hb13 hvs hn3 hbd hn364
    refine hK.out _ _ hkb ?_; clear hK K
    try simp only [Act.put, List.setIfInBounds_toArray, List.set_cons_zero, List.set_cons_succ]
    -- 4: newsreel/vector.Join
    refine bopE 4 (o := _) (by simp only [getElem?_toArray, getElem?_cons_succ, getElem?_cons_zero]; rfl) (by kernel_rfl) (by rfl) (fun K hK => ?_)
    go_simp
    have hbw3 := HB.out.2.trans (H3.out.1.mono HB.out.2.size)
    refine (VJoin_own w3 A A3 n n3 c c3 R R3 V (ofV [d]) (HV.out.1.below hbw3) H3.out.2 HV.out.2.1 (by have := HN3.out; omega) HV.out.2.2.1 (ofV_lim.mono (by simp))).mono ?_
    rintro e w5 ⟨A5, c5, R5, rfl, hv5, hR5, hb5⟩
    have hb15 := H3.out.1.trans (hb5.mono H3.out.1.size)
    have hkb : KB w1.heap w5 := KB.of hb15
    have d2 := HB.out.1.below hb15
    have zc := d2.c 0 rfl
    have zf := d2.f 0 rfl
    obtain ⟨n5, hn5⟩ : ∃ m, R5.length = m := ⟨_, rfl⟩
    rw [hn5] at hv5
    have H5 := Lib.hid (And.intro d2 (And.intro (HB.out.2.trans (hb15.mono HB.out.2.size)) (And.intro hv5 (And.intro hR5 (And.intro hn5 (Nat.le_trans HB.out.2.size H3.out.1.size))))))
    have hg25 : w.heap.size + 2 < w3.heap.size := Nat.lt_of_lt_of_le HB.out.1.lt H3.out.1.size
    clear hv5 hR5 hb5 hb15 d2 hbw3
    rw [hn5]
    clear hn5
    refine hK.out _ _ hkb ?_; clear hK K
    try simp only [Act.put, List.setIfInBounds_toArray, List.set_cons_zero, List.set_cons_succ]
    -- 5: Op.store 27 (Operand.tmp 4) (Operand.tmp 13)
    refine blastE 5 (o := _) (by simp only [getElem?_toArray, getElem?_cons_succ, getElem?_cons_zero]; rfl) (by kernel_rfl) (by rfl) (by rfl) (fun K hK => ?_)
    go_simp
    skip
    refine hK.out _ _ ?_; clear hK K
    try simp only [Act.put, List.setIfInBounds_toArray, List.set_cons_zero, List.set_cons_succ]
    refine bdoneE (by kernel_rfl) ?_
    have hvo9 := H5.out.2.2.1.kept (grownS w5 (w.heap.size + 1 + 1) 0 (.slice A5 n5 c5)) (by omega)
    have HZ := Lib.hid (And.intro (H5.out.1.set 0 (.slice A5 n5 c5) (by simp)) (And.intro (H5.out.2.1.setCell (show w.heap.size ≤ w.heap.size + 2 by omega) (p := ⟨w.heap.size + 1 + 1, 0, none⟩) (.slice A5 n5 c5)) hvo9))
    clear hvo9 zc zf
    go_wp2_with fail
    refine bodyPost_ret (results_vec rfl _ rfl HZ.out.1) rfl ⟨A5, c5, R5, by rw [H5.out.2.2.2.2.1], ?_, by rw [HF.out]; exact H5.out.2.2.2.1, HZ.out.2.1⟩
    rw [H5.out.2.2.2.2.1]
    exact HZ.out.2.2.lower (by omega)
end Go.Proofs.Ytaflikgdlkaefaa
/- Ranges: whether two rows are one. -/
namespace Go.Proofs.Ytaflikgdlkaefaa
open Go.RowKit Go.Proofs.Ytaflikgdlkaefaa.Pl Go.Proofs.Ytaflikgdlkaefaa.Sp
set_option maxRecDepth 20000

set_option maxRecDepth 100000 in
theorem SameR_any (w : World) {B B' : Nat} (A A' : Option Addr) (n n' c c' : Nat) (l m : List Rg) (hl : Sl w B A (rv l)) (hm : Sl w B' A' (rv m)) (h0 : n = l.length) (h1 : n' = m.length) (hn : n ≤ 1000000000) (hn' : n' ≤ 1000000000) (_ : B ≤ w.heap.size) (_ : B' ≤ w.heap.size) :
    Calls Try.prog 53 #[.slice A n c, .slice A' n' c'] w fun e w' => e = .returned (.bool (decide (l = m))) ∧ Below w.heap.size w w' := by
  by_cases hne : n = n'
  · subst hne
    have HN := Lib.hid (And.intro h0 h1)
    clear h0 h1
    go_enter Try.func53, Try.ntmps53
    go_wp2_with fail
    go_loopw [5] (fun x5 wr => ∃ k : Nat, k ≤ n ∧ x5 = .int .i64 (k : Int) ∧ l.take k = m.take k ∧ Below w.heap.size w wr) (fun x5 _ => n - (intOf x5).toNat)
    case atStart => exact ⟨0, by omega, rfl, rfl, Below.refl _ _⟩
    case round =>
      obtain ⟨k, hk, rfl, htk, hbel⟩ := hrel
      by_cases hlt : k < n
      · have hkl : k < l.length := by have := HN.out.1; omega
        have hkm : k < m.length := by have := HN.out.2; omega
        obtain ⟨b, o, rfl, hb1, hb2, c0, c1⟩ := rgAt hl hkl
        obtain ⟨b', o', rfl, hb3, hb4, d0, d1⟩ := rgAt hm hkm
        have HE := Lib.hid (And.intro (fun h : l[k]?.getD ⟨0, 0⟩ = m[k]?.getD ⟨0, 0⟩ => show l.take (k + 1) = m.take (k + 1) by
          rw [List.getElem?_eq_getElem hkl, List.getElem?_eq_getElem hkm, Option.getD_some, Option.getD_some] at h
          rw [List.take_succ_eq_append_getElem hkl, List.take_succ_eq_append_getElem hkm, htk, h]) (fun (h : ¬ l[k]?.getD ⟨0, 0⟩ = m[k]?.getD ⟨0, 0⟩) (e : l = m) => h (by rw [e])))
        generalize l[k]?.getD ⟨0, 0⟩ = x at *
        generalize m[k]?.getD ⟨0, 0⟩ = y at *
        have hd1 : decide ((k : Int) < (n : Int)) = true := by rw [decide_eq_true_eq]; omega
        obtain ⟨q, hq⟩ : ∃ q, decide (x = y) = q := ⟨_, rfl⟩
        have heq := fun W => ne2R W x y
        rw [hq] at heq
        unfold Rg.v at heq
        have HT := Lib.hid htk
        replace c0 := (hbel.cell hb2).trans c0
        replace c1 := (hbel.cell hb2).trans c1
        replace d0 := (hbel.cell hb4).trans d0
        replace d1 := (hbel.cell hb4).trans d1
        clear htk hl hm hkl hkm
        go_wp2_with fail
        have hb0 : (0 : Int) ≤ (k : Int) := by omega
        have hb1 : (k : Int) < (n : Int) := by omega
        have q0 := cellB c0
        have q1 := cellB c1
        have q2 := cellB d0
        have q3 := cellB d1
        refine bstart (by kernel_rfl) ?_
        refine btake 0 (oi := _) (v := ?_) (by simp only [List.getElem?_toArray, List.getElem?_cons_zero]; rfl) (by kernel_rfl) (by exact fun _ _ _ h => h) (by first | assumption | exact KB.refl _) (.inl ⟨by rfl, fun W hW => ?_⟩) ?_; rotate_left
        · (go_simp; first | done | with_reducible rfl)
        try simp only [Act.put, List.setIfInBounds_toArray, List.set_cons_zero, List.set_cons_succ]
        refine btake 1 (oi := _) (v := ?_) (by simp only [getElem?_toArray, getElem?_cons_succ, getElem?_cons_zero]; rfl) (by kernel_rfl) (by exact fun _ _ _ h => h) (by first | assumption | exact KB.refl _) (.inl ⟨by rfl, fun W hW => ?_⟩) ?_; rotate_left
        · (go_simp; first | done | with_reducible rfl)
        try simp only [Act.put, List.setIfInBounds_toArray, List.set_cons_zero, List.set_cons_succ]
        refine btake 2 (oi := _) (v := ?_) (by simp only [getElem?_toArray, getElem?_cons_succ, getElem?_cons_zero]; rfl) (by kernel_rfl) (by exact fun _ _ _ h => h) (by first | assumption | exact KB.refl _) (.inl ⟨by rfl, fun W hW => ?_⟩) ?_; rotate_left
        · (go_simp; first | done | with_reducible rfl)
        try simp only [Act.put, List.setIfInBounds_toArray, List.set_cons_zero, List.set_cons_succ]
        refine btake 3 (oi := _) (v := ?_) (by simp only [getElem?_toArray, getElem?_cons_succ, getElem?_cons_zero]; rfl) (by kernel_rfl) (by exact fun _ _ _ h => h) (by first | assumption | exact KB.refl _) (.inl ⟨by rfl, fun W hW => ?_⟩) ?_; rotate_left
        · (go_simp; first | done | with_reducible rfl)
        try simp only [Act.put, List.setIfInBounds_toArray, List.set_cons_zero, List.set_cons_succ]
        refine btake 4 (oi := _) (v := ?_) (by simp only [getElem?_toArray, getElem?_cons_succ, getElem?_cons_zero]; rfl) (by kernel_rfl) (by exact fun _ _ _ h => h) (by first | assumption | exact KB.refl _) (.inl ⟨by rfl, fun W hW => ?_⟩) ?_; rotate_left
        · (go_simp; first | done | with_reducible rfl)
        try simp only [Act.put, List.setIfInBounds_toArray, List.set_cons_zero, List.set_cons_succ]
        refine btake 5 (oi := _) (v := ?_) (by simp only [getElem?_toArray, getElem?_cons_succ, getElem?_cons_zero]; rfl) (by kernel_rfl) (by exact fun _ _ _ h => h) (by first | assumption | exact KB.refl _) (.inl ⟨by rfl, fun W hW => ?_⟩) ?_; rotate_left
        · (go_simp; first | done | with_reducible rfl)
        try simp only [Act.put, List.setIfInBounds_toArray, List.set_cons_zero, List.set_cons_succ]
        refine btake 6 (oi := _) (v := ?_) (by simp only [getElem?_toArray, getElem?_cons_succ, getElem?_cons_zero]; rfl) (by kernel_rfl) (by exact fun _ _ _ h => h) (by first | assumption | exact KB.refl _) (.inl ⟨by rfl, fun W hW => ?_⟩) ?_; rotate_left
        · (go_simp; first | done | with_reducible rfl)
        try simp only [Act.put, List.setIfInBounds_toArray, List.set_cons_zero, List.set_cons_succ]
        refine btake 7 (oi := _) (v := ?_) (by simp only [getElem?_toArray, getElem?_cons_succ, getElem?_cons_zero]; rfl) (by kernel_rfl) (by exact fun _ _ _ h => h) (by first | assumption | exact KB.refl _) (.inl ⟨by rfl, fun W hW => ?_⟩) ?_; rotate_left
        · (go_simp; first | done | with_reducible rfl)
        try simp only [Act.put, List.setIfInBounds_toArray, List.set_cons_zero, List.set_cons_succ]
        refine btake 8 (oi := _) (v := ?_) (by simp only [getElem?_toArray, getElem?_cons_succ, getElem?_cons_zero]; rfl) (by kernel_rfl) (by exact fun _ _ _ h => h) (by first | assumption | exact KB.refl _) (.inl ⟨by rfl, fun W hW => ?_⟩) ?_; rotate_left
        · (go_simp; first | done | with_reducible rfl)
        try simp only [Act.put, List.setIfInBounds_toArray, List.set_cons_zero, List.set_cons_succ]
        refine bdone (by kernel_rfl) ?_
        have hbd := hbel.drew
        clear q0 q1 q2 q3 c0 c1 d0 d1 heq hbel
        by_cases hxy : x = y
        · obtain rfl : q = true := by rw [← hq, decide_eq_true_eq]; exact hxy
          clear hq
          go_wp2_with fail
          go_roundw
          case rel => exact ⟨k + 1, hlt, by go_num, HE.out.1 hxy, hbd⟩
          case measure => simp [intOf]; omega
        · obtain rfl : q = false := by rw [← hq, decide_eq_false_iff_not]; exact hxy
          clear hq
          go_wp2_with fail
          go_ret
          exact ⟨ret_b (by rw [eq_comm, decide_eq_false_iff_not]; exact HE.out.2 hxy), hbd⟩
      · obtain rfl : k = n := by omega
        have HD := Lib.hid (show l = m by rw [← List.take_length (l := l), ← HN.out.1, htk, HN.out.2, List.take_length])
        have hd1 : decide ((k : Int) < (k : Int)) = false := by rw [decide_eq_false_iff_not]; omega
        clear htk
        go_wp2_with fail
        go_ret
        exact ⟨ret_b (by rw [eq_comm, decide_eq_true_eq]; exact HD.out), hbel⟩
  · go_enter Try.func53, Try.ntmps53
    go_wp2_with fail
    go_ret
    exact ⟨ret_b (by rw [eq_comm, decide_eq_false_iff_not]; rintro rfl; exact hne (by omega)), Below.refl _ _⟩
end Go.Proofs.Ytaflikgdlkaefaa
