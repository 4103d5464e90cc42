/- Checksums: what is sealed, and what is opened. -/
import Derived.Test.YtkgmbpbbgkjidaaCrcS
import Derived.Test.YtkgmbpbbgkjidaaNumFix
import Derived.Test.YtkgmbpbbgkjidaaReg
namespace Go.Proofs.Ytkgmbpbbgkjidaa
open Go.RowKit Go.Proofs.Ytkgmbpbbgkjidaa.Pc Go.Proofs.Ytkgmbpbbgkjidaa.Pl

def sealS (l : List UInt8) : List UInt8 := l ++ fixF (sum l).toNat 4
def openS (b : List UInt8) : Option (List UInt8) := if b.length < 4 then none else if big (b.drop (b.length - 4)) = (sum (b.take (b.length - 4))).toNat then some (b.take (b.length - 4)) else none

set_option maxRecDepth 100000 in
set_option maxHeartbeats 800000 in
theorem Seal_any (w : World) (A : Option Addr) (n c : Nat) (l : List UInt8) (hb : Sl w w.heap.size A (bv l)) (h0 : n = l.length) (hc : n ≤ c) (hm : c ≤ maxLen) (hl : l.length + 4 ≤ 140737488355328) :
    Calls Try.prog 34 #[.slice A n c] w (Fresh w (sealS l)) := by
  subst h0
  have hN := bv_lt (sum l)
  have hS : sum [l].flatten = sum l := by simp
  have hsl : sealS l = l ++ fixF (sum l).toNat 4 := rfl
  rw [hsl]
  generalize hs : (sum l).toNat = N at *
  go_enter Try.func34, Try.ntmps34
  go_wp2_with fail
  refine (Clone_any w _ A _ c l hb rfl (by omega)).mono ?_
  rintro e w1 ⟨A1, c1, rfl, h1, h2⟩
  have hM := Mat.one w1 25 (.slice A l.length c) l ⟨A, c, rfl, (hb.below h2).more h2.size, by omega, hm⟩
  go_wp2_with fail
  have hsum := Sum_any (w1.alloc (.cells #[.slice A l.length c] 25)) (some ⟨w1.heap.size, 0, none⟩) 1 1 [l] hM rfl (by simp [maxLen])
  rw [hS, hs] at hsum
  refine hsum.mono ?_
  clear hsum
  rintro e w2 ⟨rfl, h3⟩
  have h13 := bstep ((Below.refl _ _).alloc (Nat.le_refl _) (.cells #[.slice A l.length c] 25)) h3
  have hown2 := h1.below h13
  go_wp2_with fail
  refine (Fixed_lit _ N 4 (fixF N 4) (by omega) rfl).mono ?_
  rintro e w3 ⟨A3, c3, rfl, h5, h6⟩
  have hown3 := hown2.below h6
  have hs3 := Fresh.sl h5
  have hlen : (fixF N 4).length = 4 := fixF_len N 4
  have hw13 := bstep h2 (bstep h13 h6)
  generalize fixF N 4 = F at *
  go_wp2_with (at_builtin; refine app rfl rfl hown3 hs3.1 hlen.symm rfl rfl (by omega) (by have := hw13.size; omega) ?_; intro s4 w4 hown4 hg4 hat4)
  obtain ⟨A4, c4, rfl, _⟩ := hown4.form
  go_ret
  exact ⟨A4, c4, rfl, hown4, own_below hw13 hw13.size hown3 hg4⟩

set_option maxRecDepth 100000 in
set_option maxHeartbeats 800000 in
theorem RefSeal_any (w : World) (A : Option Addr) (n c : Nat) (l : List UInt8) (hb : Sl w w.heap.size A (bv l)) (h0 : n = l.length) (hc : n ≤ c) (hm : c ≤ maxLen) (hl : l.length + 4 ≤ 140737488355328) :
    Calls Try.prog 33 #[.slice A n c] w (Fresh w (sealS l)) := by
  subst h0
  have hN := bv_lt (sum l)
  have hS : sum [l].flatten = sum l := by simp
  have hsl : sealS l = l ++ fixF (sum l).toNat 4 := rfl
  rw [hsl]
  generalize hs : (sum l).toNat = N at *
  go_enter Try.func33, Try.ntmps33
  go_wp2_with (at_builtin; refine app rfl rfl (OwnB.nil w w.heap.size) hb rfl rfl rfl (by simp; omega) (Nat.le_refl _) ?_; intro s1 w1 h1 hg1 hat1)
  have h2 : Below w.heap.size w w1 := below_of_grown hg1 (by simp [Value.ownBlock]) (Nat.le_refl _)
  rw [List.nil_append] at h1
  clear hat1 hg1
  have hM := Mat.one w1 25 (.slice A l.length c) l ⟨A, c, rfl, (hb.below h2).more h2.size, by omega, hm⟩
  go_wp2_with fail
  have hsum := RefSum_any (w1.alloc (.cells #[.slice A l.length c] 25)) (some ⟨w1.heap.size, 0, none⟩) 1 1 [l] hM rfl (by simp [maxLen])
  rw [hS, hs] at hsum
  refine hsum.mono ?_
  clear hsum
  rintro e w2 ⟨rfl, h3⟩
  have h13 := bstep ((Below.refl _ _).alloc (Nat.le_refl _) (.cells #[.slice A l.length c] 25)) h3
  have hown2 := h1.below h13
  go_wp2_with fail
  refine (RefFixed_lit _ N 4 (fixF N 4) (by omega) rfl).mono ?_
  rintro e w3 ⟨A3, c3, rfl, h5, h6⟩
  have hown3 := hown2.below h6
  have hs3 := Fresh.sl h5
  have hlen : (fixF N 4).length = 4 := fixF_len N 4
  have hw13 := bstep h2 (bstep h13 h6)
  generalize fixF N 4 = F at *
  go_wp2_with (at_builtin; refine app rfl rfl hown3 hs3.1 hlen.symm rfl rfl (by omega) (by have := hw13.size; omega) ?_; intro s4 w4 hown4 hg4 hat4)
  obtain ⟨A4, c4, rfl, _⟩ := hown4.form
  go_ret
  exact ⟨A4, c4, rfl, hown4, own_below hw13 hw13.size hown3 hg4⟩

def OpenPost (w : World) (o : Option (List UInt8)) (e : Ending) (w' : World) : Prop :=
  match o with
  | none => e = .returned (.tuple #[.slice none 0 0, .bool false]) ∧ Below w.heap.size w w'
  | some k => ∃ A c, e = .returned (.tuple #[.slice A k.length c, .bool true]) ∧ OwnB w' w.heap.size (.slice A k.length c) k ∧ Below w.heap.size w w'

set_option maxRecDepth 100000 in
set_option maxHeartbeats 1600000 in
theorem Open_any (w : World) (A : Option Addr) (n c : Nat) (l : List UInt8) (hb : Sl w w.heap.size A (bv l)) (h0 : n = l.length) (hc : n ≤ c) (hm : c ≤ maxLen) (hlm : l.length ≤ 140737488355328) :
    Calls Try.prog 48 #[.slice A n c] w (OpenPost w (openS l)) := by
  subst h0
  have hm' : c ≤ 9223372036854775807 := by simpa [maxLen] using hm
  by_cases h4 : l.length < 4
  · have ho : openS l = none := by unfold openS; rw [if_pos h4]
    rw [ho]
    have d1 : decide (((l.length : Int) - 4) < 0) = true := by simp; omega
    go_enter Try.func48, Try.ntmps48
    go_wp2_with fail
    refine bstart (by kernel_rfl) ?_
    refine btake 0 (oi := _) (v := ?_) (by simp only [List.getElem?_toArray, List.getElem?_cons_zero]; rfl) (by kernel_rfl) (by exact fun _ _ _ h => h) (by first | assumption | exact KB.refl _) (.inl ⟨by rfl, fun W hW => ?_⟩) ?_; rotate_left
    · (go_simp; first | done | with_reducible rfl)
    try simp only [Act.put, List.setIfInBounds_toArray, List.set_cons_zero, List.set_cons_succ]
    refine btake 1 (oi := _) (v := ?_) (by simp only [List.getElem?_toArray, List.getElem?_cons_succ, List.getElem?_cons_zero]; rfl) (by kernel_rfl) (by exact fun _ _ _ h => h) (by first | assumption | exact KB.refl _) (.inl ⟨by rfl, fun W hW => ?_⟩) ?_; rotate_left
    · (go_simp; first | done | with_reducible rfl)
    try simp only [Act.put, List.setIfInBounds_toArray, List.set_cons_zero, List.set_cons_succ]
    refine btake 2 (oi := _) (v := ?_) (by simp only [List.getElem?_toArray, List.getElem?_cons_succ, List.getElem?_cons_zero]; rfl) (by kernel_rfl) (by exact fun _ _ _ h => h) (by first | assumption | exact KB.refl _) (.inl ⟨by rfl, fun W hW => ?_⟩) ?_; rotate_left
    · (go_simp; first | done | with_reducible rfl)
    try simp only [Act.put, List.setIfInBounds_toArray, List.set_cons_zero, List.set_cons_succ]
    refine btake 3 (oi := _) (v := undef) (by simp only [List.getElem?_toArray, List.getElem?_cons_succ, List.getElem?_cons_zero]; rfl) (by kernel_rfl) (by exact fun _ _ _ h => h) (by first | assumption | exact KB.refl _) (.inr ⟨by rfl, rfl⟩) ?_
    try simp only [Act.put, List.setIfInBounds_toArray, List.set_cons_zero, List.set_cons_succ]
    refine btake 4 (oi := _) (v := undef) (by simp only [List.getElem?_toArray, List.getElem?_cons_succ, List.getElem?_cons_zero]; rfl) (by kernel_rfl) (by exact fun _ _ _ h => h) (by first | assumption | exact KB.refl _) (.inr ⟨by rfl, rfl⟩) ?_
    try simp only [Act.put, List.setIfInBounds_toArray, List.set_cons_zero, List.set_cons_succ]
    refine btake 5 (oi := _) (v := undef) (by simp only [List.getElem?_toArray, List.getElem?_cons_succ, List.getElem?_cons_zero]; rfl) (by kernel_rfl) (by exact fun _ _ _ h => h) (by first | assumption | exact KB.refl _) (.inr ⟨by rfl, rfl⟩) ?_
    try simp only [Act.put, List.setIfInBounds_toArray, List.set_cons_zero, List.set_cons_succ]
    refine btake 6 (oi := _) (v := undef) (by simp only [List.getElem?_toArray, List.getElem?_cons_succ, List.getElem?_cons_zero]; rfl) (by kernel_rfl) (by exact fun _ _ _ h => h) (by first | assumption | exact KB.refl _) (.inr ⟨by rfl, rfl⟩) ?_
    try simp only [Act.put, List.setIfInBounds_toArray, List.set_cons_zero, List.set_cons_succ]
    refine btake 7 (oi := _) (v := undef) (by simp only [List.getElem?_toArray, List.getElem?_cons_succ, List.getElem?_cons_zero]; rfl) (by kernel_rfl) (by exact fun _ _ _ h => h) (by first | assumption | exact KB.refl _) (.inr ⟨by rfl, rfl⟩) ?_
    try simp only [Act.put, List.setIfInBounds_toArray, List.set_cons_zero, List.set_cons_succ]
    refine btake 8 (oi := _) (v := undef) (by simp only [List.getElem?_toArray, List.getElem?_cons_succ, List.getElem?_cons_zero]; rfl) (by kernel_rfl) (by exact fun _ _ _ h => h) (by first | assumption | exact KB.refl _) (.inr ⟨by rfl, rfl⟩) ?_
    try simp only [Act.put, List.setIfInBounds_toArray, List.set_cons_zero, List.set_cons_succ]
    refine btake 9 (oi := _) (v := undef) (by simp only [List.getElem?_toArray, List.getElem?_cons_succ, List.getElem?_cons_zero]; rfl) (by kernel_rfl) (by exact fun _ _ _ h => h) (by first | assumption | exact KB.refl _) (.inr ⟨by rfl, rfl⟩) ?_
    try simp only [Act.put, List.setIfInBounds_toArray, List.set_cons_zero, List.set_cons_succ]
    refine btake 10 (oi := _) (v := undef) (by simp only [List.getElem?_toArray, List.getElem?_cons_succ, List.getElem?_cons_zero]; rfl) (by kernel_rfl) (by exact fun _ _ _ h => h) (by first | assumption | exact KB.refl _) (.inr ⟨by rfl, rfl⟩) ?_
    try simp only [Act.put, List.setIfInBounds_toArray, List.set_cons_zero, List.set_cons_succ]
    refine btake 11 (oi := _) (v := undef) (by simp only [List.getElem?_toArray, List.getElem?_cons_succ, List.getElem?_cons_zero]; rfl) (by kernel_rfl) (by exact fun _ _ _ h => h) (by first | assumption | exact KB.refl _) (.inr ⟨by rfl, rfl⟩) ?_
    try simp only [Act.put, List.setIfInBounds_toArray, List.set_cons_zero, List.set_cons_succ]
    refine btake 12 (oi := _) (v := undef) (by simp only [List.getElem?_toArray, List.getElem?_cons_succ, List.getElem?_cons_zero]; rfl) (by kernel_rfl) (by exact fun _ _ _ h => h) (by first | assumption | exact KB.refl _) (.inr ⟨by rfl, rfl⟩) ?_
    try simp only [Act.put, List.setIfInBounds_toArray, List.set_cons_zero, List.set_cons_succ]
    refine btake 13 (oi := _) (v := undef) (by simp only [List.getElem?_toArray, List.getElem?_cons_succ, List.getElem?_cons_zero]; rfl) (by kernel_rfl) (by exact fun _ _ _ h => h) (by first | assumption | exact KB.refl _) (.inr ⟨by rfl, rfl⟩) ?_
    try simp only [Act.put, List.setIfInBounds_toArray, List.set_cons_zero, List.set_cons_succ]
    refine btake 14 (oi := _) (v := ?_) (by simp only [List.getElem?_toArray, List.getElem?_cons_succ, List.getElem?_cons_zero]; rfl) (by kernel_rfl) (by exact fun _ _ _ h => h) (by first | assumption | exact KB.refl _) (.inl ⟨by rfl, fun W hW => ?_⟩) ?_; rotate_left
    · (go_simp; first | done | with_reducible rfl)
    try simp only [Act.put, List.setIfInBounds_toArray, List.set_cons_zero, List.set_cons_succ]
    refine bdone (by kernel_rfl) ?_
    go_wp2_with fail
    go_ret2
    exact ⟨rfl, (Below.refl _ _).drew⟩
  · obtain ⟨m, hm4⟩ : ∃ m, l.length = m + 4 := ⟨l.length - 4, by omega⟩
    have ho : openS l = if big (l.drop m) = (sum (l.take m)).toNat then some (l.take m) else none := by unfold openS; rw [if_neg h4, hm4]; rfl
    rw [ho]
    have hS : sum [l.take m].flatten = sum (l.take m) := by simp
    have hN := bv_lt (sum (l.take m))
    have hsub : (l.length : Int) - 4 = (m : Int) := by omega
    have hml : m ≤ l.length := by omega
    have i1 : (m : Int) ≤ (c : Int) := by omega
    have i2 : (m : Int) ≤ (l.length : Int) := by omega
    have i3 : (0 : Int) ≤ (m : Int) := by omega
    have d1 : decide ((m : Int) < 0) = false := by simp
    have hwr : IntKind.u64.wrap ((sum (l.take m)).toNat : Int) = ((sum (l.take m)).toNat : Int) := by rw [IntKind.wrap_u64]; omega
    have hsl : SlcIs w (.slice A m c) (l.take m) := ⟨A, c, by rw [List.length_take, Nat.min_eq_left hml], by have := hb.tk m; rw [bv_take] at this; exact this, by rw [List.length_take]; omega, by simp only [maxLen]; omega⟩
    have hM := (Mat.one w 25 (.slice A m c) (l.take m) hsl).drew
    have hsum := fun h => Sum_any ((w.alloc (.cells #[.slice A m c] 25)).drew) (some ⟨w.heap.size, 0, none⟩) 1 1 [l.take m] h rfl (by simp [maxLen])
    rw [hS] at hsum
    have hB := fun W (hW : KB w.heap W) => Big_lit W w.heap.size (if c = m then A else A.map (·.add m)) (l.length - m) (c - m) (l.drop m) _ (by have := (hb.kb hW).cut m c (by simpa using hc); rw [bv_drop] at this; exact this) (by rw [List.length_drop]) (by omega) (by simp only [maxLen]; omega) rfl
    generalize hs : (sum (l.take m)).toNat = N at *
    generalize hb' : big (l.drop m) = M at *
    have Hm4 := Lib.hid hm4
    clear hm4 h4 hs hb' hS ho
    have HB := Lib.hid hB
    have HS := Lib.hid hsum
    clear hB hsum
    by_cases heq : M = N
    · rw [if_pos heq]
      have hne : (((M : Nat) : Int) != (N : Int)) = false := by simp; omega
      have Heq := Lib.hid heq
      clear heq
      go_enter Try.func48, Try.ntmps48
      go_wp2_with fail
      refine bstart (by kernel_rfl) ?_
      refine btake 0 (oi := _) (v := ?_) (by simp only [List.getElem?_toArray, List.getElem?_cons_zero]; rfl) (by kernel_rfl) (by exact fun _ _ _ h => h) (by first | assumption | exact KB.refl _) (.inl ⟨by rfl, fun W hW => ?_⟩) ?_; rotate_left
      · (go_simp; first | done | with_reducible rfl)
      try simp only [Act.put, List.setIfInBounds_toArray, List.set_cons_zero, List.set_cons_succ]
      refine btake 1 (oi := _) (v := ?_) (by simp only [List.getElem?_toArray, List.getElem?_cons_succ, List.getElem?_cons_zero]; rfl) (by kernel_rfl) (by exact fun _ _ _ h => h) (by first | assumption | exact KB.refl _) (.inl ⟨by rfl, fun W hW => ?_⟩) ?_; rotate_left
      · (go_simp; first | done | with_reducible rfl)
      try simp only [Act.put, List.setIfInBounds_toArray, List.set_cons_zero, List.set_cons_succ]
      refine btake 2 (oi := _) (v := ?_) (by simp only [List.getElem?_toArray, List.getElem?_cons_succ, List.getElem?_cons_zero]; rfl) (by kernel_rfl) (by exact fun _ _ _ h => h) (by first | assumption | exact KB.refl _) (.inl ⟨by rfl, fun W hW => ?_⟩) ?_; rotate_left
      · (go_simp; first | done | with_reducible rfl)
      try simp only [Act.put, List.setIfInBounds_toArray, List.set_cons_zero, List.set_cons_succ]
      refine btake 3 (oi := _) (v := ?_) (by simp only [List.getElem?_toArray, List.getElem?_cons_succ, List.getElem?_cons_zero]; rfl) (by kernel_rfl) (by exact fun _ _ _ h => h) (by first | assumption | exact KB.refl _) (.inl ⟨by rfl, fun W hW => ?_⟩) ?_; rotate_left
      · (go_simp; first | done | with_reducible rfl)
      try simp only [Act.put, List.setIfInBounds_toArray, List.set_cons_zero, List.set_cons_succ]
      refine btake 4 (oi := _) (v := ?_) (by simp only [List.getElem?_toArray, List.getElem?_cons_succ, List.getElem?_cons_zero]; rfl) (by kernel_rfl) (by exact fun _ _ _ h => h) (by first | assumption | exact KB.refl _) (.inl ⟨by rfl, fun W hW => ?_⟩) ?_; rotate_left
      · (go_simp; first | done | with_reducible rfl)
      try simp only [Act.put, List.setIfInBounds_toArray, List.set_cons_zero, List.set_cons_succ]
      refine btake 5 (oi := _) (v := ?_) (by simp only [List.getElem?_toArray, List.getElem?_cons_succ, List.getElem?_cons_zero]; rfl) (by kernel_rfl) (by exact fun _ _ _ h => h) (by first | assumption | exact KB.refl _) (.inl ⟨by rfl, fun W hW => ?_⟩) ?_; rotate_left
      · (go_simp; first | done | with_reducible rfl)
      try simp only [Act.put, List.setIfInBounds_toArray, List.set_cons_zero, List.set_cons_succ]
      -- 6: newsreel/num.Big
      refine bquiet 6 (oi := _) ?_ (by simp only [List.getElem?_toArray, List.getElem?_cons_succ, List.getElem?_cons_zero]; rfl) (by kernel_rfl) (by exact fun _ _ _ h => h) (by first | assumption | exact KB.refl _) (by rfl) (fun W hW => by go_simp; first | done | exact ⟨rfl, rfl⟩ | rfl) (fun W hW => ?_) ?_; rotate_left
      · exact HB.out W hW
      try simp only [Act.put, List.setIfInBounds_toArray, List.set_cons_zero, List.set_cons_succ]
      refine btake 7 (oi := _) (v := ?_) (by simp only [List.getElem?_toArray, List.getElem?_cons_succ, List.getElem?_cons_zero]; rfl) (by kernel_rfl) (by exact fun _ _ _ h => h) (by first | assumption | exact KB.refl _) (.inl ⟨by rfl, fun W hW => ?_⟩) ?_; rotate_left
      · (go_simp; first | done | with_reducible rfl)
      try simp only [Act.put, List.setIfInBounds_toArray, List.set_cons_zero, List.set_cons_succ]
      refine btake 8 (oi := _) (v := ?_) (by simp only [List.getElem?_toArray, List.getElem?_cons_succ, List.getElem?_cons_zero]; rfl) (by kernel_rfl) (by exact fun _ _ _ h => h) (by first | assumption | exact KB.refl _) (.inl ⟨by rfl, fun W hW => ?_⟩) ?_; rotate_left
      · (go_simp; first | done | with_reducible rfl)
      try simp only [Act.put, List.setIfInBounds_toArray, List.set_cons_zero, List.set_cons_succ]
      refine btake 9 (oi := _) (v := ?_) (by simp only [List.getElem?_toArray, List.getElem?_cons_succ, List.getElem?_cons_zero]; rfl) (by kernel_rfl) (by exact fun _ _ _ h => h) (by first | assumption | exact KB.refl _) (.inl ⟨by rfl, fun W hW => ?_⟩) ?_; rotate_left
      · (go_simp; first | done | with_reducible rfl)
      try simp only [Act.put, List.setIfInBounds_toArray, List.set_cons_zero, List.set_cons_succ]
      -- 10: Op.buildSlice 22 1 #[(0, Operand.tmp 17)]
      refine bop 10 (o := _) (by simp only [List.getElem?_toArray, List.getElem?_cons_succ, List.getElem?_cons_zero]; rfl) (by kernel_rfl) (by first | assumption | exact KB.refl _) (by rfl) (fun K hK => ?_)
      go_simp
      have hkb : KB w.heap (w.alloc (.cells #[.slice A m c] 25)).drew := KB.alloc w _
      refine hK.out _ _ hkb ?_; clear hK K
      try simp only [Act.put, List.setIfInBounds_toArray, List.set_cons_zero, List.set_cons_succ]
      -- 11: newsreel/crc.Sum
      refine bop 11 (o := _) (by simp only [List.getElem?_toArray, List.getElem?_cons_succ, List.getElem?_cons_zero]; rfl) (by kernel_rfl) (by first | assumption | exact KB.refl _) (by rfl) (fun K hK => ?_)
      go_simp
      refine (HS.out hM).mono ?_
      rintro e w3 ⟨rfl, h3⟩
      have hkb := KB.of h3
      refine hK.out _ _ hkb ?_; clear hK K
      try simp only [Act.put, List.setIfInBounds_toArray, List.set_cons_zero, List.set_cons_succ]
      refine btake 12 (oi := _) (v := ?_) (by simp only [List.getElem?_toArray, List.getElem?_cons_succ, List.getElem?_cons_zero]; rfl) (by kernel_rfl) (by exact fun _ _ _ h => h) (by first | assumption | exact KB.refl _) (.inl ⟨by rfl, fun W hW => ?_⟩) ?_; rotate_left
      · (go_simp; first | done | with_reducible rfl)
      try simp only [Act.put, List.setIfInBounds_toArray, List.set_cons_zero, List.set_cons_succ]
      refine btake 13 (oi := _) (v := ?_) (by simp only [List.getElem?_toArray, List.getElem?_cons_succ, List.getElem?_cons_zero]; rfl) (by kernel_rfl) (by exact fun _ _ _ h => h) (by first | assumption | exact KB.refl _) (.inl ⟨by rfl, fun W hW => ?_⟩) ?_; rotate_left
      · (go_simp; first | done | with_reducible rfl)
      try simp only [Act.put, List.setIfInBounds_toArray, List.set_cons_zero, List.set_cons_succ]
      refine btake 14 (oi := _) (v := ?_) (by simp only [List.getElem?_toArray, List.getElem?_cons_succ, List.getElem?_cons_zero]; rfl) (by kernel_rfl) (by exact fun _ _ _ h => h) (by first | assumption | exact KB.refl _) (.inl ⟨by rfl, fun W hW => ?_⟩) ?_; rotate_left
      · (go_simp; first | done | with_reducible rfl)
      try simp only [Act.put, List.setIfInBounds_toArray, List.set_cons_zero, List.set_cons_succ]
      refine bdone (by kernel_rfl) ?_
      have hb3' := bstep (balloc (Below.refl w.heap.size w) (.cells #[.slice A m c] 25)).drew h3
      have hb3 := (hb.below hb3').more hb3'.size
      go_wp2_with fail
      refine (Clone_any _ _ A _ c (l.take m) (by have := hb3.tk m; rw [bv_take] at this; exact this) (by rw [List.length_take]; omega) (by rw [List.length_take]; omega)).mono ?_
      rintro e w4 ⟨A4, c4, rfl, h4, h5⟩
      go_wp2_with fail
      go_ret2
      exact ⟨A4, c4, by rw [List.length_take, Nat.min_eq_left hml]; rfl, h4.base_le hb3'.size, bstep hb3' h5⟩
    · rw [if_neg heq]
      have hne : (((M : Nat) : Int) != (N : Int)) = true := by simp; omega
      clear heq
      go_enter Try.func48, Try.ntmps48
      go_wp2_with fail
      refine bstart (by kernel_rfl) ?_
      refine btake 0 (oi := _) (v := ?_) (by simp only [List.getElem?_toArray, List.getElem?_cons_zero]; rfl) (by kernel_rfl) (by exact fun _ _ _ h => h) (by first | assumption | exact KB.refl _) (.inl ⟨by rfl, fun W hW => ?_⟩) ?_; rotate_left
      · (go_simp; first | done | with_reducible rfl)
      try simp only [Act.put, List.setIfInBounds_toArray, List.set_cons_zero, List.set_cons_succ]
      refine btake 1 (oi := _) (v := ?_) (by simp only [List.getElem?_toArray, List.getElem?_cons_succ, List.getElem?_cons_zero]; rfl) (by kernel_rfl) (by exact fun _ _ _ h => h) (by first | assumption | exact KB.refl _) (.inl ⟨by rfl, fun W hW => ?_⟩) ?_; rotate_left
      · (go_simp; first | done | with_reducible rfl)
      try simp only [Act.put, List.setIfInBounds_toArray, List.set_cons_zero, List.set_cons_succ]
      refine btake 2 (oi := _) (v := ?_) (by simp only [List.getElem?_toArray, List.getElem?_cons_succ, List.getElem?_cons_zero]; rfl) (by kernel_rfl) (by exact fun _ _ _ h => h) (by first | assumption | exact KB.refl _) (.inl ⟨by rfl, fun W hW => ?_⟩) ?_; rotate_left
      · (go_simp; first | done | with_reducible rfl)
      try simp only [Act.put, List.setIfInBounds_toArray, List.set_cons_zero, List.set_cons_succ]
      refine btake 3 (oi := _) (v := ?_) (by simp only [List.getElem?_toArray, List.getElem?_cons_succ, List.getElem?_cons_zero]; rfl) (by kernel_rfl) (by exact fun _ _ _ h => h) (by first | assumption | exact KB.refl _) (.inl ⟨by rfl, fun W hW => ?_⟩) ?_; rotate_left
      · (go_simp; first | done | with_reducible rfl)
      try simp only [Act.put, List.setIfInBounds_toArray, List.set_cons_zero, List.set_cons_succ]
      refine btake 4 (oi := _) (v := ?_) (by simp only [List.getElem?_toArray, List.getElem?_cons_succ, List.getElem?_cons_zero]; rfl) (by kernel_rfl) (by exact fun _ _ _ h => h) (by first | assumption | exact KB.refl _) (.inl ⟨by rfl, fun W hW => ?_⟩) ?_; rotate_left
      · (go_simp; first | done | with_reducible rfl)
      try simp only [Act.put, List.setIfInBounds_toArray, List.set_cons_zero, List.set_cons_succ]
      refine btake 5 (oi := _) (v := ?_) (by simp only [List.getElem?_toArray, List.getElem?_cons_succ, List.getElem?_cons_zero]; rfl) (by kernel_rfl) (by exact fun _ _ _ h => h) (by first | assumption | exact KB.refl _) (.inl ⟨by rfl, fun W hW => ?_⟩) ?_; rotate_left
      · (go_simp; first | done | with_reducible rfl)
      try simp only [Act.put, List.setIfInBounds_toArray, List.set_cons_zero, List.set_cons_succ]
      -- 6: newsreel/num.Big
      refine bquiet 6 (oi := _) ?_ (by simp only [List.getElem?_toArray, List.getElem?_cons_succ, List.getElem?_cons_zero]; rfl) (by kernel_rfl) (by exact fun _ _ _ h => h) (by first | assumption | exact KB.refl _) (by rfl) (fun W hW => by go_simp; first | done | exact ⟨rfl, rfl⟩ | rfl) (fun W hW => ?_) ?_; rotate_left
      · exact HB.out W hW
      try simp only [Act.put, List.setIfInBounds_toArray, List.set_cons_zero, List.set_cons_succ]
      refine btake 7 (oi := _) (v := ?_) (by simp only [List.getElem?_toArray, List.getElem?_cons_succ, List.getElem?_cons_zero]; rfl) (by kernel_rfl) (by exact fun _ _ _ h => h) (by first | assumption | exact KB.refl _) (.inl ⟨by rfl, fun W hW => ?_⟩) ?_; rotate_left
      · (go_simp; first | done | with_reducible rfl)
      try simp only [Act.put, List.setIfInBounds_toArray, List.set_cons_zero, List.set_cons_succ]
      refine btake 8 (oi := _) (v := ?_) (by simp only [List.getElem?_toArray, List.getElem?_cons_succ, List.getElem?_cons_zero]; rfl) (by kernel_rfl) (by exact fun _ _ _ h => h) (by first | assumption | exact KB.refl _) (.inl ⟨by rfl, fun W hW => ?_⟩) ?_; rotate_left
      · (go_simp; first | done | with_reducible rfl)
      try simp only [Act.put, List.setIfInBounds_toArray, List.set_cons_zero, List.set_cons_succ]
      refine btake 9 (oi := _) (v := ?_) (by simp only [List.getElem?_toArray, List.getElem?_cons_succ, List.getElem?_cons_zero]; rfl) (by kernel_rfl) (by exact fun _ _ _ h => h) (by first | assumption | exact KB.refl _) (.inl ⟨by rfl, fun W hW => ?_⟩) ?_; rotate_left
      · (go_simp; first | done | with_reducible rfl)
      try simp only [Act.put, List.setIfInBounds_toArray, List.set_cons_zero, List.set_cons_succ]
      -- 10: Op.buildSlice 22 1 #[(0, Operand.tmp 17)]
      refine bop 10 (o := _) (by simp only [List.getElem?_toArray, List.getElem?_cons_succ, List.getElem?_cons_zero]; rfl) (by kernel_rfl) (by first | assumption | exact KB.refl _) (by rfl) (fun K hK => ?_)
      go_simp
      have hkb : KB w.heap (w.alloc (.cells #[.slice A m c] 25)).drew := KB.alloc w _
      refine hK.out _ _ hkb ?_; clear hK K
      try simp only [Act.put, List.setIfInBounds_toArray, List.set_cons_zero, List.set_cons_succ]
      -- 11: newsreel/crc.Sum
      refine bop 11 (o := _) (by simp only [List.getElem?_toArray, List.getElem?_cons_succ, List.getElem?_cons_zero]; rfl) (by kernel_rfl) (by first | assumption | exact KB.refl _) (by rfl) (fun K hK => ?_)
      go_simp
      refine (HS.out hM).mono ?_
      rintro e w3 ⟨rfl, h3⟩
      have hkb := KB.of h3
      refine hK.out _ _ hkb ?_; clear hK K
      try simp only [Act.put, List.setIfInBounds_toArray, List.set_cons_zero, List.set_cons_succ]
      refine btake 12 (oi := _) (v := ?_) (by simp only [List.getElem?_toArray, List.getElem?_cons_succ, List.getElem?_cons_zero]; rfl) (by kernel_rfl) (by exact fun _ _ _ h => h) (by first | assumption | exact KB.refl _) (.inl ⟨by rfl, fun W hW => ?_⟩) ?_; rotate_left
      · (go_simp; first | done | with_reducible rfl)
      try simp only [Act.put, List.setIfInBounds_toArray, List.set_cons_zero, List.set_cons_succ]
      refine btake 13 (oi := _) (v := ?_) (by simp only [List.getElem?_toArray, List.getElem?_cons_succ, List.getElem?_cons_zero]; rfl) (by kernel_rfl) (by exact fun _ _ _ h => h) (by first | assumption | exact KB.refl _) (.inl ⟨by rfl, fun W hW => ?_⟩) ?_; rotate_left
      · (go_simp; first | done | with_reducible rfl)
      try simp only [Act.put, List.setIfInBounds_toArray, List.set_cons_zero, List.set_cons_succ]
      refine btake 14 (oi := _) (v := ?_) (by simp only [List.getElem?_toArray, List.getElem?_cons_succ, List.getElem?_cons_zero]; rfl) (by kernel_rfl) (by exact fun _ _ _ h => h) (by first | assumption | exact KB.refl _) (.inl ⟨by rfl, fun W hW => ?_⟩) ?_; rotate_left
      · (go_simp; first | done | with_reducible rfl)
      try simp only [Act.put, List.setIfInBounds_toArray, List.set_cons_zero, List.set_cons_succ]
      refine bdone (by kernel_rfl) ?_
      have hb3' := bstep (balloc (Below.refl w.heap.size w) (.cells #[.slice A m c] 25)).drew h3
      go_wp2_with fail
      go_ret2
      exact ⟨rfl, hb3'⟩
set_option maxRecDepth 100000 in
set_option maxHeartbeats 1600000 in
theorem RefOpen_any (w : World) (A : Option Addr) (n c : Nat) (l : List UInt8) (hb : Sl w w.heap.size A (bv l)) (h0 : n = l.length) (hc : n ≤ c) (hm : c ≤ maxLen) (hlm : l.length ≤ 140737488355328) :
    Calls Try.prog 60 #[.slice A n c] w (OpenPost w (openS l)) := by
  subst h0
  have hm' : c ≤ 9223372036854775807 := by simpa [maxLen] using hm
  by_cases h4 : l.length < 4
  · have ho : openS l = none := by unfold openS; rw [if_pos h4]
    rw [ho]
    have d1 : decide (((l.length : Int) - 4) < 0) = true := by simp; omega
    go_enter Try.func60, Try.ntmps60
    go_wp2_with fail
    refine bstart (by kernel_rfl) ?_
    refine btake 0 (oi := _) (v := ?_) (by simp only [List.getElem?_toArray, List.getElem?_cons_zero]; rfl) (by kernel_rfl) (by exact fun _ _ _ h => h) (by first | assumption | exact KB.refl _) (.inl ⟨by rfl, fun W hW => ?_⟩) ?_; rotate_left
    · (go_simp; first | done | with_reducible rfl)
    try simp only [Act.put, List.setIfInBounds_toArray, List.set_cons_zero, List.set_cons_succ]
    refine btake 1 (oi := _) (v := ?_) (by simp only [List.getElem?_toArray, List.getElem?_cons_succ, List.getElem?_cons_zero]; rfl) (by kernel_rfl) (by exact fun _ _ _ h => h) (by first | assumption | exact KB.refl _) (.inl ⟨by rfl, fun W hW => ?_⟩) ?_; rotate_left
    · (go_simp; first | done | with_reducible rfl)
    try simp only [Act.put, List.setIfInBounds_toArray, List.set_cons_zero, List.set_cons_succ]
    refine btake 2 (oi := _) (v := ?_) (by simp only [List.getElem?_toArray, List.getElem?_cons_succ, List.getElem?_cons_zero]; rfl) (by kernel_rfl) (by exact fun _ _ _ h => h) (by first | assumption | exact KB.refl _) (.inl ⟨by rfl, fun W hW => ?_⟩) ?_; rotate_left
    · (go_simp; first | done | with_reducible rfl)
    try simp only [Act.put, List.setIfInBounds_toArray, List.set_cons_zero, List.set_cons_succ]
    refine btake 3 (oi := _) (v := undef) (by simp only [List.getElem?_toArray, List.getElem?_cons_succ, List.getElem?_cons_zero]; rfl) (by kernel_rfl) (by exact fun _ _ _ h => h) (by first | assumption | exact KB.refl _) (.inr ⟨by rfl, rfl⟩) ?_
    try simp only [Act.put, List.setIfInBounds_toArray, List.set_cons_zero, List.set_cons_succ]
    refine btake 4 (oi := _) (v := undef) (by simp only [List.getElem?_toArray, List.getElem?_cons_succ, List.getElem?_cons_zero]; rfl) (by kernel_rfl) (by exact fun _ _ _ h => h) (by first | assumption | exact KB.refl _) (.inr ⟨by rfl, rfl⟩) ?_
    try simp only [Act.put, List.setIfInBounds_toArray, List.set_cons_zero, List.set_cons_succ]
    refine btake 5 (oi := _) (v := undef) (by simp only [List.getElem?_toArray, List.getElem?_cons_succ, List.getElem?_cons_zero]; rfl) (by kernel_rfl) (by exact fun _ _ _ h => h) (by first | assumption | exact KB.refl _) (.inr ⟨by rfl, rfl⟩) ?_
    try simp only [Act.put, List.setIfInBounds_toArray, List.set_cons_zero, List.set_cons_succ]
    refine btake 6 (oi := _) (v := undef) (by simp only [List.getElem?_toArray, List.getElem?_cons_succ, List.getElem?_cons_zero]; rfl) (by kernel_rfl) (by exact fun _ _ _ h => h) (by first | assumption | exact KB.refl _) (.inr ⟨by rfl, rfl⟩) ?_
    try simp only [Act.put, List.setIfInBounds_toArray, List.set_cons_zero, List.set_cons_succ]
    refine btake 7 (oi := _) (v := undef) (by simp only [List.getElem?_toArray, List.getElem?_cons_succ, List.getElem?_cons_zero]; rfl) (by kernel_rfl) (by exact fun _ _ _ h => h) (by first | assumption | exact KB.refl _) (.inr ⟨by rfl, rfl⟩) ?_
    try simp only [Act.put, List.setIfInBounds_toArray, List.set_cons_zero, List.set_cons_succ]
    refine btake 8 (oi := _) (v := undef) (by simp only [List.getElem?_toArray, List.getElem?_cons_succ, List.getElem?_cons_zero]; rfl) (by kernel_rfl) (by exact fun _ _ _ h => h) (by first | assumption | exact KB.refl _) (.inr ⟨by rfl, rfl⟩) ?_
    try simp only [Act.put, List.setIfInBounds_toArray, List.set_cons_zero, List.set_cons_succ]
    refine btake 9 (oi := _) (v := undef) (by simp only [List.getElem?_toArray, List.getElem?_cons_succ, List.getElem?_cons_zero]; rfl) (by kernel_rfl) (by exact fun _ _ _ h => h) (by first | assumption | exact KB.refl _) (.inr ⟨by rfl, rfl⟩) ?_
    try simp only [Act.put, List.setIfInBounds_toArray, List.set_cons_zero, List.set_cons_succ]
    refine btake 10 (oi := _) (v := undef) (by simp only [List.getElem?_toArray, List.getElem?_cons_succ, List.getElem?_cons_zero]; rfl) (by kernel_rfl) (by exact fun _ _ _ h => h) (by first | assumption | exact KB.refl _) (.inr ⟨by rfl, rfl⟩) ?_
    try simp only [Act.put, List.setIfInBounds_toArray, List.set_cons_zero, List.set_cons_succ]
    refine btake 11 (oi := _) (v := undef) (by simp only [List.getElem?_toArray, List.getElem?_cons_succ, List.getElem?_cons_zero]; rfl) (by kernel_rfl) (by exact fun _ _ _ h => h) (by first | assumption | exact KB.refl _) (.inr ⟨by rfl, rfl⟩) ?_
    try simp only [Act.put, List.setIfInBounds_toArray, List.set_cons_zero, List.set_cons_succ]
    refine btake 12 (oi := _) (v := undef) (by simp only [List.getElem?_toArray, List.getElem?_cons_succ, List.getElem?_cons_zero]; rfl) (by kernel_rfl) (by exact fun _ _ _ h => h) (by first | assumption | exact KB.refl _) (.inr ⟨by rfl, rfl⟩) ?_
    try simp only [Act.put, List.setIfInBounds_toArray, List.set_cons_zero, List.set_cons_succ]
    refine btake 13 (oi := _) (v := undef) (by simp only [List.getElem?_toArray, List.getElem?_cons_succ, List.getElem?_cons_zero]; rfl) (by kernel_rfl) (by exact fun _ _ _ h => h) (by first | assumption | exact KB.refl _) (.inr ⟨by rfl, rfl⟩) ?_
    try simp only [Act.put, List.setIfInBounds_toArray, List.set_cons_zero, List.set_cons_succ]
    refine btake 14 (oi := _) (v := ?_) (by simp only [List.getElem?_toArray, List.getElem?_cons_succ, List.getElem?_cons_zero]; rfl) (by kernel_rfl) (by exact fun _ _ _ h => h) (by first | assumption | exact KB.refl _) (.inl ⟨by rfl, fun W hW => ?_⟩) ?_; rotate_left
    · (go_simp; first | done | with_reducible rfl)
    try simp only [Act.put, List.setIfInBounds_toArray, List.set_cons_zero, List.set_cons_succ]
    refine bdone (by kernel_rfl) ?_
    go_wp2_with fail
    go_ret2
    exact ⟨rfl, (Below.refl _ _).drew⟩
  · obtain ⟨m, hm4⟩ : ∃ m, l.length = m + 4 := ⟨l.length - 4, by omega⟩
    have ho : openS l = if big (l.drop m) = (sum (l.take m)).toNat then some (l.take m) else none := by unfold openS; rw [if_neg h4, hm4]; rfl
    rw [ho]
    have hS : sum [l.take m].flatten = sum (l.take m) := by simp
    have hN := bv_lt (sum (l.take m))
    have hsub : (l.length : Int) - 4 = (m : Int) := by omega
    have hml : m ≤ l.length := by omega
    have i1 : (m : Int) ≤ (c : Int) := by omega
    have i2 : (m : Int) ≤ (l.length : Int) := by omega
    have i3 : (0 : Int) ≤ (m : Int) := by omega
    have d1 : decide ((m : Int) < 0) = false := by simp
    have hwr : IntKind.u64.wrap ((sum (l.take m)).toNat : Int) = ((sum (l.take m)).toNat : Int) := by rw [IntKind.wrap_u64]; omega
    have hsl : SlcIs w (.slice A m c) (l.take m) := ⟨A, c, by rw [List.length_take, Nat.min_eq_left hml], by have := hb.tk m; rw [bv_take] at this; exact this, by rw [List.length_take]; omega, by simp only [maxLen]; omega⟩
    have hM := (Mat.one w 25 (.slice A m c) (l.take m) hsl).drew
    have hsum := fun h => RefSum_any ((w.alloc (.cells #[.slice A m c] 25)).drew) (some ⟨w.heap.size, 0, none⟩) 1 1 [l.take m] h rfl (by simp [maxLen])
    rw [hS] at hsum
    have hB := fun W (hW : KB w.heap W) => RefBig_lit W w.heap.size (if c = m then A else A.map (·.add m)) (l.length - m) (c - m) (l.drop m) _ (by have := (hb.kb hW).cut m c (by simpa using hc); rw [bv_drop] at this; exact this) (by rw [List.length_drop]) (by omega) (by simp only [maxLen]; omega) rfl
    generalize hs : (sum (l.take m)).toNat = N at *
    generalize hb' : big (l.drop m) = M at *
    have Hm4 := Lib.hid hm4
    clear hm4 h4 hs hb' hS ho
    have HB := Lib.hid hB
    have HS := Lib.hid hsum
    clear hB hsum
    by_cases heq : M = N
    · rw [if_pos heq]
      have hne : (((M : Nat) : Int) != (N : Int)) = false := by simp; omega
      have Heq := Lib.hid heq
      clear heq
      go_enter Try.func60, Try.ntmps60
      go_wp2_with fail
      refine bstart (by kernel_rfl) ?_
      refine btake 0 (oi := _) (v := ?_) (by simp only [List.getElem?_toArray, List.getElem?_cons_zero]; rfl) (by kernel_rfl) (by exact fun _ _ _ h => h) (by first | assumption | exact KB.refl _) (.inl ⟨by rfl, fun W hW => ?_⟩) ?_; rotate_left
      · (go_simp; first | done | with_reducible rfl)
      try simp only [Act.put, List.setIfInBounds_toArray, List.set_cons_zero, List.set_cons_succ]
      refine btake 1 (oi := _) (v := ?_) (by simp only [List.getElem?_toArray, List.getElem?_cons_succ, List.getElem?_cons_zero]; rfl) (by kernel_rfl) (by exact fun _ _ _ h => h) (by first | assumption | exact KB.refl _) (.inl ⟨by rfl, fun W hW => ?_⟩) ?_; rotate_left
      · (go_simp; first | done | with_reducible rfl)
      try simp only [Act.put, List.setIfInBounds_toArray, List.set_cons_zero, List.set_cons_succ]
      refine btake 2 (oi := _) (v := ?_) (by simp only [List.getElem?_toArray, List.getElem?_cons_succ, List.getElem?_cons_zero]; rfl) (by kernel_rfl) (by exact fun _ _ _ h => h) (by first | assumption | exact KB.refl _) (.inl ⟨by rfl, fun W hW => ?_⟩) ?_; rotate_left
      · (go_simp; first | done | with_reducible rfl)
      try simp only [Act.put, List.setIfInBounds_toArray, List.set_cons_zero, List.set_cons_succ]
      refine btake 3 (oi := _) (v := ?_) (by simp only [List.getElem?_toArray, List.getElem?_cons_succ, List.getElem?_cons_zero]; rfl) (by kernel_rfl) (by exact fun _ _ _ h => h) (by first | assumption | exact KB.refl _) (.inl ⟨by rfl, fun W hW => ?_⟩) ?_; rotate_left
      · (go_simp; first | done | with_reducible rfl)
      try simp only [Act.put, List.setIfInBounds_toArray, List.set_cons_zero, List.set_cons_succ]
      refine btake 4 (oi := _) (v := ?_) (by simp only [List.getElem?_toArray, List.getElem?_cons_succ, List.getElem?_cons_zero]; rfl) (by kernel_rfl) (by exact fun _ _ _ h => h) (by first | assumption | exact KB.refl _) (.inl ⟨by rfl, fun W hW => ?_⟩) ?_; rotate_left
      · (go_simp; first | done | with_reducible rfl)
      try simp only [Act.put, List.setIfInBounds_toArray, List.set_cons_zero, List.set_cons_succ]
      refine btake 5 (oi := _) (v := ?_) (by simp only [List.getElem?_toArray, List.getElem?_cons_succ, List.getElem?_cons_zero]; rfl) (by kernel_rfl) (by exact fun _ _ _ h => h) (by first | assumption | exact KB.refl _) (.inl ⟨by rfl, fun W hW => ?_⟩) ?_; rotate_left
      · (go_simp; first | done | with_reducible rfl)
      try simp only [Act.put, List.setIfInBounds_toArray, List.set_cons_zero, List.set_cons_succ]
      -- 6: newsreel/newsreelref1.Big
      refine bquiet 6 (oi := _) ?_ (by simp only [List.getElem?_toArray, List.getElem?_cons_succ, List.getElem?_cons_zero]; rfl) (by kernel_rfl) (by exact fun _ _ _ h => h) (by first | assumption | exact KB.refl _) (by rfl) (fun W hW => by go_simp; first | done | exact ⟨rfl, rfl⟩ | rfl) (fun W hW => ?_) ?_; rotate_left
      · exact HB.out W hW
      try simp only [Act.put, List.setIfInBounds_toArray, List.set_cons_zero, List.set_cons_succ]
      refine btake 7 (oi := _) (v := ?_) (by simp only [List.getElem?_toArray, List.getElem?_cons_succ, List.getElem?_cons_zero]; rfl) (by kernel_rfl) (by exact fun _ _ _ h => h) (by first | assumption | exact KB.refl _) (.inl ⟨by rfl, fun W hW => ?_⟩) ?_; rotate_left
      · (go_simp; first | done | with_reducible rfl)
      try simp only [Act.put, List.setIfInBounds_toArray, List.set_cons_zero, List.set_cons_succ]
      refine btake 8 (oi := _) (v := ?_) (by simp only [List.getElem?_toArray, List.getElem?_cons_succ, List.getElem?_cons_zero]; rfl) (by kernel_rfl) (by exact fun _ _ _ h => h) (by first | assumption | exact KB.refl _) (.inl ⟨by rfl, fun W hW => ?_⟩) ?_; rotate_left
      · (go_simp; first | done | with_reducible rfl)
      try simp only [Act.put, List.setIfInBounds_toArray, List.set_cons_zero, List.set_cons_succ]
      refine btake 9 (oi := _) (v := ?_) (by simp only [List.getElem?_toArray, List.getElem?_cons_succ, List.getElem?_cons_zero]; rfl) (by kernel_rfl) (by exact fun _ _ _ h => h) (by first | assumption | exact KB.refl _) (.inl ⟨by rfl, fun W hW => ?_⟩) ?_; rotate_left
      · (go_simp; first | done | with_reducible rfl)
      try simp only [Act.put, List.setIfInBounds_toArray, List.set_cons_zero, List.set_cons_succ]
      -- 10: Op.buildSlice 22 1 #[(0, Operand.tmp 17)]
      refine bop 10 (o := _) (by simp only [List.getElem?_toArray, List.getElem?_cons_succ, List.getElem?_cons_zero]; rfl) (by kernel_rfl) (by first | assumption | exact KB.refl _) (by rfl) (fun K hK => ?_)
      go_simp
      have hkb : KB w.heap (w.alloc (.cells #[.slice A m c] 25)).drew := KB.alloc w _
      refine hK.out _ _ hkb ?_; clear hK K
      try simp only [Act.put, List.setIfInBounds_toArray, List.set_cons_zero, List.set_cons_succ]
      -- 11: newsreel/newsreelref1.Sum
      refine bop 11 (o := _) (by simp only [List.getElem?_toArray, List.getElem?_cons_succ, List.getElem?_cons_zero]; rfl) (by kernel_rfl) (by first | assumption | exact KB.refl _) (by rfl) (fun K hK => ?_)
      go_simp
      refine (HS.out hM).mono ?_
      rintro e w3 ⟨rfl, h3⟩
      have hkb := KB.of h3
      refine hK.out _ _ hkb ?_; clear hK K
      try simp only [Act.put, List.setIfInBounds_toArray, List.set_cons_zero, List.set_cons_succ]
      refine btake 12 (oi := _) (v := ?_) (by simp only [List.getElem?_toArray, List.getElem?_cons_succ, List.getElem?_cons_zero]; rfl) (by kernel_rfl) (by exact fun _ _ _ h => h) (by first | assumption | exact KB.refl _) (.inl ⟨by rfl, fun W hW => ?_⟩) ?_; rotate_left
      · (go_simp; first | done | with_reducible rfl)
      try simp only [Act.put, List.setIfInBounds_toArray, List.set_cons_zero, List.set_cons_succ]
      refine btake 13 (oi := _) (v := ?_) (by simp only [List.getElem?_toArray, List.getElem?_cons_succ, List.getElem?_cons_zero]; rfl) (by kernel_rfl) (by exact fun _ _ _ h => h) (by first | assumption | exact KB.refl _) (.inl ⟨by rfl, fun W hW => ?_⟩) ?_; rotate_left
      · (go_simp; first | done | with_reducible rfl)
      try simp only [Act.put, List.setIfInBounds_toArray, List.set_cons_zero, List.set_cons_succ]
      refine btake 14 (oi := _) (v := ?_) (by simp only [List.getElem?_toArray, List.getElem?_cons_succ, List.getElem?_cons_zero]; rfl) (by kernel_rfl) (by exact fun _ _ _ h => h) (by first | assumption | exact KB.refl _) (.inl ⟨by rfl, fun W hW => ?_⟩) ?_; rotate_left
      · (go_simp; first | done | with_reducible rfl)
      try simp only [Act.put, List.setIfInBounds_toArray, List.set_cons_zero, List.set_cons_succ]
      refine bdone (by kernel_rfl) ?_
      have hb3' := bstep (balloc (Below.refl w.heap.size w) (.cells #[.slice A m c] 25)).drew h3
      have hb3 := (hb.below hb3').more hb3'.size
      go_wp2_with (at_builtin; refine app (k := l.take m) rfl rfl (OwnB.nil w3 w3.heap.size) (by have := hb3.tk m; rw [bv_take] at this; exact this) (by rw [List.length_take]; omega) rfl rfl (by simp; omega) (Nat.le_refl _) ?_; intro s4 w4 h4 hg4 hat4)
      have h5 : Below w3.heap.size w3 w4 := below_of_grown hg4 (by simp [Value.ownBlock]) (Nat.le_refl _)
      rw [List.nil_append] at h4
      obtain ⟨A4, c4, rfl, _⟩ := h4.form
      go_ret2
      exact ⟨A4, c4, by rw [List.length_take, Nat.min_eq_left hml]; rfl, h4.base_le hb3'.size, bstep hb3' h5⟩
    · rw [if_neg heq]
      have hne : (((M : Nat) : Int) != (N : Int)) = true := by simp; omega
      clear heq
      go_enter Try.func60, Try.ntmps60
      go_wp2_with fail
      refine bstart (by kernel_rfl) ?_
      refine btake 0 (oi := _) (v := ?_) (by simp only [List.getElem?_toArray, List.getElem?_cons_zero]; rfl) (by kernel_rfl) (by exact fun _ _ _ h => h) (by first | assumption | exact KB.refl _) (.inl ⟨by rfl, fun W hW => ?_⟩) ?_; rotate_left
      · (go_simp; first | done | with_reducible rfl)
      try simp only [Act.put, List.setIfInBounds_toArray, List.set_cons_zero, List.set_cons_succ]
      refine btake 1 (oi := _) (v := ?_) (by simp only [List.getElem?_toArray, List.getElem?_cons_succ, List.getElem?_cons_zero]; rfl) (by kernel_rfl) (by exact fun _ _ _ h => h) (by first | assumption | exact KB.refl _) (.inl ⟨by rfl, fun W hW => ?_⟩) ?_; rotate_left
      · (go_simp; first | done | with_reducible rfl)
      try simp only [Act.put, List.setIfInBounds_toArray, List.set_cons_zero, List.set_cons_succ]
      refine btake 2 (oi := _) (v := ?_) (by simp only [List.getElem?_toArray, List.getElem?_cons_succ, List.getElem?_cons_zero]; rfl) (by kernel_rfl) (by exact fun _ _ _ h => h) (by first | assumption | exact KB.refl _) (.inl ⟨by rfl, fun W hW => ?_⟩) ?_; rotate_left
      · (go_simp; first | done | with_reducible rfl)
      try simp only [Act.put, List.setIfInBounds_toArray, List.set_cons_zero, List.set_cons_succ]
      refine btake 3 (oi := _) (v := ?_) (by simp only [List.getElem?_toArray, List.getElem?_cons_succ, List.getElem?_cons_zero]; rfl) (by kernel_rfl) (by exact fun _ _ _ h => h) (by first | assumption | exact KB.refl _) (.inl ⟨by rfl, fun W hW => ?_⟩) ?_; rotate_left
      · (go_simp; first | done | with_reducible rfl)
      try simp only [Act.put, List.setIfInBounds_toArray, List.set_cons_zero, List.set_cons_succ]
      refine btake 4 (oi := _) (v := ?_) (by simp only [List.getElem?_toArray, List.getElem?_cons_succ, List.getElem?_cons_zero]; rfl) (by kernel_rfl) (by exact fun _ _ _ h => h) (by first | assumption | exact KB.refl _) (.inl ⟨by rfl, fun W hW => ?_⟩) ?_; rotate_left
      · (go_simp; first | done | with_reducible rfl)
      try simp only [Act.put, List.setIfInBounds_toArray, List.set_cons_zero, List.set_cons_succ]
      refine btake 5 (oi := _) (v := ?_) (by simp only [List.getElem?_toArray, List.getElem?_cons_succ, List.getElem?_cons_zero]; rfl) (by kernel_rfl) (by exact fun _ _ _ h => h) (by first | assumption | exact KB.refl _) (.inl ⟨by rfl, fun W hW => ?_⟩) ?_; rotate_left
      · (go_simp; first | done | with_reducible rfl)
      try simp only [Act.put, List.setIfInBounds_toArray, List.set_cons_zero, List.set_cons_succ]
      -- 6: newsreel/newsreelref1.Big
      refine bquiet 6 (oi := _) ?_ (by simp only [List.getElem?_toArray, List.getElem?_cons_succ, List.getElem?_cons_zero]; rfl) (by kernel_rfl) (by exact fun _ _ _ h => h) (by first | assumption | exact KB.refl _) (by rfl) (fun W hW => by go_simp; first | done | exact ⟨rfl, rfl⟩ | rfl) (fun W hW => ?_) ?_; rotate_left
      · exact HB.out W hW
      try simp only [Act.put, List.setIfInBounds_toArray, List.set_cons_zero, List.set_cons_succ]
      refine btake 7 (oi := _) (v := ?_) (by simp only [List.getElem?_toArray, List.getElem?_cons_succ, List.getElem?_cons_zero]; rfl) (by kernel_rfl) (by exact fun _ _ _ h => h) (by first | assumption | exact KB.refl _) (.inl ⟨by rfl, fun W hW => ?_⟩) ?_; rotate_left
      · (go_simp; first | done | with_reducible rfl)
      try simp only [Act.put, List.setIfInBounds_toArray, List.set_cons_zero, List.set_cons_succ]
      refine btake 8 (oi := _) (v := ?_) (by simp only [List.getElem?_toArray, List.getElem?_cons_succ, List.getElem?_cons_zero]; rfl) (by kernel_rfl) (by exact fun _ _ _ h => h) (by first | assumption | exact KB.refl _) (.inl ⟨by rfl, fun W hW => ?_⟩) ?_; rotate_left
      · (go_simp; first | done | with_reducible rfl)
      try simp only [Act.put, List.setIfInBounds_toArray, List.set_cons_zero, List.set_cons_succ]
      refine btake 9 (oi := _) (v := ?_) (by simp only [List.getElem?_toArray, List.getElem?_cons_succ, List.getElem?_cons_zero]; rfl) (by kernel_rfl) (by exact fun _ _ _ h => h) (by first | assumption | exact KB.refl _) (.inl ⟨by rfl, fun W hW => ?_⟩) ?_; rotate_left
      · (go_simp; first | done | with_reducible rfl)
      try simp only [Act.put, List.setIfInBounds_toArray, List.set_cons_zero, List.set_cons_succ]
      -- 10: Op.buildSlice 22 1 #[(0, Operand.tmp 17)]
      refine bop 10 (o := _) (by simp only [List.getElem?_toArray, List.getElem?_cons_succ, List.getElem?_cons_zero]; rfl) (by kernel_rfl) (by first | assumption | exact KB.refl _) (by rfl) (fun K hK => ?_)
      go_simp
      have hkb : KB w.heap (w.alloc (.cells #[.slice A m c] 25)).drew := KB.alloc w _
      refine hK.out _ _ hkb ?_; clear hK K
      try simp only [Act.put, List.setIfInBounds_toArray, List.set_cons_zero, List.set_cons_succ]
      -- 11: newsreel/newsreelref1.Sum
      refine bop 11 (o := _) (by simp only [List.getElem?_toArray, List.getElem?_cons_succ, List.getElem?_cons_zero]; rfl) (by kernel_rfl) (by first | assumption | exact KB.refl _) (by rfl) (fun K hK => ?_)
      go_simp
      refine (HS.out hM).mono ?_
      rintro e w3 ⟨rfl, h3⟩
      have hkb := KB.of h3
      refine hK.out _ _ hkb ?_; clear hK K
      try simp only [Act.put, List.setIfInBounds_toArray, List.set_cons_zero, List.set_cons_succ]
      refine btake 12 (oi := _) (v := ?_) (by simp only [List.getElem?_toArray, List.getElem?_cons_succ, List.getElem?_cons_zero]; rfl) (by kernel_rfl) (by exact fun _ _ _ h => h) (by first | assumption | exact KB.refl _) (.inl ⟨by rfl, fun W hW => ?_⟩) ?_; rotate_left
      · (go_simp; first | done | with_reducible rfl)
      try simp only [Act.put, List.setIfInBounds_toArray, List.set_cons_zero, List.set_cons_succ]
      refine btake 13 (oi := _) (v := ?_) (by simp only [List.getElem?_toArray, List.getElem?_cons_succ, List.getElem?_cons_zero]; rfl) (by kernel_rfl) (by exact fun _ _ _ h => h) (by first | assumption | exact KB.refl _) (.inl ⟨by rfl, fun W hW => ?_⟩) ?_; rotate_left
      · (go_simp; first | done | with_reducible rfl)
      try simp only [Act.put, List.setIfInBounds_toArray, List.set_cons_zero, List.set_cons_succ]
      refine btake 14 (oi := _) (v := ?_) (by simp only [List.getElem?_toArray, List.getElem?_cons_succ, List.getElem?_cons_zero]; rfl) (by kernel_rfl) (by exact fun _ _ _ h => h) (by first | assumption | exact KB.refl _) (.inl ⟨by rfl, fun W hW => ?_⟩) ?_; rotate_left
      · (go_simp; first | done | with_reducible rfl)
      try simp only [Act.put, List.setIfInBounds_toArray, List.set_cons_zero, List.set_cons_succ]
      refine bdone (by kernel_rfl) ?_
      have hb3' := bstep (balloc (Below.refl w.heap.size w) (.cells #[.slice A m c] 25)).drew h3
      go_wp2_with fail
      go_ret2
      exact ⟨rfl, hb3'⟩
end Go.Proofs.Ytkgmbpbbgkjidaa

