/- Records: scans. -/
import Derived.Test.YtkgmbpbbgkjidaaLkn
namespace Go.Proofs.Ytkgmbpbbgkjidaa
open Go.RowKit Go.Proofs.Ytkgmbpbbgkjidaa.Pl Go.Proofs.Ytkgmbpbbgkjidaa.Pc Go.Proofs.Ytkgmbpbbgkjidaa.Lg

theorem Bytes_eq (w : World) (A A' : Option Addr) (n n' c c' : Nat) (ls : List (List UInt8)) (hb : Mat w A ls) (hb' : Mat w A' ls) (h0 : n = ls.length) (h0' : n' = ls.length) (hm : n ≤ 9223372036854775807) :
    Calls Try.prog 24 #[.slice A n c, .slice A' n' c'] w fun e w' => e = .returned (.bool true) ∧ Below w.heap.size w w' := by
  have := Bytes_any w A A' n n' c c' ls ls hb hb' h0 h0' hm
  simpa using this
set_option maxRecDepth 100000 in
set_option maxHeartbeats 3200000 in
theorem scans_any (w : World) (A : Option Addr) (n c : Nat) (b : List UInt8) (hb : Sl w w.heap.size A (bv b)) (h0 : n = b.length) (hc : n ≤ c) (hm : c ≤ maxLen) (hbl : b.length ≤ 300000) :
    Calls Try.prog 21 #[.slice A n c] w fun e w' => e = .returned (.bool true) ∧ Below w.heap.size w w' := by
  obtain ⟨hr1, hr2, hr3⟩ := Lg.scan_recs b.length b (Nat.le_refl _)
  obtain ⟨ls, k, hS⟩ : ∃ ls k, Lg.scan b = (ls, k) := ⟨_, _, rfl⟩
  rw [hS] at hr1 hr2 hr3
  simp only at hr1 hr2 hr3
  have HS1 := Lib.hid (Scan_lit w A n c b ls ls.length k hb h0 hc hm hbl hS rfl)
  have HS2 := Lib.hid (fun w' (h : Below w.heap.size w w') => RScan_lit w' A n c b ls ls.length k ((hb.below h).more h.size) h0 hc hm hbl hS rfl)
  have hput : putR ls = (b.take k, 0) := by
    unfold putR
    rw [if_pos (by simpa using hr3), hr1]
  have hbl2 : (recs ls).length ≤ 1000000 := by rw [hr1, List.length_take]; omega
  have hkn : (k : Int) ≤ (n : Int) := by omega
  have hkc : (k : Int) ≤ (c : Int) := by omega
  have hkt : (b.take k).length = k := by rw [List.length_take]; omega
  have hkb : k ≤ b.length := hr2
  have HP := Lib.hid (And.intro hput (And.intro hbl2 hkt))
  have HH := Lib.hid h0
  clear hr1 hr2 hr3 hS hput hbl2 h0 hkt hkb
  go_enter Try.func21, Try.ntmps21
  go_wp2_with fail
  refine HS1.out.mono ?_
  rintro e w1 ⟨A1, c1, rfl, hM1, hc1, hm1, hb1⟩
  go_wp2_with fail
  refine (HS2.out w1 hb1).mono ?_
  rintro e w2 ⟨A2, c2, rfl, hM2, hc2, hm2, hb2⟩
  have hM1' := hM1.below hb2
  have b2 := hb1.trans (hb2.mono hb1.size)
  have h63 : ls.length ≤ 9223372036854775807 := by simp only [maxLen] at hm1; omega
  clear hM1 HS1 HS2
  go_wp2_with fail
  refine (Bytes_eq w2 A1 A2 ls.length ls.length c1 c2 ls hM1' hM2 rfl rfl h63).mono ?_
  rintro e w3 ⟨rfl, hb3⟩
  have hM3 := hM1'.below hb3
  have b3 := b2.trans (hb3.mono b2.size)
  clear hM1' hM2
  go_wp2_with fail
  refine (LPut_lit w3 A1 ls.length c1 ls (b.take k) k 0 hM3 rfl (by omega) HP.out.2.1 HP.out.1 HP.out.2.2).mono ?_
  rintro e w4 ⟨A4, c4, rfl, s4, hc4, hm4, hb4⟩
  have b4 := b3.trans (hb4.mono b3.size)
  have sb := ((hb.below b4).more b4.size).tk k
  rw [bv_take] at sb
  have v1 := convB s4 k c4 HP.out.2.2.symm
  have v2 := convB sb k c HP.out.2.2.symm
  clear hM3 hb
  go_wp2_with fail
  refine bstart (by kernel_rfl) ?_
  refine btake 0 (oi := _) (v := ?_) (by simp only [List.getElem?_toArray, List.getElem?_cons_zero]; rfl) (by kernel_rfl) (by exact fun _ _ _ h => h) (by first | assumption | exact KB.refl _) (.inl ⟨by rfl, fun W hW => ?_⟩) ?_; rotate_left
  · (go_simp; first | done | with_reducible rfl)
  try simp only [Act.put, List.setIfInBounds_toArray, List.set_cons_zero, List.set_cons_succ]
  refine btake 1 (oi := _) (v := ?_) (by simp only [List.getElem?_toArray, List.getElem?_cons_succ, List.getElem?_cons_zero]; rfl) (by kernel_rfl) (by exact fun _ _ _ h => h) (by first | assumption | exact KB.refl _) (.inl ⟨by rfl, fun W hW => ?_⟩) ?_; rotate_left
  · (go_simp; first | done | with_reducible rfl)
  try simp only [Act.put, List.setIfInBounds_toArray, List.set_cons_zero, List.set_cons_succ]
  refine btake 2 (oi := _) (v := ?_) (by simp only [List.getElem?_toArray, List.getElem?_cons_succ, List.getElem?_cons_zero]; rfl) (by kernel_rfl) (by exact fun _ _ _ h => h) (by first | assumption | exact KB.refl _) (.inl ⟨by rfl, fun W hW => ?_⟩) ?_; rotate_left
  · (go_simp; first | done | with_reducible rfl)
  try simp only [Act.put, List.setIfInBounds_toArray, List.set_cons_zero, List.set_cons_succ]
  refine btake 3 (oi := _) (v := ?_) (by simp only [List.getElem?_toArray, List.getElem?_cons_succ, List.getElem?_cons_zero]; rfl) (by kernel_rfl) (by exact fun _ _ _ h => h) (by first | assumption | exact KB.refl _) (.inl ⟨by rfl, fun W hW => ?_⟩) ?_; rotate_left
  · (go_simp; first | done | with_reducible rfl)
  try simp only [Act.put, List.setIfInBounds_toArray, List.set_cons_zero, List.set_cons_succ]
  refine btake 4 (oi := _) (v := ?_) (by simp only [List.getElem?_toArray, List.getElem?_cons_succ, List.getElem?_cons_zero]; rfl) (by kernel_rfl) (by exact fun _ _ _ h => h) (by first | assumption | exact KB.refl _) (.inl ⟨by rfl, fun W hW => ?_⟩) ?_; rotate_left
  · (go_simp; first | done | with_reducible rfl)
  try simp only [Act.put, List.setIfInBounds_toArray, List.set_cons_zero, List.set_cons_succ]
  refine btake 5 (oi := _) (v := ?_) (by simp only [List.getElem?_toArray, List.getElem?_cons_succ, List.getElem?_cons_zero]; rfl) (by kernel_rfl) (by exact fun _ _ _ h => h) (by first | assumption | exact KB.refl _) (.inl ⟨by rfl, fun W hW => ?_⟩) ?_; rotate_left
  · (go_simp; first | done | with_reducible rfl)
  try simp only [Act.put, List.setIfInBounds_toArray, List.set_cons_zero, List.set_cons_succ]
  refine btake 6 (oi := _) (v := ?_) (by simp only [List.getElem?_toArray, List.getElem?_cons_succ, List.getElem?_cons_zero]; rfl) (by kernel_rfl) (by exact fun _ _ _ h => h) (by first | assumption | exact KB.refl _) (.inl ⟨by rfl, fun W hW => ?_⟩) ?_; rotate_left
  · (go_simp; first | done | with_reducible rfl)
  try simp only [Act.put, List.setIfInBounds_toArray, List.set_cons_zero, List.set_cons_succ]
  refine btake 7 (oi := _) (v := ?_) (by simp only [List.getElem?_toArray, List.getElem?_cons_succ, List.getElem?_cons_zero]; rfl) (by kernel_rfl) (by exact fun _ _ _ h => h) (by first | assumption | exact KB.refl _) (.inl ⟨by rfl, fun W hW => ?_⟩) ?_; rotate_left
  · (go_simp; first | done | with_reducible rfl)
  try simp only [Act.put, List.setIfInBounds_toArray, List.set_cons_zero, List.set_cons_succ]
  refine btake 8 (oi := _) (v := ?_) (by simp only [List.getElem?_toArray, List.getElem?_cons_succ, List.getElem?_cons_zero]; rfl) (by kernel_rfl) (by exact fun _ _ _ h => h) (by first | assumption | exact KB.refl _) (.inl ⟨by rfl, fun W hW => ?_⟩) ?_; rotate_left
  · (go_simp; first | done | with_reducible rfl)
  try simp only [Act.put, List.setIfInBounds_toArray, List.set_cons_zero, List.set_cons_succ]
  refine btake 9 (oi := _) (v := ?_) (by simp only [List.getElem?_toArray, List.getElem?_cons_succ, List.getElem?_cons_zero]; rfl) (by kernel_rfl) (by exact fun _ _ _ h => h) (by first | assumption | exact KB.refl _) (.inl ⟨by rfl, fun W hW => ?_⟩) ?_; rotate_left
  · (go_simp; first | done | with_reducible rfl)
  try simp only [Act.put, List.setIfInBounds_toArray, List.set_cons_zero, List.set_cons_succ]
  refine btake 10 (oi := _) (v := ?_) (by simp only [List.getElem?_toArray, List.getElem?_cons_succ, List.getElem?_cons_zero]; rfl) (by kernel_rfl) (by exact fun _ _ _ h => h) (by first | assumption | exact KB.refl _) (.inl ⟨by rfl, fun W hW => ?_⟩) ?_; rotate_left
  · (go_simp; first | done | with_reducible rfl)
  try simp only [Act.put, List.setIfInBounds_toArray, List.set_cons_zero, List.set_cons_succ]
  refine btake 11 (oi := _) (v := ?_) (by simp only [List.getElem?_toArray, List.getElem?_cons_succ, List.getElem?_cons_zero]; rfl) (by kernel_rfl) (by exact fun _ _ _ h => h) (by first | assumption | exact KB.refl _) (.inl ⟨by rfl, fun W hW => ?_⟩) ?_; rotate_left
  · (go_simp; first | done | with_reducible rfl)
  try simp only [Act.put, List.setIfInBounds_toArray, List.set_cons_zero, List.set_cons_succ]
  refine bdone (by kernel_rfl) ?_
  go_wp2_with fail
  go_ret
  exact ⟨rfl, b4.drew⟩
end Go.Proofs.Ytkgmbpbbgkjidaa

