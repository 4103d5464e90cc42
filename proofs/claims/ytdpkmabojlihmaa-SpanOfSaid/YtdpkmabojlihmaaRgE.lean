/- Ranges: whether two rows are one. -/
import Derived.Test.YtdpkmabojlihmaaRgA
namespace Go.Proofs.Ytdpkmabojlihmaa
open Go.RowKit Go.Proofs.Ytdpkmabojlihmaa.Pl Go.Proofs.Ytdpkmabojlihmaa.Sp

set_option maxRecDepth 100000 in
theorem SameR_any (w : World) {B B' : Nat} (A A' : Option Addr) (n n' c c' : Nat) (l m : List Rg) (hl : Sl w B A (rv l)) (hm : Sl w B' A' (rv m)) (h0 : n = l.length) (h1 : n' = m.length) (hn : n ≤ 1000000000) (hn' : n' ≤ 1000000000) (_ : B ≤ w.heap.size) (_ : B' ≤ w.heap.size) :
    Calls Try.prog 18 #[.slice A n c, .slice A' n' c'] w fun e w' => e = .returned (.bool (decide (l = m))) ∧ Below w.heap.size w w' := by
  by_cases hne : n = n'
  · subst hne
    have HN := Lib.hid (And.intro h0 h1)
    clear h0 h1
    go_enter Try.func18, Try.ntmps18
    go_wp2_with fail
    go_loopw [5] (fun x5 wr => ∃ k : Nat, k ≤ n ∧ x5 = .int .i64 (k : Int) ∧ l.take k = m.take k ∧ Below w.heap.size w wr) (fun x5 _ => n - (intOf x5).toNat)
    case atStart => exact ⟨0, by omega, rfl, rfl, Below.refl _ _⟩
    case round =>
      obtain ⟨k, hk, rfl, htk, hbel⟩ := hrel
      by_cases hlt : k < n
      · have hkl : k < l.length := by have := HN.out.1; omega
        have hkm : k < m.length := by have := HN.out.2; omega
        obtain ⟨b, o, rfl, hb1, hb2, c0, c1⟩ := rgAt hl hkl
        obtain ⟨b', o', rfl, hb3, hb4, d0, d1⟩ := rgAt hm hkm
        have HE := Lib.hid (And.intro (fun h : l[k]?.getD ⟨0, 0⟩ = m[k]?.getD ⟨0, 0⟩ => show l.take (k + 1) = m.take (k + 1) by
          rw [List.getElem?_eq_getElem hkl, List.getElem?_eq_getElem hkm, Option.getD_some, Option.getD_some] at h
          rw [List.take_succ_eq_append_getElem hkl, List.take_succ_eq_append_getElem hkm, htk, h]) (fun (h : ¬ l[k]?.getD ⟨0, 0⟩ = m[k]?.getD ⟨0, 0⟩) (e : l = m) => h (by rw [e])))
        generalize l[k]?.getD ⟨0, 0⟩ = x at *
        generalize m[k]?.getD ⟨0, 0⟩ = y at *
        have hd1 : decide ((k : Int) < (n : Int)) = true := by rw [decide_eq_true_eq]; omega
        obtain ⟨q, hq⟩ : ∃ q, decide (x = y) = q := ⟨_, rfl⟩
        have heq := fun W => ne2R W x y
        rw [hq] at heq
        unfold Rg.v at heq
        have HT := Lib.hid htk
        replace c0 := (hbel.cell hb2).trans c0
        replace c1 := (hbel.cell hb2).trans c1
        replace d0 := (hbel.cell hb4).trans d0
        replace d1 := (hbel.cell hb4).trans d1
        clear htk hl hm hkl hkm
        go_wp2_with fail
        have hb0 : (0 : Int) ≤ (k : Int) := by omega
        have hb1 : (k : Int) < (n : Int) := by omega
        have q0 := cellB c0
        have q1 := cellB c1
        have q2 := cellB d0
        have q3 := cellB d1
        refine bstart (by kernel_rfl) ?_
        refine btake 0 (oi := _) (v := ?_) (by simp only [List.getElem?_toArray, List.getElem?_cons_zero]; rfl) (by kernel_rfl) (by exact fun _ _ _ h => h) (by first | assumption | exact KB.refl _) (.inl ⟨by rfl, fun W hW => ?_⟩) ?_; rotate_left
        · (go_simp; first | done | with_reducible rfl)
        try simp only [Act.put, List.setIfInBounds_toArray, List.set_cons_zero, List.set_cons_succ]
        refine btake 1 (oi := _) (v := ?_) (by simp only [List.getElem?_toArray, List.getElem?_cons_succ, List.getElem?_cons_zero]; rfl) (by kernel_rfl) (by exact fun _ _ _ h => h) (by first | assumption | exact KB.refl _) (.inl ⟨by rfl, fun W hW => ?_⟩) ?_; rotate_left
        · (go_simp; first | done | with_reducible rfl)
        try simp only [Act.put, List.setIfInBounds_toArray, List.set_cons_zero, List.set_cons_succ]
        refine btake 2 (oi := _) (v := ?_) (by simp only [List.getElem?_toArray, List.getElem?_cons_succ, List.getElem?_cons_zero]; rfl) (by kernel_rfl) (by exact fun _ _ _ h => h) (by first | assumption | exact KB.refl _) (.inl ⟨by rfl, fun W hW => ?_⟩) ?_; rotate_left
        · (go_simp; first | done | with_reducible rfl)
        try simp only [Act.put, List.setIfInBounds_toArray, List.set_cons_zero, List.set_cons_succ]
        refine btake 3 (oi := _) (v := ?_) (by simp only [List.getElem?_toArray, List.getElem?_cons_succ, List.getElem?_cons_zero]; rfl) (by kernel_rfl) (by exact fun _ _ _ h => h) (by first | assumption | exact KB.refl _) (.inl ⟨by rfl, fun W hW => ?_⟩) ?_; rotate_left
        · (go_simp; first | done | with_reducible rfl)
        try simp only [Act.put, List.setIfInBounds_toArray, List.set_cons_zero, List.set_cons_succ]
        refine btake 4 (oi := _) (v := ?_) (by simp only [List.getElem?_toArray, List.getElem?_cons_succ, List.getElem?_cons_zero]; rfl) (by kernel_rfl) (by exact fun _ _ _ h => h) (by first | assumption | exact KB.refl _) (.inl ⟨by rfl, fun W hW => ?_⟩) ?_; rotate_left
        · (go_simp; first | done | with_reducible rfl)
        try simp only [Act.put, List.setIfInBounds_toArray, List.set_cons_zero, List.set_cons_succ]
        refine btake 5 (oi := _) (v := ?_) (by simp only [List.getElem?_toArray, List.getElem?_cons_succ, List.getElem?_cons_zero]; rfl) (by kernel_rfl) (by exact fun _ _ _ h => h) (by first | assumption | exact KB.refl _) (.inl ⟨by rfl, fun W hW => ?_⟩) ?_; rotate_left
        · (go_simp; first | done | with_reducible rfl)
        try simp only [Act.put, List.setIfInBounds_toArray, List.set_cons_zero, List.set_cons_succ]
        refine btake 6 (oi := _) (v := ?_) (by simp only [List.getElem?_toArray, List.getElem?_cons_succ, List.getElem?_cons_zero]; rfl) (by kernel_rfl) (by exact fun _ _ _ h => h) (by first | assumption | exact KB.refl _) (.inl ⟨by rfl, fun W hW => ?_⟩) ?_; rotate_left
        · (go_simp; first | done | with_reducible rfl)
        try simp only [Act.put, List.setIfInBounds_toArray, List.set_cons_zero, List.set_cons_succ]
        refine btake 7 (oi := _) (v := ?_) (by simp only [List.getElem?_toArray, List.getElem?_cons_succ, List.getElem?_cons_zero]; rfl) (by kernel_rfl) (by exact fun _ _ _ h => h) (by first | assumption | exact KB.refl _) (.inl ⟨by rfl, fun W hW => ?_⟩) ?_; rotate_left
        · (go_simp; first | done | with_reducible rfl)
        try simp only [Act.put, List.setIfInBounds_toArray, List.set_cons_zero, List.set_cons_succ]
        refine btake 8 (oi := _) (v := ?_) (by simp only [List.getElem?_toArray, List.getElem?_cons_succ, List.getElem?_cons_zero]; rfl) (by kernel_rfl) (by exact fun _ _ _ h => h) (by first | assumption | exact KB.refl _) (.inl ⟨by rfl, fun W hW => ?_⟩) ?_; rotate_left
        · (go_simp; first | done | with_reducible rfl)
        try simp only [Act.put, List.setIfInBounds_toArray, List.set_cons_zero, List.set_cons_succ]
        refine bdone (by kernel_rfl) ?_
        have hbd := hbel.drew
        clear q0 q1 q2 q3 c0 c1 d0 d1 heq hbel
        by_cases hxy : x = y
        · obtain rfl : q = true := by rw [← hq, decide_eq_true_eq]; exact hxy
          clear hq
          go_wp2_with fail
          go_roundw
          case rel => exact ⟨k + 1, hlt, by go_num, HE.out.1 hxy, hbd⟩
          case measure => simp [intOf]; omega
        · obtain rfl : q = false := by rw [← hq, decide_eq_false_iff_not]; exact hxy
          clear hq
          go_wp2_with fail
          go_ret
          exact ⟨ret_b (by rw [eq_comm, decide_eq_false_iff_not]; exact HE.out.2 hxy), hbd⟩
      · obtain rfl : k = n := by omega
        have HD := Lib.hid (show l = m by rw [← List.take_length (l := l), ← HN.out.1, htk, HN.out.2, List.take_length])
        have hd1 : decide ((k : Int) < (k : Int)) = false := by rw [decide_eq_false_iff_not]; omega
        clear htk
        go_wp2_with fail
        go_ret
        exact ⟨ret_b (by rw [eq_comm, decide_eq_true_eq]; exact HD.out), hbel⟩
  · go_enter Try.func18, Try.ntmps18
    go_wp2_with fail
    go_ret
    exact ⟨ret_b (by rw [eq_comm, decide_eq_false_iff_not]; rintro rfl; exact hne (by omega)), Below.refl _ _⟩
end Go.Proofs.Ytdpkmabojlihmaa

