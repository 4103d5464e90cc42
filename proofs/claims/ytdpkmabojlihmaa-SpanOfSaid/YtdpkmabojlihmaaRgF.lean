/- Ranges: First. -/
import Derived.Test.YtdpkmabojlihmaaRgC
namespace Go.Proofs.Ytdpkmabojlihmaa
open Go.RowKit Go.Proofs.Ytdpkmabojlihmaa.Pl Go.Proofs.Ytdpkmabojlihmaa.Sp

set_option maxRecDepth 100000 in
set_option maxHeartbeats 3200000 in
theorem RFirst_any (w : World) (A : Option Addr) (n c : Nat) (l : List Rg) (hb : Sl w w.heap.size A (rv l)) (h0 : n = l.length) (hl : n ≤ 1000000000) :
    Calls Try.prog 16 #[.slice A n c] w fun e w' => e = .returned (.int .i64 (firstS l)) ∧ Below w.heap.size w w' := by
  have hr := RRight_any w A n c l hb h0 hl
  obtain ⟨q, hq⟩ : ∃ q, right l = q := ⟨_, rfl⟩
  rw [hq] at hr
  have HR := Lib.hid hr
  clear hr
  cases q with
  | false =>
    have HF := Lib.hid (show firstS l = 0 by rw [firstS, if_neg (by rw [hq]; simp)])
    clear hq hb h0
    go_enter Try.func16, Try.ntmps16
    go_wp2_with fail
    refine HR.out.mono ?_
    rintro e w1 ⟨rfl, h1⟩
    go_wp2_with fail
    go_ret
    exact ⟨ret_i HF.out.symm, h1⟩
  | true =>
    cases l with
    | nil =>
      rw [List.length_nil] at h0
      subst h0
      go_enter Try.func16, Try.ntmps16
      go_wp2_with fail
      refine HR.out.mono ?_
      rintro e w1 ⟨rfl, h1⟩
      go_wp2_with fail
      go_ret
      exact ⟨rfl, h1⟩
    | cons x t =>
      obtain ⟨b, o, rfl, _, hbW, c0, c1⟩ := rgAt hb (k := 0) (by simp)
      simp only [List.getElem?_cons_zero, Option.getD_some, Nat.zero_mul, Nat.add_zero] at c0 c1
      have hn0 : ((n : Int) == 0) = false := by rw [beq_eq_false_iff_ne]; simp at h0; omega
      have hn1 : (0 : Int) < (n : Int) := by simp at h0; omega
      have hn2 : 0 < n := by simp at h0; omega
      have hx1 : 1 ≤ x.a := by
        have h := hq
        rw [right, okR_cons, ok_iff] at h
        omega
      have hfs : firstS (x :: t) = if x.a = 1 then x.b else 0 := by rw [firstS, if_pos hq]; rfl
      clear hb h0
      by_cases hx : x.a = 1
      · rw [if_pos hx] at hfs
        have HF := Lib.hid hfs
        have e9 : (x.a != 1) = false := by rw [hx]; rfl
        clear hfs hq hx hx1
        go_enter Try.func16, Try.ntmps16
        go_wp2_with fail
        refine HR.out.mono ?_
        rintro e w1 ⟨rfl, h1⟩
        replace c0 := (h1.cell hbW).trans c0
        replace c1 := (h1.cell hbW).trans c1
        go_wp2_with fail
        go_ret
        exact ⟨ret_i HF.out.symm, h1⟩
      · rw [if_neg hx] at hfs
        have HF := Lib.hid hfs
        have e9 : (x.a != 1) = true := by rw [bne_iff_ne]; exact hx
        clear hfs hq hx hx1
        go_enter Try.func16, Try.ntmps16
        go_wp2_with fail
        refine HR.out.mono ?_
        rintro e w1 ⟨rfl, h1⟩
        replace c0 := (h1.cell hbW).trans c0
        replace c1 := (h1.cell hbW).trans c1
        go_wp2_with fail
        go_ret
        exact ⟨ret_i HF.out.symm, h1⟩
set_option maxRecDepth 100000 in
set_option maxHeartbeats 3200000 in
theorem RRFirst_any (w : World) (A : Option Addr) (n c : Nat) (l : List Rg) (hb : Sl w w.heap.size A (rv l)) (h0 : n = l.length) (hl : n ≤ 1000000000) :
    Calls Try.prog 17 #[.slice A n c] w fun e w' => e = .returned (.int .i64 (firstS l)) ∧ Below w.heap.size w w' := by
  have hr := RRRight_any w A n c l hb h0 hl
  obtain ⟨q, hq⟩ : ∃ q, right l = q := ⟨_, rfl⟩
  rw [hq] at hr
  have HR := Lib.hid hr
  clear hr
  cases q with
  | false =>
    have HF := Lib.hid (show firstS l = 0 by rw [firstS, if_neg (by rw [hq]; simp)])
    clear hq hb h0
    go_enter Try.func17, Try.ntmps17
    go_wp2_with fail
    refine HR.out.mono ?_
    rintro e w1 ⟨rfl, h1⟩
    go_wp2_with fail
    go_ret
    exact ⟨ret_i HF.out.symm, h1⟩
  | true =>
    cases l with
    | nil =>
      rw [List.length_nil] at h0
      subst h0
      go_enter Try.func17, Try.ntmps17
      go_wp2_with fail
      refine HR.out.mono ?_
      rintro e w1 ⟨rfl, h1⟩
      go_wp2_with fail
      go_ret
      exact ⟨rfl, h1⟩
    | cons x t =>
      obtain ⟨b, o, rfl, _, hbW, c0, c1⟩ := rgAt hb (k := 0) (by simp)
      simp only [List.getElem?_cons_zero, Option.getD_some, Nat.zero_mul, Nat.add_zero] at c0 c1
      have hn0 : ((n : Int) == 0) = false := by rw [beq_eq_false_iff_ne]; simp at h0; omega
      have hn1 : (0 : Int) < (n : Int) := by simp at h0; omega
      have hn2 : 0 < n := by simp at h0; omega
      have hx1 : 1 ≤ x.a := by
        have h := hq
        rw [right, okR_cons, ok_iff] at h
        omega
      have hfs : firstS (x :: t) = if x.a = 1 then x.b else 0 := by rw [firstS, if_pos hq]; rfl
      clear hb h0
      by_cases hx : x.a = 1
      · rw [if_pos hx] at hfs
        have HF := Lib.hid hfs
        have e9 : decide ((1 : Int) < x.a) = false := by rw [decide_eq_false_iff_not]; omega
        clear hfs hq hx hx1
        go_enter Try.func17, Try.ntmps17
        go_wp2_with fail
        refine HR.out.mono ?_
        rintro e w1 ⟨rfl, h1⟩
        replace c0 := (h1.cell hbW).trans c0
        replace c1 := (h1.cell hbW).trans c1
        go_wp2_with fail
        go_ret
        exact ⟨ret_i HF.out.symm, h1⟩
      · rw [if_neg hx] at hfs
        have HF := Lib.hid hfs
        have e9 : decide ((1 : Int) < x.a) = true := by rw [decide_eq_true_eq]; omega
        clear hfs hq hx hx1
        go_enter Try.func17, Try.ntmps17
        go_wp2_with fail
        refine HR.out.mono ?_
        rintro e w1 ⟨rfl, h1⟩
        replace c0 := (h1.cell hbW).trans c0
        replace c1 := (h1.cell hbW).trans c1
        go_wp2_with fail
        go_ret
        exact ⟨ret_i HF.out.symm, h1⟩
end Go.Proofs.Ytdpkmabojlihmaa

