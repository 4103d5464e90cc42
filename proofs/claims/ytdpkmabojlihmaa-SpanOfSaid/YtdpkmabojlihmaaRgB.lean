/- Ranges: span.Right. -/
import Derived.Test.YtdpkmabojlihmaaRgA
namespace Go.Proofs.Ytdpkmabojlihmaa
open Go.RowKit Go.Proofs.Ytdpkmabojlihmaa.Pl Go.Proofs.Ytdpkmabojlihmaa.Sp

theorem okR_drop {l : List Rg} {k : Nat} (hk : k < l.length) (lo : Int) : okR lo (l.drop k) = (decide (lo ≤ (l[k]?.getD ⟨0, 0⟩).a) && (l[k]?.getD ⟨0, 0⟩).ok && okR ((l[k]?.getD ⟨0, 0⟩).b + 2) (l.drop (k + 1))) := by
  rw [List.drop_eq_getElem_cons hk, List.getElem?_eq_getElem hk, Option.getD_some, okR]
set_option maxRecDepth 100000 in
set_option maxHeartbeats 6400000 in
theorem RRight_any (w : World) (A : Option Addr) (n c : Nat) (l : List Rg) (hb : Sl w w.heap.size A (rv l)) (h0 : n = l.length) (hl : n ≤ 1000000000) :
    Calls Try.prog 10 #[.slice A n c] w fun e w' => e = .returned (.bool (right l)) ∧ Below w.heap.size w w' := by
  have HN := Lib.hid h0
  clear h0
  go_enter Try.func10, Try.ntmps10
  go_wp2_with fail
  go_loopw [3, 8] (fun x3 x8 wr => ∃ (k : Nat) (z : Int), k ≤ n ∧ x8 = .int .i64 (k : Int) ∧ x3 = .int .i64 z ∧ -1 ≤ z ∧ z ≤ 1099511627775 ∧ right l = okR (z + 2) (l.drop k) ∧ Below w.heap.size w wr) (fun _ x8 _ => n - (intOf x8).toNat)
  case atStart => exact ⟨0, -1, by omega, rfl, rfl, by omega, by omega, rfl, Below.refl _ _⟩
  case round =>
    obtain ⟨k, z, hk, rfl, rfl, hz1, hz2, hrt, hbel⟩ := hrel
    by_cases hlt : k < n
    · have hkl : k < l.length := by have := HN.out; omega
      obtain ⟨b, o, rfl, _, hbW, c0, c1⟩ := rgAt hb hkl
      replace c0 := (hbel.cell hbW).trans c0
      replace c1 := (hbel.cell hbW).trans c1
      have hstep := okR_drop hkl (z + 2)
      generalize l[k]?.getD ⟨0, 0⟩ = x at *
      have hd1 : decide ((k : Int) < (n : Int)) = true := by rw [decide_eq_true_eq]; omega
      have hn0 : (0 : Int) ≤ (k : Int) := by omega
      have hn1 : (k : Int) < (n : Int) := by omega
      have hw1 : IntKind.i64.wrap (z + 2) = z + 2 := by rw [IntKind.wrap_i64]; omega
      have hbx := hbel.alloc hbel.size (.cells #[.int .i64 x.a, .int .i64 x.b] 24)
      by_cases hgood : z + 2 ≤ x.a ∧ x.ok = true
      · have hx := ok_iff.1 hgood.2
        unfold mx at hx
        rw [decide_eq_true hgood.1, hgood.2, Bool.true_and, Bool.true_and] at hstep
        have HS := Lib.hid (hrt.trans hstep)
        have hzx := hgood.1
        clear hgood hrt hstep
        have d0 : decide (x.a < z + 2) = false := by rw [decide_eq_false_iff_not]; omega
        have d1 : decide (x.a < 1) = false := by rw [decide_eq_false_iff_not]; omega
        have d2 : decide (x.b < x.a) = false := by rw [decide_eq_false_iff_not]; omega
        have d3 : decide ((1099511627775 : Int) < x.b) = false := by rw [decide_eq_false_iff_not]; omega
        go_wp2_with fail
        go_roundw
        case rel => exact ⟨k + 1, x.b, by omega, by go_num, rfl, by omega, by omega, HS.out, hbx⟩
        case measure => simp [intOf]; omega
      · have hbad : (decide (z + 2 ≤ x.a) && x.ok && okR (x.b + 2) (l.drop (k + 1))) = false := by
          rw [Bool.and_eq_false_iff]
          left
          rw [Bool.and_eq_false_iff]
          by_cases h : z + 2 ≤ x.a
          · right; rcases hx : x.ok with _ | _
            · rfl
            · exact absurd ⟨h, hx⟩ hgood
          · left; rw [decide_eq_false_iff_not]; exact h
        have hcase : x.a < z + 2 ∨ (¬ x.a < z + 2 ∧ x.a < 1) ∨ (¬ x.a < z + 2 ∧ ¬ x.a < 1 ∧ x.b < x.a) ∨ (¬ x.a < z + 2 ∧ ¬ x.a < 1 ∧ ¬ x.b < x.a ∧ (1099511627775 : Int) < x.b) := by
          rw [ok_iff] at hgood
          unfold mx at hgood
          omega
        clear hgood
        rcases hcase with hcase | hcase | hcase | hcase
        · -- 0
          have d0 : decide (x.a < z + 2) = true := by rw [decide_eq_true_eq]; omega
          have HF := Lib.hid (show right l = false by rw [hrt, hstep]; exact hbad)
          clear hbad hstep hrt hcase
          go_wp2_with fail
          go_ret
          exact ⟨ret_b HF.out.symm, hbx⟩
        · -- 1
          have d0 : decide (x.a < z + 2) = false := by rw [decide_eq_false_iff_not]; omega
          have d1 : decide (x.a < 1) = true := by rw [decide_eq_true_eq]; omega
          have HF := Lib.hid (show right l = false by rw [hrt, hstep]; exact hbad)
          clear hbad hstep hrt hcase
          go_wp2_with fail
          go_ret
          exact ⟨ret_b HF.out.symm, hbx⟩
        · -- 2
          have d0 : decide (x.a < z + 2) = false := by rw [decide_eq_false_iff_not]; omega
          have d1 : decide (x.a < 1) = false := by rw [decide_eq_false_iff_not]; omega
          have d2 : decide (x.b < x.a) = true := by rw [decide_eq_true_eq]; omega
          have HF := Lib.hid (show right l = false by rw [hrt, hstep]; exact hbad)
          clear hbad hstep hrt hcase
          go_wp2_with fail
          go_ret
          exact ⟨ret_b HF.out.symm, hbx⟩
        · -- 3
          have d0 : decide (x.a < z + 2) = false := by rw [decide_eq_false_iff_not]; omega
          have d1 : decide (x.a < 1) = false := by rw [decide_eq_false_iff_not]; omega
          have d2 : decide (x.b < x.a) = false := by rw [decide_eq_false_iff_not]; omega
          have d3 : decide ((1099511627775 : Int) < x.b) = true := by rw [decide_eq_true_eq]; omega
          have HF := Lib.hid (show right l = false by rw [hrt, hstep]; exact hbad)
          clear hbad hstep hrt hcase
          go_wp2_with fail
          go_ret
          exact ⟨ret_b HF.out.symm, hbx⟩
    · obtain rfl : k = n := by omega
      have hd1 : decide ((k : Int) < (k : Int)) = false := by rw [decide_eq_false_iff_not]; omega
      have HF := Lib.hid (show right l = true by rw [hrt, HN.out, List.drop_length]; rfl)
      clear hrt
      go_wp2_with fail
      go_ret
      exact ⟨ret_b HF.out.symm, hbel⟩
end Go.Proofs.Ytdpkmabojlihmaa

