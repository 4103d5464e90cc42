/- 'LogBack': the walk of the law. -/
import Derived.Test.YtkgmbpbbgkjidaaLt
namespace Go.Proofs.Ytkgmbpbbgkjidaa
open Go.RowKit Go.Proofs.Ytkgmbpbbgkjidaa.Pl Go.Proofs.Ytkgmbpbbgkjidaa.Pc Go.Proofs.Ytkgmbpbbgkjidaa.Lg

set_option maxRecDepth 100000 in
set_option maxHeartbeats 6400000 in
theorem LogBack_walk (w : World) (Al : Option Addr) (cl : Nat) (ls : List (List UInt8)) (hM : Mat w Al ls) (hcl : ls.length ≤ cl) (hml : cl ≤ maxLen) (A : Option Addr) (c : Nat) (b : List UInt8) (hb : Sl w w.heap.size A (bv b)) (hc : b.length ≤ c) (hm : c ≤ 140737488351232) :
    Calls Try.prog 5 #[.slice Al ls.length cl, .slice A b.length c] w fun e w' => e = .returned (.bool true) ∧ Below w.heap.size w w' := by
  have hcm : c ≤ maxLen := by simp only [maxLen]; omega
  have hm63 : ls.length ≤ 9223372036854775807 := by simp only [maxLen] at hml; omega
  go_enter Try.func5, Try.ntmps5
  go_wp2_with fail
  refine (lgKnown_any w).mono ?_
  rintro e w1 ⟨rfl, b1⟩
  have sb := (hb.below b1).more b1.size
  have hM1 := hM.below b1
  clear hb hM
  by_cases h1 : 1000 < b.length
  · have hd : decide (1000 < (b.length : Int)) = true := by simp; omega
    go_wp2_with fail
    go_ret
    exact ⟨rfl, b1⟩
  have hd1 : decide (1000 < (b.length : Int)) = false := by simp; omega
  go_wp2_with fail
  refine (few_any w1 Al ls.length cl ls hM1 rfl hm63).mono ?_
  rintro e w' ⟨t, rfl, rfl, ht⟩
  cases t with
  | false =>
    go_wp2_with fail
    go_ret
    exact ⟨rfl, b1⟩
  | true =>
    have hF := ht rfl
    obtain ⟨hP, hPl⟩ := hF.put
    have h20 := hF.1
    have hS1 := scan_recs_all hF.mem
    have hS2 := scan_back ls b hF.mem
    have HP := Lib.hid (And.intro hP (show (recs ls).length ≤ 1000000 by omega))
    obtain ⟨R, hR⟩ : ∃ R, recs ls = R := ⟨_, rfl⟩
    rw [hR] at HP hS1 hS2 hPl
    have HPR := Lib.hid (show (recs ls).length ≤ 1000000 by rw [hR]; omega)
    obtain ⟨T, K, hTK⟩ : ∃ T K, Lg.scan b = (T, K) := ⟨_, _, rfl⟩
    rw [hTK] at hS2
    simp only at hS2
    obtain ⟨F, hFq⟩ : ∃ F, R ++ b = F := ⟨_, rfl⟩
    have hFl : F.length = R.length + b.length := by rw [← hFq, List.length_append]
    rw [hFq] at hS2
    have hLl : ls.length ≤ (ls ++ T).length := by rw [List.length_append]; omega
    have hLt : (ls ++ T).take ls.length = ls := List.take_left' rfl
    generalize ls ++ T = L at *
    have HS := Lib.hid (And.intro hS1 (And.intro hS2 (And.intro hFq hLt)))
    have q1 : decide (((R.length : Nat) : Int) ≤ ((R.length + K : Nat) : Int)) = true := by rw [decide_eq_true_eq]; omega
    have q2 : decide (((ls.length : Nat) : Int) ≤ ((L.length : Nat) : Int)) = true := by rw [decide_eq_true_eq]; omega
    have hRK : R.length ≤ R.length + K := by omega
    have q3 : decide (R.length ≤ R.length + K) = true := by rw [decide_eq_true_eq]; omega
    have q4 : decide (ls.length ≤ L.length) = true := by rw [decide_eq_true_eq]; omega
    generalize R.length + K = RK at *
    clear ht hF hP hR hd1 hS1 hS2 hFq hTK hLt
    go_wp2_with fail
    refine (LPut_lit w1 Al ls.length cl ls R R.length 0 hM1 rfl (by simp only [maxLen]; omega) HPR.out HP.out.1 rfl).mono ?_
    rintro e w3 ⟨A3, c3, rfl, s3, hc3, hm3, hb3⟩
    have hM3 := hM1.below hb3
    have b3 := b1.trans (hb3.mono b1.size)
    replace sb := (sb.below hb3).more hb3.size
    clear b1 hb3 hM1
    go_wp2_with fail
    refine (Scan_lit w3 A3 R.length c3 R ls ls.length R.length s3 rfl hc3 hm3 (by omega) HS.out.1 rfl).mono ?_
    rintro e w4 ⟨A4, c4, rfl, hM4, hc4, hm4, hb4⟩
    have hMl4 := hM3.below hb4
    have b4 := b3.trans (hb4.mono b3.size)
    replace sb := (sb.below hb4).more hb4.size
    replace s3 := (s3.below hb4).more hb4.size
    clear b3 hb4 hM3
    go_wp2_with fail
    refine (Bytes_eq w4 A4 Al ls.length ls.length c4 cl ls hM4 hMl4 rfl rfl hm63).mono ?_
    rintro e w5 ⟨rfl, hb5⟩
    have hMl5 := hMl4.below hb5
    have b5 := b4.trans (hb5.mono b4.size)
    replace sb := (sb.below hb5).more hb5.size
    replace s3 := (s3.below hb5).more hb5.size
    clear b4 hb5 hM4 hMl4
    go_wp2_with (at_builtin; first
      | (refine appG (by rfl) rfl (OwnB.nil w5 w5.heap.size) s3 rfl rfl rfl (by simp; omega) (Nat.le_refl _) ?_; intro s6 w6 hown6 hg6 hat6; rw [List.nil_append] at hown6; have d6 : Below w5.heap.size w5 w6 := below_of_grown hg6 (by simp [Value.ownBlock]) (Nat.le_refl _); obtain ⟨A6, c6, rfl, hc6, hm6, s6, _, _⟩ := hown6.form; have sb6 := (sb.below d6).more d6.size)
      | (refine appG (by rfl) rfl hown6 sb6 rfl rfl rfl (by omega) d6.size ?_; intro s7 w7 hown7 hg7 hat7))
    rw [HS.out.2.2.1] at hown7
    have d7 := own_below d6 d6.size hown6 hg7
    obtain ⟨A7, c7, rfl, hc7, hm7, s7, _, _⟩ := hown7.form
    have hMl7 := hMl5.below d7
    have b7 := b5.trans (d7.mono b5.size)
    clear hown6 hown7 hg7 hg6 sb6 s6 d6 d7 sb s3 hMl5 b5
    refine (Scan_lit w7 A7 F.length c7 F L L.length RK s7 rfl hc7 hm7 (by omega) HS.out.2.1 rfl).mono ?_
    rintro e w8 ⟨A8, c8, rfl, hM8, hc8, hm8, hb8⟩
    have hMl8 := hMl7.below hb8
    have b8 := b7.trans (hb8.mono b7.size)
    have hM8' := hM8.tk ls.length
    rw [HS.out.2.2.2] at hM8'
    have hq : (ls.length : Int) ≤ (c8 : Int) := by omega
    clear hM8 hb8 hMl7 b7
    go_wp2_with fail
    refine (Bytes_eq w8 A8 Al ls.length ls.length c8 cl ls hM8' hMl8 rfl rfl hm63).mono ?_
    rintro e w9 ⟨rfl, hb9⟩
    go_wp2_with fail
    go_ret
    exact ⟨rfl, b8.trans (hb9.mono b8.size)⟩
end Go.Proofs.Ytkgmbpbbgkjidaa

