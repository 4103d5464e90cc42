/- 'LogPuts': the walk of the law. -/
import Derived.Test.YtkgmbpbbgkjidaaLw
namespace Go.Proofs.Ytkgmbpbbgkjidaa
open Go.RowKit Go.Proofs.Ytkgmbpbbgkjidaa.Pl Go.Proofs.Ytkgmbpbbgkjidaa.Pc Go.Proofs.Ytkgmbpbbgkjidaa.Lg

set_option maxRecDepth 100000 in
set_option maxHeartbeats 6400000 in
theorem LogPuts_walk (w : World) (A : Option Addr) (c : Nat) (ls : List (List UInt8)) (hb : Mat w A ls) (hc : ls.length ≤ c) (hm : c ≤ maxLen) (x : Int) (_ : -9223372036854775808 ≤ x ∧ x ≤ 9223372036854775807) :
    Calls Try.prog 3 #[.slice A ls.length c, .int .i64 x] w fun e w' => e = .returned (.bool true) ∧ Below w.heap.size w w' := by
  have hm63 : ls.length ≤ 9223372036854775807 := by simp only [maxLen] at hm; omega
  go_enter Try.func3, Try.ntmps3
  go_wp2_with fail
  refine (lgKnown_any w).mono ?_
  rintro e w1 ⟨rfl, b1⟩
  have hM1 := hb.below b1
  clear hb
  go_wp2_with fail
  refine (few_any w1 A ls.length c ls hM1 rfl hm63).mono ?_
  rintro e w' ⟨t, rfl, rfl, ht⟩
  cases t with
  | false =>
    go_wp2_with fail
    go_ret
    exact ⟨rfl, b1⟩
  | true =>
    have hF := ht rfl
    obtain ⟨hP, hPl⟩ := hF.put
    have h20 := hF.1
    obtain ⟨n, hn⟩ : ∃ n, ls.length = n := ⟨_, rfl⟩
    rw [hn] at hm63 hc h20 ⊢
    have HF := Lib.hid (And.intro hF hn)
    have HP := Lib.hid (And.intro hP (show (recs ls).length ≤ 1000000 by omega))
    obtain ⟨R, hR⟩ : ∃ R, R = recs ls := ⟨_, rfl⟩
    rw [← hR] at HP hPl
    have HR := Lib.hid hR
    clear ht hF hP hn hR
    go_wp2_with fail
    refine (LPut_lit w1 A n c ls R R.length 0 hM1 HF.out.2.symm (by simp only [maxLen]; omega) (by rw [← HR.out]; exact HP.out.2) HP.out.1 rfl).mono ?_
    rintro e w2 ⟨A2, c2, rfl, s2, hc2, hm2, hb2⟩
    have hM2 := hM1.below hb2
    have b2 := b1.trans (hb2.mono b1.size)
    clear b1 hb2 hM1
    go_wp2_with fail
    refine (RPut_litL w2 A n c ls R R.length 0 hM2 HF.out.2.symm (by simp only [maxLen]; omega) (by rw [← HR.out]; exact HP.out.2) HP.out.1 rfl).mono ?_
    rintro e w3 ⟨A3, c3, rfl, s3, hc3, hm3, hb3⟩
    have hM3 := hM2.below hb3
    have s2' := (s2.below hb3).more hb3.size
    have b3 := b2.trans (hb3.mono b2.size)
    clear b2 hb3 hM2 s2
    go_wp2_with fail
    go_loopw [9, 10] (fun x9 x10 wr => ∃ k : Nat, k ≤ n ∧ x10 = .int .i64 (k : Int) ∧ x9 = .int .i64 ((recs (ls.take k)).length : Int) ∧ Below w3.heap.size w3 wr) (fun _ x10 _ => n - (intOf x10).toNat)
    case atStart => exact ⟨0, Nat.zero_le _, rfl, by simp [recs], Below.refl _ _⟩
    case round =>
      obtain ⟨k, hk, rfl, rfl, hbel⟩ := hrel
      by_cases hlt : k < n
      · have hk1 : k < ls.length := by have := HF.out.2; omega
        obtain ⟨bm, o, A4, c4, rfl, hbm, q0, _, _, _⟩ := (hM3.below hbel).at_ hk1
        have hl2 := HF.out.1.get k
        have hsz := sizeN_rec (l := ls[k]?.getD []) (by omega)
        have htk := recs_take_len hk1
        have htk2 := (recs_take hk1).2
        rw [← HR.out] at htk2
        generalize ls[k]?.getD [] = l at *
        have HS := Lib.hid (And.intro hsz htk)
        have hup : (recs (ls.take k)).length + (rec1 l).length ≤ R.length := by omega
        generalize (recs (ls.take k)).length = m at *
        have hm5 : m ≤ 4280 := by omega
        have hr5 : (rec1 l).length ≤ 4280 := by omega
        clear hsz htk htk2 hM3
        go_wp2_with fail
        refine (LSize_any _ _).mono ?_
        rintro e w5 ⟨rfl, hb5⟩
        rw [HS.out.1]
        generalize (rec1 l).length = rl at *
        go_wp2_with fail
        go_roundw
        case rel => exact ⟨k + 1, hlt, by go_num, by rw [HS.out.2]; go_num, hbel.trans (hb5.mono hbel.size)⟩
        case measure => simp [intOf]; omega
      · obtain rfl : k = n := by omega
        have hT : recs (ls.take k) = R := by rw [List.take_of_length_le (by have := HF.out.2; omega), HR.out]
        rw [hT]
        have sa := s2'.below hbel
        have sb := s3.below hbel
        have v1 := conv sa R.length c2 rfl
        have v2 := conv sb R.length c3 rfl
        clear hT hM3 s2' s3 sa sb
        go_wp2_with fail
        refine (LSize_any _ x).mono ?_
        rintro e w5 ⟨rfl, hb5⟩
        go_wp2_with fail
        refine (RSize_any _ x).mono ?_
        rintro e w6 ⟨rfl, hb6⟩
        go_wp2_with fail
        go_ret
        have b4 := b3.trans (hbel.mono b3.size)
        have b5 := b4.trans (hb5.mono b4.size)
        exact ⟨rfl, b5.trans (hb6.mono b5.size)⟩
end Go.Proofs.Ytkgmbpbbgkjidaa

