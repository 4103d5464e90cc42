/- 'LogTorn': the walk of the law. -/
import Derived.Test.YtkgmbpbbgkjidaaLt
namespace Go.Proofs.Ytkgmbpbbgkjidaa
open Go.RowKit Go.Proofs.Ytkgmbpbbgkjidaa.Pl Go.Proofs.Ytkgmbpbbgkjidaa.Pc Go.Proofs.Ytkgmbpbbgkjidaa.Lg

theorem recs_mono {ls : List (List UInt8)} {j m : Nat} (h : j ≤ m) : (recs (ls.take j)).length ≤ (recs (ls.take m)).length := by
  have e : ls.take m = ls.take j ++ (ls.take m).drop j := by
    have := (List.take_append_drop j (ls.take m)).symm
    rwa [List.take_take, Nat.min_eq_left h] at this
  rw [e, recs_append, List.length_append]
  omega
theorem torn_eq {ls : List (List UInt8)} {i m at' : Nat} (hi : i ≤ ls.length) (hm : m ≤ ls.length) (h1 : (recs (ls.take i)).length ≤ at') (h2 : ∀ h : i < ls.length, at' < (recs (ls.take i)).length + (rec1 (ls[i]?.getD [])).length)
    (g1 : (recs (ls.take m)).length ≤ at') (g2 : ∀ h : m < ls.length, at' < (recs (ls.take m)).length + (rec1 (ls[m])).length) : i = m := by
  rcases Nat.lt_trichotomy i m with h | h | h
  · have hl : i < ls.length := by omega
    have a := h2 hl
    have b := recs_take_len hl
    have c := recs_mono (ls := ls) (show i + 1 ≤ m by omega)
    omega
  · exact h
  · have hl : m < ls.length := by omega
    have a := g2 hl
    have b := recs_take_len hl
    rw [List.getElem?_eq_getElem hl, Option.getD_some] at b
    have c := recs_mono (ls := ls) (show m + 1 ≤ i by omega)
    omega
theorem scan_torn_at {ls : List (List UInt8)} {i at' : Nat} (hall : ∀ p ∈ ls, p.length ≤ 65536) (hi : i ≤ ls.length) (h1 : (recs (ls.take i)).length ≤ at') (h2 : ∀ h : i < ls.length, at' < (recs (ls.take i)).length + (rec1 (ls[i]?.getD [])).length) :
    Lg.scan ((recs ls).take at') = (ls.take i, (recs (ls.take i)).length) := by
  obtain ⟨m, hm, hs, g1, g2⟩ := scan_torn ls at' hall
  obtain rfl := torn_eq hi hm h1 h2 g1 g2
  exact hs

set_option maxRecDepth 100000 in
set_option maxHeartbeats 6400000 in
theorem LogTorn_walk (w : World) (A : Option Addr) (c : Nat) (ls : List (List UInt8)) (hb : Mat w A ls) (hc : ls.length ≤ c) (hm : c ≤ maxLen) (x : Int) (hx : -9223372036854775808 ≤ x ∧ x ≤ 9223372036854775807) :
    Calls Try.prog 6 #[.slice A ls.length c, .int .i64 x] w fun e w' => e = .returned (.bool true) ∧ Below w.heap.size w w' := by
  have hm63 : ls.length ≤ 9223372036854775807 := by simp only [maxLen] at hm; omega
  go_enter Try.func6, Try.ntmps6
  go_wp2_with fail
  refine (lgKnown_any w).mono ?_
  rintro e w1 ⟨rfl, b1⟩
  have hM1 := hb.below b1
  clear hb
  go_wp2_with fail
  refine (few_any w1 A ls.length c ls hM1 rfl hm63).mono ?_
  rintro e w' ⟨t, rfl, rfl, ht⟩
  cases t with
  | false =>
    go_wp2_with fail
    go_ret
    exact ⟨rfl, b1⟩
  | true =>
    have hF := ht rfl
    obtain ⟨hP, hPl⟩ := hF.put
    have h20 := hF.1
    obtain ⟨n, hn⟩ : ∃ n, ls.length = n := ⟨_, rfl⟩
    rw [hn] at hm63 hc h20 ⊢
    have HF := Lib.hid (And.intro hF hn)
    have HP := Lib.hid (And.intro hP (show (recs ls).length ≤ 1000000 by omega))
    obtain ⟨R, hR⟩ : ∃ R, R = recs ls := ⟨_, rfl⟩
    rw [← hR] at HP hPl
    have HR := Lib.hid hR
    clear ht hF hP hn hR
    have HPl := Lib.hid (fun W => Place_any W x (R.length + 1) (by omega) (by omega) hx.1 hx.2)
    go_wp2_with fail
    refine (LPut_lit w1 A n c ls R R.length 0 hM1 HF.out.2.symm (by simp only [maxLen]; omega) (by rw [← HR.out]; exact HP.out.2) HP.out.1 rfl).mono ?_
    rintro e w2 ⟨A2, c2, rfl, s2, hc2, hm2, hb2⟩
    have hM2 := hM1.below hb2
    have b2 := b1.trans (hb2.mono b1.size)
    clear b1 hb2 hM1
    go_wp2_with fail
    refine (HPl.out w2).mono ?_
    rintro e w3 ⟨t, ht, rfl, rfl⟩
    have ht' : t ≤ R.length := by omega
    have HT := Lib.hid (show t = (R.take t).length by rw [List.length_take]; omega)
    have htl : (R.take t).length ≤ 300000 := by rw [List.length_take]; omega
    have htc : (t : Int) ≤ (c2 : Int) := by omega
    have htc' : t ≤ c2 := by omega
    clear ht HPl
    go_wp2_with fail
    go_loopw [7, 8] (fun x7 x8 wr => ∃ k : Nat, k ≤ n ∧ x7 = .int .i64 (k : Int) ∧ x8 = .int .i64 ((recs (ls.take k)).length : Int) ∧ (recs (ls.take k)).length ≤ t ∧ Below w3.heap.size w3 wr) (fun x7 _ _ => n - (intOf x7).toNat)
    case atStart => exact ⟨0, Nat.zero_le _, rfl, by simp [recs], by simp [recs], Below.refl _ _⟩
    case round =>
      obtain ⟨k, hk, rfl, rfl, hkt, hbel⟩ := hrel
      by_cases hlt : k < n
      · have hk1 : k < ls.length := by have := HF.out.2; omega
        have hA2 := fun W (h : Below w3.heap.size w3 W) => (hM2.below h).at_ hk1
        obtain ⟨bm, o, A4, c4, rfl, hbm, q0, _, _, _⟩ := hA2 wr hbel
        have hl2 := HF.out.1.get k
        have hsz := sizeN_rec (l := ls[k]?.getD []) (by omega)
        have htk := recs_take_len hk1
        have hst := fun h => scan_torn_at (i := k) (at' := t) HF.out.1.mem (by have := HF.out.2; omega) hkt h
        rw [← HR.out] at hst
        have hr5 := rec1_few hl2
        generalize ls[k]?.getD [] = l at *
        have HS := Lib.hid (And.intro hsz (And.intro htk hst))
        generalize hmk : (recs (ls.take k)).length = m at *
        clear hsz htk hst
        have hm5 : m ≤ 4280 := by omega
        go_wp2_with fail
        refine (LSize_any _ _).mono ?_
        rintro e w5 ⟨rfl, hb5⟩
        rw [HS.out.1]
        generalize hrl : (rec1 l).length = rl at *
        by_cases hfit : m + rl ≤ t
        · have hd : decide ((m : Int) + (rl : Int) ≤ (t : Int)) = true := by rw [decide_eq_true_eq]; omega
          have b5 := hbel.trans (hb5.mono hbel.size)
          obtain ⟨bm', o', A5, c5, hA5, hbm', q5, _, _, _⟩ := hA2 w5 b5
          injection hA5 with hA5
          injection hA5 with e1 e2
          subst e1 e2
          clear hA2
          go_wp2_with fail
          refine (LSize_any _ _).mono ?_
          rintro e w6 ⟨rfl, hb6⟩
          rw [HS.out.1]
          go_wp2_with fail
          go_roundw
          case rel => exact ⟨k + 1, hlt, by go_num, by rw [HS.out.2.1]; go_num, by rw [HS.out.2.1]; exact hfit, (hbel.trans (hb5.mono hbel.size)).trans (hb6.mono (hbel.trans (hb5.mono hbel.size)).size)⟩
          case measure => simp [intOf]; omega
        · have hd : decide ((m : Int) + (rl : Int) ≤ (t : Int)) = false := by rw [decide_eq_false_iff_not]; omega
          have hsc := HS.out.2.2 (fun _ => by omega)
          have b5 := hbel.trans (hb5.mono hbel.size)
          have hM5 := hM2.below b5
          have s5 := ((s2.below b5).more b5.size).tk t
          rw [bv_take] at s5
          have b6 := b2.trans (b5.mono b2.size)
          have hkl : (ls.take k).length = k := by rw [List.length_take]; have := HF.out.2; omega
          have hMt := hM5.tk k
          have hkc : (k : Int) ≤ (c : Int) := by omega
          generalize ls.take k = tk at *
          generalize R.take t = rt at *
          have HW := Lib.hid (And.intro hsc hkl)
          clear hsc hkl hM5 s2 hM2
          go_wp2_with fail
          refine (Scan_lit _ A2 t c2 rt tk k m s5 HT.out htc' hm2 htl HW.out.1 HW.out.2).mono ?_
          rintro e w8 ⟨A8, c8, rfl, hM8, hc8, hm8, hb8⟩
          have hMt8 := hMt.below hb8
          have b8 := b6.trans (hb8.mono b6.size)
          clear hMt b6
          go_wp2_with fail
          refine (Bytes_eq w8 A8 _ k k c8 c tk hM8 hMt8 HW.out.2.symm HW.out.2.symm (by omega)).mono ?_
          rintro e w9 ⟨rfl, hb9⟩
          go_wp2_with fail
          go_ret
          exact ⟨rfl, b8.trans (hb9.mono b8.size)⟩
      · obtain rfl : k = n := by omega
        have hsc := scan_torn_at (i := k) (at' := t) HF.out.1.mem (by have := HF.out.2; omega) hkt (fun h => by have := HF.out.2; omega)
        rw [← HR.out] at hsc
        have hM5 := hM2.below hbel
        have s5 := ((s2.below hbel).more hbel.size).tk t
        rw [bv_take] at s5
        have b6 := b2.trans (hbel.mono b2.size)
        generalize hmk : (recs (ls.take k)).length = m at *
        have hkl : (ls.take k).length = k := by rw [List.length_take]; have := HF.out.2; omega
        have hMt := hM5.tk k
        have hkc : (k : Int) ≤ (c : Int) := by omega
        generalize ls.take k = tk at *
        generalize R.take t = rt at *
        have HW := Lib.hid (And.intro hsc hkl)
        clear hsc hkl hM5 s2 hM2
        go_wp2_with fail
        refine (Scan_lit _ A2 t c2 rt tk k m s5 HT.out htc' hm2 htl HW.out.1 HW.out.2).mono ?_
        rintro e w8 ⟨A8, c8, rfl, hM8, hc8, hm8, hb8⟩
        have hMt8 := hMt.below hb8
        have b8 := b6.trans (hb8.mono b6.size)
        clear hMt b6
        go_wp2_with fail
        refine (Bytes_eq w8 A8 _ k k c8 c tk hM8 hMt8 HW.out.2.symm HW.out.2.symm (by omega)).mono ?_
        rintro e w9 ⟨rfl, hb9⟩
        go_wp2_with fail
        go_ret
        exact ⟨rfl, b8.trans (hb9.mono b8.size)⟩
end Go.Proofs.Ytkgmbpbbgkjidaa

