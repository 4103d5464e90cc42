/- 'SpanAdd', walked. -/
import Derived.Test.YtdpkmabojlihmaaPSpan4
import Derived.Test.YtdpkmabojlihmaaRgK2
import Derived.Test.YtdpkmabojlihmaaRgE
import Derived.Test.YtdpkmabojlihmaaFrame
namespace Go.Proofs.Ytdpkmabojlihmaa
open Go.RowKit Go.Proofs.Ytdpkmabojlihmaa.Pl Go.Proofs.Ytdpkmabojlihmaa.Sp

set_option maxRecDepth 100000 in
set_option maxHeartbeats 12800000 in
theorem SpanAdd_walk (w : World) (x : Nat) (hx : U64 x) (fr : Nat) (hfr : fr < 256) (n : Nat) (hn : n < 256) (at' : Nat) (hat : at' < 256) :
    Calls Try.prog 7 #[.int .u64 (x : Int), .int .u8 (fr : Int), .int .u8 (n : Int), .int .u8 (at' : Int)] w fun e w' => e = .returned (.bool true) ∧ Below w.heap.size w w' := by
  go_enter Try.func7, Try.ntmps7
  go_wp2_with fail
  refine (rknown_any w).mono ?_
  rintro e w0 ⟨rfl, hb0⟩
  go_wp2_with fail
  refine (Bits_any w0 x hx (10) (by omega) (by omega)).mono ?_
  rintro e w1 ⟨Aa, ca, rfl, sa, hlea, hcma, hkw1⟩
  obtain ⟨a, ha⟩ : ∃ L9, L9 = bitsR x (10) := ⟨_, rfl⟩
  rw [← ha] at sa hlea ⊢
  have hna : a.length ≤ 64 := by rw [ha]; exact bitsR_len _ _
  have hra : right a = true := by rw [ha]; exact bitsR_right _ _
  obtain ⟨ma, hma⟩ : ∃ q9, q9 = a.length := ⟨_, rfl⟩
  rw [← hma] at hlea hna ⊢
  have Ha := Lib.hid (And.intro hma (And.intro hna (And.intro hlea (And.intro hcma hra))))
  have Ea := Lib.hid ha
  clear ha hma hna hlea hcma hra
  have hbw1 := hb0.trans (hkw1.mono hb0.size)
  clear hkw1 hb0
  obtain ⟨ra, hra⟩ : ∃ ra : Int, (fr : Int) % 90 + 1 = ra := ⟨_, rfl⟩
  obtain ⟨rb, hrb⟩ : ∃ rb : Int, ra + (n : Int) % 30 = rb := ⟨_, rfl⟩
  obtain ⟨k, hk⟩ : ∃ k : Int, (at' : Int) % 130 = k := ⟨_, rfl⟩
  have hR := Lib.hid (show 1 ≤ ra ∧ ra ≤ rb ∧ rb ≤ 200 by omega)
  have hst := StandsR.new w1 24 ⟨ra, rb⟩
  have hkb := boxR w1 ⟨ra, rb⟩
  generalize hgb : w1.heap.size = gb at hst
  go_wp2_with fail
  clear hgb
  generalize w1.alloc (.cells #[.int .i64 ra, .int .i64 rb] 24) = v0 at hst hkb ⊢
  have hbv0 := hbw1.trans (hkb.mono hbw1.size)
  replace sa := (sa.below hkb).more hkb.size
  clear hkb hbw1
  refine (Add_any v0 Aa ma ca a (⟨ra, rb⟩ : Rg) sa Ha.out.1 (by have := Ha.out; omega)).mono ?_
  rintro e w2 ⟨As, cs, rfl, ss, hles, hcms, hkw2⟩
  obtain ⟨s, hs⟩ : ∃ L9, L9 = joinS a [(⟨ra, rb⟩ : Rg)] := ⟨_, rfl⟩
  rw [← hs] at ss hles ⊢
  have hns : s.length ≤ 65 := by rw [hs]; exact (by have := joinS_len a [(⟨ra, rb⟩ : Rg)]; have := Ha.out; simp at *; omega)
  have hrs : right s = true := by rw [hs]; exact joinS_right _ _
  obtain ⟨ms, hms⟩ : ∃ q9, q9 = s.length := ⟨_, rfl⟩
  rw [← hms] at hles hns ⊢
  have Hs := Lib.hid (And.intro hms (And.intro hns (And.intro hles (And.intro hcms hrs))))
  have Es := Lib.hid hs
  clear hs hms hns hles hcms hrs
  have hbw2 := hbv0.trans (hkw2.mono hbv0.size)
  replace sa := (sa.below hkw2).more hkw2.size
  replace hst := hst.below hkw2
  clear hkw2 hbv0
  have hok : right [(⟨ra, rb⟩ : Rg)] = true := by rw [right_one_ok, ok_iff]; have := hR.out; unfold mx; simp only; omega
  have HOK := Lib.hid hok
  clear hok
  go_wp2_with fail
  have hq := RRight_any w2 As ms cs s ss Hs.out.1 (by have := Hs.out; omega)
  rw [show right s = true from Hs.out.2.2.2.2] at hq
  refine Calls.mono hq ?_
  clear hq
  rintro e w3 ⟨rfl, hkw3⟩
  have hbw3 := hbw2.trans (hkw3.mono hbw2.size)
  replace sa := (sa.below hkw3).more hkw3.size
  replace ss := (ss.below hkw3).more hkw3.size
  replace hst := hst.below hkw3
  clear hkw3 hbw2
  obtain ⟨qa, hqa⟩ : ∃ q, hasS a k = q := ⟨_, rfl⟩
  obtain ⟨qs, hqs⟩ : ∃ q, hasS s k = q := ⟨_, rfl⟩
  have HQ := Lib.hid (show qs = (qa || (decide (ra ≤ k) && decide (k ≤ rb))) by rw [← hqa, ← hqs, hasS, hasS, Hs.out.2.2.2.2, Ha.out.2.2.2.2, Es.out, joinS_has Ha.out.2.2.2.2 HOK.out, has_cons, has_nil, Bool.or_false]; rfl)
  go_wp2_with fail
  have hq := RHas_any w3 As ms cs s ss Hs.out.1 (by have := Hs.out; omega) k
  rw [show hasS s k = qs from hqs] at hq
  refine Calls.mono hq ?_
  clear hq
  rintro e w4 ⟨rfl, hkw4⟩
  have hbw4 := hbw3.trans (hkw4.mono hbw3.size)
  replace sa := (sa.below hkw4).more hkw4.size
  replace ss := (ss.below hkw4).more hkw4.size
  replace hst := hst.below hkw4
  clear hkw4 hbw3
  go_wp2_with fail
  have hq := RHas_any w4 Aa ma ca a sa Ha.out.1 (by have := Ha.out; omega) k
  rw [show hasS a k = qa from hqa] at hq
  refine Calls.mono hq ?_
  clear hq
  rintro e w5 ⟨rfl, hkw5⟩
  have hbw5 := hbw4.trans (hkw5.mono hbw4.size)
  replace sa := (sa.below hkw5).more hkw5.size
  replace ss := (ss.below hkw5).more hkw5.size
  replace hst := hst.below hkw5
  clear hkw5 hbw4
  clear hqa hqs
  cases qa with
  | true =>
    obtain rfl : qs = true := HQ.out
    have m0 := hst.2.1
    have m1 := hst.2.2.1
    have hkL := boxR w5 (⟨ra, rb⟩ : Rg)
    have sL := Sl.oneR w5 (⟨ra, rb⟩ : Rg)
    go_wp2_with fail
    clear m0 m1
    generalize w5.alloc (.cells #[.int .i64 ra, .int .i64 rb] 24) = w6 at hkL sL ⊢
    have hbw6 := hbw5.trans (hkL.mono hbw5.size)
    replace sa := (sa.below hkL).more hkL.size
    replace ss := (ss.below hkL).more hkL.size
    replace hst := hst.below hkL
    clear hkL hbw5
    refine (Join_any w6 Aa (some ⟨w5.heap.size, 0, none⟩) ma 1 ca 1 a [(⟨ra, rb⟩ : Rg)] sa sL Ha.out.1 rfl (by have := Ha.out; omega) (by omega) (by omega)).mono ?_
    rintro e w7 ⟨At1, ct1, rfl, st1, hlet1, hcmt1, hkw7⟩
    obtain ⟨t1, ht1⟩ : ∃ L9, L9 = joinS a [(⟨ra, rb⟩ : Rg)] := ⟨_, rfl⟩
    rw [← ht1] at st1 hlet1 ⊢
    have hnt1 : t1.length ≤ 65 := by rw [ht1]; exact (by have := joinS_len a [(⟨ra, rb⟩ : Rg)]; have := Ha.out; simp at *; omega)
    have hrt1 : right t1 = true := by rw [ht1]; exact joinS_right _ _
    obtain ⟨mt1, hmt1⟩ : ∃ q9, q9 = t1.length := ⟨_, rfl⟩
    rw [← hmt1] at hlet1 hnt1 ⊢
    have Ht1 := Lib.hid (And.intro hmt1 (And.intro hnt1 (And.intro hlet1 (And.intro hcmt1 hrt1))))
    have Et1 := Lib.hid ht1
    clear ht1 hmt1 hnt1 hlet1 hcmt1 hrt1
    have hbw7 := hbw6.trans (hkw7.mono hbw6.size)
    replace sa := (sa.below hkw7).more hkw7.size
    replace ss := (ss.below hkw7).more hkw7.size
    replace hst := hst.below hkw7
    clear hkw7 hbw6
    clear sL
    go_wp2_with fail
    have hq := SameR_any w7 (B := w7.heap.size) (B' := w7.heap.size) As At1 ms mt1 cs ct1 s t1 ss st1 Hs.out.1 Ht1.out.1 (by have := Hs.out; omega) (by have := Ht1.out; omega) (Nat.le_refl _) (Nat.le_refl _)
    rw [show decide (s = t1) = true from (by rw [decide_eq_true_eq]; exact (Es.out.trans Et1.out.symm))] at hq
    refine Calls.mono hq ?_
    clear hq
    rintro e w8 ⟨rfl, hkw8⟩
    have hbw8 := hbw7.trans (hkw8.mono hbw7.size)
    replace sa := (sa.below hkw8).more hkw8.size
    replace ss := (ss.below hkw8).more hkw8.size
    replace st1 := (st1.below hkw8).more hkw8.size
    replace hst := hst.below hkw8
    clear hkw8 hbw7
    clear st1
    have m0 := hst.2.1
    have m1 := hst.2.2.1
    go_wp2_with fail
    refine (Add_any w8 As ms cs s (⟨ra, rb⟩ : Rg) ss Hs.out.1 (by have := Hs.out; omega)).mono ?_
    rintro e w9 ⟨At2, ct2, rfl, st2, hlet2, hcmt2, hkw9⟩
    obtain ⟨t2, ht2⟩ : ∃ L9, L9 = joinS s [(⟨ra, rb⟩ : Rg)] := ⟨_, rfl⟩
    rw [← ht2] at st2 hlet2 ⊢
    have hnt2 : t2.length ≤ 66 := by rw [ht2]; exact (by have := joinS_len s [(⟨ra, rb⟩ : Rg)]; have := Hs.out; simp at *; omega)
    have hrt2 : right t2 = true := by rw [ht2]; exact joinS_right _ _
    obtain ⟨mt2, hmt2⟩ : ∃ q9, q9 = t2.length := ⟨_, rfl⟩
    rw [← hmt2] at hlet2 hnt2 ⊢
    have Ht2 := Lib.hid (And.intro hmt2 (And.intro hnt2 (And.intro hlet2 (And.intro hcmt2 hrt2))))
    have Et2 := Lib.hid ht2
    clear ht2 hmt2 hnt2 hlet2 hcmt2 hrt2
    have hbw9 := hbw8.trans (hkw9.mono hbw8.size)
    replace sa := (sa.below hkw9).more hkw9.size
    replace ss := (ss.below hkw9).more hkw9.size
    replace hst := hst.below hkw9
    clear hkw9 hbw8
    clear m0 m1
    go_wp2_with fail
    have hq := SameR_any w9 (B := w9.heap.size) (B' := w9.heap.size) At2 As mt2 ms ct2 cs t2 s st2 ss Ht2.out.1 Hs.out.1 (by have := Ht2.out; omega) (by have := Hs.out; omega) (Nat.le_refl _) (Nat.le_refl _)
    rw [show decide (t2 = s) = true from (by rw [decide_eq_true_eq]; exact (by rw [Et2.out, Es.out]; exact join_twice Ha.out.2.2.2.2 HOK.out))] at hq
    refine Calls.mono hq ?_
    clear hq
    rintro e w10 ⟨rfl, hkw10⟩
    have hbw10 := hbw9.trans (hkw10.mono hbw9.size)
    replace sa := (sa.below hkw10).more hkw10.size
    replace ss := (ss.below hkw10).more hkw10.size
    replace st2 := (st2.below hkw10).more hkw10.size
    replace hst := hst.below hkw10
    clear hkw10 hbw9
    clear st2
    clear ss
    have m0 := hst.2.1
    have m1 := hst.2.2.1
    go_wp2_with fail
    clear m0 m1
    have hbad : ¬ right [(⟨rb + 1, ra⟩ : Rg)] = true := by rw [right_one_ok, ok_iff]; have := hR.out; simp only; omega
    refine (Add_any w10 Aa ma ca a ⟨rb + 1, ra⟩ sa Ha.out.1 (by have := Ha.out; omega)).mono ?_
    rintro e wz ⟨Az, cz, rfl, _, _, _, hkz⟩
    have hbz := hbw10.trans (hkz.mono hbw10.size)
    rw [show joinS a [(⟨rb + 1, ra⟩ : Rg)] = [] by rw [joinS, if_neg (fun h => hbad h.2)]]
    clear hbad hkz sa hst
    go_wp2_with fail
    go_ret
    exact ⟨rfl, hbz⟩
  | false =>
    by_cases h1 : ra ≤ k
    · have d1 : decide (ra ≤ k) = true := by rw [decide_eq_true_eq]; exact h1
      by_cases h2 : k ≤ rb
      · have d2 : decide (k ≤ rb) = true := by rw [decide_eq_true_eq]; exact h2
        obtain rfl : qs = true := by rw [HQ.out, d1, d2]; rfl
        clear h1 h2
        have m0 := hst.2.1
        have m1 := hst.2.2.1
        have hkL := boxR w5 (⟨ra, rb⟩ : Rg)
        have sL := Sl.oneR w5 (⟨ra, rb⟩ : Rg)
        go_wp2_with fail
        clear m0 m1
        generalize w5.alloc (.cells #[.int .i64 ra, .int .i64 rb] 24) = w6 at hkL sL ⊢
        have hbw6 := hbw5.trans (hkL.mono hbw5.size)
        replace sa := (sa.below hkL).more hkL.size
        replace ss := (ss.below hkL).more hkL.size
        replace hst := hst.below hkL
        clear hkL hbw5
        refine (Join_any w6 Aa (some ⟨w5.heap.size, 0, none⟩) ma 1 ca 1 a [(⟨ra, rb⟩ : Rg)] sa sL Ha.out.1 rfl (by have := Ha.out; omega) (by omega) (by omega)).mono ?_
        rintro e w7 ⟨At1, ct1, rfl, st1, hlet1, hcmt1, hkw7⟩
        obtain ⟨t1, ht1⟩ : ∃ L9, L9 = joinS a [(⟨ra, rb⟩ : Rg)] := ⟨_, rfl⟩
        rw [← ht1] at st1 hlet1 ⊢
        have hnt1 : t1.length ≤ 65 := by rw [ht1]; exact (by have := joinS_len a [(⟨ra, rb⟩ : Rg)]; have := Ha.out; simp at *; omega)
        have hrt1 : right t1 = true := by rw [ht1]; exact joinS_right _ _
        obtain ⟨mt1, hmt1⟩ : ∃ q9, q9 = t1.length := ⟨_, rfl⟩
        rw [← hmt1] at hlet1 hnt1 ⊢
        have Ht1 := Lib.hid (And.intro hmt1 (And.intro hnt1 (And.intro hlet1 (And.intro hcmt1 hrt1))))
        have Et1 := Lib.hid ht1
        clear ht1 hmt1 hnt1 hlet1 hcmt1 hrt1
        have hbw7 := hbw6.trans (hkw7.mono hbw6.size)
        replace sa := (sa.below hkw7).more hkw7.size
        replace ss := (ss.below hkw7).more hkw7.size
        replace hst := hst.below hkw7
        clear hkw7 hbw6
        clear sL
        go_wp2_with fail
        have hq := SameR_any w7 (B := w7.heap.size) (B' := w7.heap.size) As At1 ms mt1 cs ct1 s t1 ss st1 Hs.out.1 Ht1.out.1 (by have := Hs.out; omega) (by have := Ht1.out; omega) (Nat.le_refl _) (Nat.le_refl _)
        rw [show decide (s = t1) = true from (by rw [decide_eq_true_eq]; exact (Es.out.trans Et1.out.symm))] at hq
        refine Calls.mono hq ?_
        clear hq
        rintro e w8 ⟨rfl, hkw8⟩
        have hbw8 := hbw7.trans (hkw8.mono hbw7.size)
        replace sa := (sa.below hkw8).more hkw8.size
        replace ss := (ss.below hkw8).more hkw8.size
        replace st1 := (st1.below hkw8).more hkw8.size
        replace hst := hst.below hkw8
        clear hkw8 hbw7
        clear st1
        have m0 := hst.2.1
        have m1 := hst.2.2.1
        go_wp2_with fail
        refine (Add_any w8 As ms cs s (⟨ra, rb⟩ : Rg) ss Hs.out.1 (by have := Hs.out; omega)).mono ?_
        rintro e w9 ⟨At2, ct2, rfl, st2, hlet2, hcmt2, hkw9⟩
        obtain ⟨t2, ht2⟩ : ∃ L9, L9 = joinS s [(⟨ra, rb⟩ : Rg)] := ⟨_, rfl⟩
        rw [← ht2] at st2 hlet2 ⊢
        have hnt2 : t2.length ≤ 66 := by rw [ht2]; exact (by have := joinS_len s [(⟨ra, rb⟩ : Rg)]; have := Hs.out; simp at *; omega)
        have hrt2 : right t2 = true := by rw [ht2]; exact joinS_right _ _
        obtain ⟨mt2, hmt2⟩ : ∃ q9, q9 = t2.length := ⟨_, rfl⟩
        rw [← hmt2] at hlet2 hnt2 ⊢
        have Ht2 := Lib.hid (And.intro hmt2 (And.intro hnt2 (And.intro hlet2 (And.intro hcmt2 hrt2))))
        have Et2 := Lib.hid ht2
        clear ht2 hmt2 hnt2 hlet2 hcmt2 hrt2
        have hbw9 := hbw8.trans (hkw9.mono hbw8.size)
        replace sa := (sa.below hkw9).more hkw9.size
        replace ss := (ss.below hkw9).more hkw9.size
        replace hst := hst.below hkw9
        clear hkw9 hbw8
        clear m0 m1
        go_wp2_with fail
        have hq := SameR_any w9 (B := w9.heap.size) (B' := w9.heap.size) At2 As mt2 ms ct2 cs t2 s st2 ss Ht2.out.1 Hs.out.1 (by have := Ht2.out; omega) (by have := Hs.out; omega) (Nat.le_refl _) (Nat.le_refl _)
        rw [show decide (t2 = s) = true from (by rw [decide_eq_true_eq]; exact (by rw [Et2.out, Es.out]; exact join_twice Ha.out.2.2.2.2 HOK.out))] at hq
        refine Calls.mono hq ?_
        clear hq
        rintro e w10 ⟨rfl, hkw10⟩
        have hbw10 := hbw9.trans (hkw10.mono hbw9.size)
        replace sa := (sa.below hkw10).more hkw10.size
        replace ss := (ss.below hkw10).more hkw10.size
        replace st2 := (st2.below hkw10).more hkw10.size
        replace hst := hst.below hkw10
        clear hkw10 hbw9
        clear st2
        clear ss
        have m0 := hst.2.1
        have m1 := hst.2.2.1
        go_wp2_with fail
        clear m0 m1
        have hbad : ¬ right [(⟨rb + 1, ra⟩ : Rg)] = true := by rw [right_one_ok, ok_iff]; have := hR.out; simp only; omega
        refine (Add_any w10 Aa ma ca a ⟨rb + 1, ra⟩ sa Ha.out.1 (by have := Ha.out; omega)).mono ?_
        rintro e wz ⟨Az, cz, rfl, _, _, _, hkz⟩
        have hbz := hbw10.trans (hkz.mono hbw10.size)
        rw [show joinS a [(⟨rb + 1, ra⟩ : Rg)] = [] by rw [joinS, if_neg (fun h => hbad h.2)]]
        clear hbad hkz sa hst
        go_wp2_with fail
        go_ret
        exact ⟨rfl, hbz⟩
      · have d2 : decide (k ≤ rb) = false := by rw [decide_eq_false_iff_not]; exact h2
        obtain rfl : qs = false := by rw [HQ.out, d1, d2]; rfl
        clear h1 h2
        have m0 := hst.2.1
        have m1 := hst.2.2.1
        have hkL := boxR w5 (⟨ra, rb⟩ : Rg)
        have sL := Sl.oneR w5 (⟨ra, rb⟩ : Rg)
        go_wp2_with fail
        clear m0 m1
        generalize w5.alloc (.cells #[.int .i64 ra, .int .i64 rb] 24) = w6 at hkL sL ⊢
        have hbw6 := hbw5.trans (hkL.mono hbw5.size)
        replace sa := (sa.below hkL).more hkL.size
        replace ss := (ss.below hkL).more hkL.size
        replace hst := hst.below hkL
        clear hkL hbw5
        refine (Join_any w6 Aa (some ⟨w5.heap.size, 0, none⟩) ma 1 ca 1 a [(⟨ra, rb⟩ : Rg)] sa sL Ha.out.1 rfl (by have := Ha.out; omega) (by omega) (by omega)).mono ?_
        rintro e w7 ⟨At1, ct1, rfl, st1, hlet1, hcmt1, hkw7⟩
        obtain ⟨t1, ht1⟩ : ∃ L9, L9 = joinS a [(⟨ra, rb⟩ : Rg)] := ⟨_, rfl⟩
        rw [← ht1] at st1 hlet1 ⊢
        have hnt1 : t1.length ≤ 65 := by rw [ht1]; exact (by have := joinS_len a [(⟨ra, rb⟩ : Rg)]; have := Ha.out; simp at *; omega)
        have hrt1 : right t1 = true := by rw [ht1]; exact joinS_right _ _
        obtain ⟨mt1, hmt1⟩ : ∃ q9, q9 = t1.length := ⟨_, rfl⟩
        rw [← hmt1] at hlet1 hnt1 ⊢
        have Ht1 := Lib.hid (And.intro hmt1 (And.intro hnt1 (And.intro hlet1 (And.intro hcmt1 hrt1))))
        have Et1 := Lib.hid ht1
        clear ht1 hmt1 hnt1 hlet1 hcmt1 hrt1
        have hbw7 := hbw6.trans (hkw7.mono hbw6.size)
        replace sa := (sa.below hkw7).more hkw7.size
        replace ss := (ss.below hkw7).more hkw7.size
        replace hst := hst.below hkw7
        clear hkw7 hbw6
        clear sL
        go_wp2_with fail
        have hq := SameR_any w7 (B := w7.heap.size) (B' := w7.heap.size) As At1 ms mt1 cs ct1 s t1 ss st1 Hs.out.1 Ht1.out.1 (by have := Hs.out; omega) (by have := Ht1.out; omega) (Nat.le_refl _) (Nat.le_refl _)
        rw [show decide (s = t1) = true from (by rw [decide_eq_true_eq]; exact (Es.out.trans Et1.out.symm))] at hq
        refine Calls.mono hq ?_
        clear hq
        rintro e w8 ⟨rfl, hkw8⟩
        have hbw8 := hbw7.trans (hkw8.mono hbw7.size)
        replace sa := (sa.below hkw8).more hkw8.size
        replace ss := (ss.below hkw8).more hkw8.size
        replace st1 := (st1.below hkw8).more hkw8.size
        replace hst := hst.below hkw8
        clear hkw8 hbw7
        clear st1
        have m0 := hst.2.1
        have m1 := hst.2.2.1
        go_wp2_with fail
        refine (Add_any w8 As ms cs s (⟨ra, rb⟩ : Rg) ss Hs.out.1 (by have := Hs.out; omega)).mono ?_
        rintro e w9 ⟨At2, ct2, rfl, st2, hlet2, hcmt2, hkw9⟩
        obtain ⟨t2, ht2⟩ : ∃ L9, L9 = joinS s [(⟨ra, rb⟩ : Rg)] := ⟨_, rfl⟩
        rw [← ht2] at st2 hlet2 ⊢
        have hnt2 : t2.length ≤ 66 := by rw [ht2]; exact (by have := joinS_len s [(⟨ra, rb⟩ : Rg)]; have := Hs.out; simp at *; omega)
        have hrt2 : right t2 = true := by rw [ht2]; exact joinS_right _ _
        obtain ⟨mt2, hmt2⟩ : ∃ q9, q9 = t2.length := ⟨_, rfl⟩
        rw [← hmt2] at hlet2 hnt2 ⊢
        have Ht2 := Lib.hid (And.intro hmt2 (And.intro hnt2 (And.intro hlet2 (And.intro hcmt2 hrt2))))
        have Et2 := Lib.hid ht2
        clear ht2 hmt2 hnt2 hlet2 hcmt2 hrt2
        have hbw9 := hbw8.trans (hkw9.mono hbw8.size)
        replace sa := (sa.below hkw9).more hkw9.size
        replace ss := (ss.below hkw9).more hkw9.size
        replace hst := hst.below hkw9
        clear hkw9 hbw8
        clear m0 m1
        go_wp2_with fail
        have hq := SameR_any w9 (B := w9.heap.size) (B' := w9.heap.size) At2 As mt2 ms ct2 cs t2 s st2 ss Ht2.out.1 Hs.out.1 (by have := Ht2.out; omega) (by have := Hs.out; omega) (Nat.le_refl _) (Nat.le_refl _)
        rw [show decide (t2 = s) = true from (by rw [decide_eq_true_eq]; exact (by rw [Et2.out, Es.out]; exact join_twice Ha.out.2.2.2.2 HOK.out))] at hq
        refine Calls.mono hq ?_
        clear hq
        rintro e w10 ⟨rfl, hkw10⟩
        have hbw10 := hbw9.trans (hkw10.mono hbw9.size)
        replace sa := (sa.below hkw10).more hkw10.size
        replace ss := (ss.below hkw10).more hkw10.size
        replace st2 := (st2.below hkw10).more hkw10.size
        replace hst := hst.below hkw10
        clear hkw10 hbw9
        clear st2
        clear ss
        have m0 := hst.2.1
        have m1 := hst.2.2.1
        go_wp2_with fail
        clear m0 m1
        have hbad : ¬ right [(⟨rb + 1, ra⟩ : Rg)] = true := by rw [right_one_ok, ok_iff]; have := hR.out; simp only; omega
        refine (Add_any w10 Aa ma ca a ⟨rb + 1, ra⟩ sa Ha.out.1 (by have := Ha.out; omega)).mono ?_
        rintro e wz ⟨Az, cz, rfl, _, _, _, hkz⟩
        have hbz := hbw10.trans (hkz.mono hbw10.size)
        rw [show joinS a [(⟨rb + 1, ra⟩ : Rg)] = [] by rw [joinS, if_neg (fun h => hbad h.2)]]
        clear hbad hkz sa hst
        go_wp2_with fail
        go_ret
        exact ⟨rfl, hbz⟩
    · have d1 : decide (ra ≤ k) = false := by rw [decide_eq_false_iff_not]; exact h1
      obtain rfl : qs = false := by rw [HQ.out, d1]; rfl
      clear h1
      have m0 := hst.2.1
      have m1 := hst.2.2.1
      have hkL := boxR w5 (⟨ra, rb⟩ : Rg)
      have sL := Sl.oneR w5 (⟨ra, rb⟩ : Rg)
      go_wp2_with fail
      clear m0 m1
      generalize w5.alloc (.cells #[.int .i64 ra, .int .i64 rb] 24) = w6 at hkL sL ⊢
      have hbw6 := hbw5.trans (hkL.mono hbw5.size)
      replace sa := (sa.below hkL).more hkL.size
      replace ss := (ss.below hkL).more hkL.size
      replace hst := hst.below hkL
      clear hkL hbw5
      refine (Join_any w6 Aa (some ⟨w5.heap.size, 0, none⟩) ma 1 ca 1 a [(⟨ra, rb⟩ : Rg)] sa sL Ha.out.1 rfl (by have := Ha.out; omega) (by omega) (by omega)).mono ?_
      rintro e w7 ⟨At1, ct1, rfl, st1, hlet1, hcmt1, hkw7⟩
      obtain ⟨t1, ht1⟩ : ∃ L9, L9 = joinS a [(⟨ra, rb⟩ : Rg)] := ⟨_, rfl⟩
      rw [← ht1] at st1 hlet1 ⊢
      have hnt1 : t1.length ≤ 65 := by rw [ht1]; exact (by have := joinS_len a [(⟨ra, rb⟩ : Rg)]; have := Ha.out; simp at *; omega)
      have hrt1 : right t1 = true := by rw [ht1]; exact joinS_right _ _
      obtain ⟨mt1, hmt1⟩ : ∃ q9, q9 = t1.length := ⟨_, rfl⟩
      rw [← hmt1] at hlet1 hnt1 ⊢
      have Ht1 := Lib.hid (And.intro hmt1 (And.intro hnt1 (And.intro hlet1 (And.intro hcmt1 hrt1))))
      have Et1 := Lib.hid ht1
      clear ht1 hmt1 hnt1 hlet1 hcmt1 hrt1
      have hbw7 := hbw6.trans (hkw7.mono hbw6.size)
      replace sa := (sa.below hkw7).more hkw7.size
      replace ss := (ss.below hkw7).more hkw7.size
      replace hst := hst.below hkw7
      clear hkw7 hbw6
      clear sL
      go_wp2_with fail
      have hq := SameR_any w7 (B := w7.heap.size) (B' := w7.heap.size) As At1 ms mt1 cs ct1 s t1 ss st1 Hs.out.1 Ht1.out.1 (by have := Hs.out; omega) (by have := Ht1.out; omega) (Nat.le_refl _) (Nat.le_refl _)
      rw [show decide (s = t1) = true from (by rw [decide_eq_true_eq]; exact (Es.out.trans Et1.out.symm))] at hq
      refine Calls.mono hq ?_
      clear hq
      rintro e w8 ⟨rfl, hkw8⟩
      have hbw8 := hbw7.trans (hkw8.mono hbw7.size)
      replace sa := (sa.below hkw8).more hkw8.size
      replace ss := (ss.below hkw8).more hkw8.size
      replace st1 := (st1.below hkw8).more hkw8.size
      replace hst := hst.below hkw8
      clear hkw8 hbw7
      clear st1
      have m0 := hst.2.1
      have m1 := hst.2.2.1
      go_wp2_with fail
      refine (Add_any w8 As ms cs s (⟨ra, rb⟩ : Rg) ss Hs.out.1 (by have := Hs.out; omega)).mono ?_
      rintro e w9 ⟨At2, ct2, rfl, st2, hlet2, hcmt2, hkw9⟩
      obtain ⟨t2, ht2⟩ : ∃ L9, L9 = joinS s [(⟨ra, rb⟩ : Rg)] := ⟨_, rfl⟩
      rw [← ht2] at st2 hlet2 ⊢
      have hnt2 : t2.length ≤ 66 := by rw [ht2]; exact (by have := joinS_len s [(⟨ra, rb⟩ : Rg)]; have := Hs.out; simp at *; omega)
      have hrt2 : right t2 = true := by rw [ht2]; exact joinS_right _ _
      obtain ⟨mt2, hmt2⟩ : ∃ q9, q9 = t2.length := ⟨_, rfl⟩
      rw [← hmt2] at hlet2 hnt2 ⊢
      have Ht2 := Lib.hid (And.intro hmt2 (And.intro hnt2 (And.intro hlet2 (And.intro hcmt2 hrt2))))
      have Et2 := Lib.hid ht2
      clear ht2 hmt2 hnt2 hlet2 hcmt2 hrt2
      have hbw9 := hbw8.trans (hkw9.mono hbw8.size)
      replace sa := (sa.below hkw9).more hkw9.size
      replace ss := (ss.below hkw9).more hkw9.size
      replace hst := hst.below hkw9
      clear hkw9 hbw8
      clear m0 m1
      go_wp2_with fail
      have hq := SameR_any w9 (B := w9.heap.size) (B' := w9.heap.size) At2 As mt2 ms ct2 cs t2 s st2 ss Ht2.out.1 Hs.out.1 (by have := Ht2.out; omega) (by have := Hs.out; omega) (Nat.le_refl _) (Nat.le_refl _)
      rw [show decide (t2 = s) = true from (by rw [decide_eq_true_eq]; exact (by rw [Et2.out, Es.out]; exact join_twice Ha.out.2.2.2.2 HOK.out))] at hq
      refine Calls.mono hq ?_
      clear hq
      rintro e w10 ⟨rfl, hkw10⟩
      have hbw10 := hbw9.trans (hkw10.mono hbw9.size)
      replace sa := (sa.below hkw10).more hkw10.size
      replace ss := (ss.below hkw10).more hkw10.size
      replace st2 := (st2.below hkw10).more hkw10.size
      replace hst := hst.below hkw10
      clear hkw10 hbw9
      clear st2
      clear ss
      have m0 := hst.2.1
      have m1 := hst.2.2.1
      go_wp2_with fail
      clear m0 m1
      have hbad : ¬ right [(⟨rb + 1, ra⟩ : Rg)] = true := by rw [right_one_ok, ok_iff]; have := hR.out; simp only; omega
      refine (Add_any w10 Aa ma ca a ⟨rb + 1, ra⟩ sa Ha.out.1 (by have := Ha.out; omega)).mono ?_
      rintro e wz ⟨Az, cz, rfl, _, _, _, hkz⟩
      have hbz := hbw10.trans (hkz.mono hbw10.size)
      rw [show joinS a [(⟨rb + 1, ra⟩ : Rg)] = [] by rw [joinS, if_neg (fun h => hbad h.2)]]
      clear hbad hkz sa hst
      go_wp2_with fail
      go_ret
      exact ⟨rfl, hbz⟩
end Go.Proofs.Ytdpkmabojlihmaa

