/- 'SpanAlgebra', walked. -/
import Derived.Test.YtdpkmabojlihmaaPSpan4
import Derived.Test.YtdpkmabojlihmaaRgK2
import Derived.Test.YtdpkmabojlihmaaRgE
import Derived.Test.YtdpkmabojlihmaaFrame
namespace Go.Proofs.Ytdpkmabojlihmaa
open Go.RowKit Go.Proofs.Ytdpkmabojlihmaa.Pl Go.Proofs.Ytdpkmabojlihmaa.Sp

set_option maxRecDepth 100000 in
set_option maxHeartbeats 12800000 in
theorem SpanAlgebra_walk (w : World) (x : Nat) (hx : U64 x) (y : Nat) (hy : U64 y) (z : Nat) (hz : U64 z) :
    Calls Try.prog 6 #[.int .u64 (x : Int), .int .u64 (y : Int), .int .u64 (z : Int)] w fun e w' => e = .returned (.bool true) ∧ Below w.heap.size w w' := by
  go_enter Try.func6, Try.ntmps6
  go_wp2_with fail
  refine (rknown_any w).mono ?_
  rintro e w0 ⟨rfl, hb0⟩
  go_wp2_with fail
  refine (Bits_any w0 x hx (0) (by omega) (by omega)).mono ?_
  rintro e w1 ⟨Aa, ca, rfl, sa, hlea, hcma, hkw1⟩
  obtain ⟨a, ha⟩ : ∃ L9, L9 = bitsR x (0) := ⟨_, rfl⟩
  rw [← ha] at sa hlea ⊢
  have hna : a.length ≤ 64 := by rw [ha]; exact bitsR_len _ _
  have hra : right a = true := by rw [ha]; exact bitsR_right _ _
  obtain ⟨ma, hma⟩ : ∃ q9, q9 = a.length := ⟨_, rfl⟩
  rw [← hma] at hlea hna ⊢
  have Ha := Lib.hid (And.intro hma (And.intro hna (And.intro hlea (And.intro hcma hra))))
  have Ea := Lib.hid ha
  clear ha hma hna hlea hcma hra
  have hbw1 := hb0.trans (hkw1.mono hb0.size)
  clear hkw1 hb0
  go_wp2_with fail
  refine (Bits_any w1 y hy (20) (by omega) (by omega)).mono ?_
  rintro e w2 ⟨Ab, cb, rfl, sb, hleb, hcmb, hkw2⟩
  obtain ⟨b, hb⟩ : ∃ L9, L9 = bitsR y (20) := ⟨_, rfl⟩
  rw [← hb] at sb hleb ⊢
  have hnb : b.length ≤ 64 := by rw [hb]; exact bitsR_len _ _
  have hrb : right b = true := by rw [hb]; exact bitsR_right _ _
  obtain ⟨mb, hmb⟩ : ∃ q9, q9 = b.length := ⟨_, rfl⟩
  rw [← hmb] at hleb hnb ⊢
  have Hb := Lib.hid (And.intro hmb (And.intro hnb (And.intro hleb (And.intro hcmb hrb))))
  have Eb := Lib.hid hb
  clear hb hmb hnb hleb hcmb hrb
  have hbw2 := hbw1.trans (hkw2.mono hbw1.size)
  replace sa := (sa.below hkw2).more hkw2.size
  clear hkw2 hbw1
  go_wp2_with fail
  refine (Bits_any w2 z hz (7) (by omega) (by omega)).mono ?_
  rintro e w3 ⟨Ac, cc, rfl, sc, hlec, hcmc, hkw3⟩
  obtain ⟨c, hc⟩ : ∃ L9, L9 = bitsR z (7) := ⟨_, rfl⟩
  rw [← hc] at sc hlec ⊢
  have hnc : c.length ≤ 64 := by rw [hc]; exact bitsR_len _ _
  have hrc : right c = true := by rw [hc]; exact bitsR_right _ _
  obtain ⟨mc, hmc⟩ : ∃ q9, q9 = c.length := ⟨_, rfl⟩
  rw [← hmc] at hlec hnc ⊢
  have Hc := Lib.hid (And.intro hmc (And.intro hnc (And.intro hlec (And.intro hcmc hrc))))
  have Ec := Lib.hid hc
  clear hc hmc hnc hlec hcmc hrc
  have hbw3 := hbw2.trans (hkw3.mono hbw2.size)
  replace sa := (sa.below hkw3).more hkw3.size
  replace sb := (sb.below hkw3).more hkw3.size
  clear hkw3 hbw2
  go_wp2_with fail
  refine (Join_any w3 Aa Ab ma mb ca cb a b sa sb Ha.out.1 Hb.out.1 (by have := Ha.out; omega) (by have := Hb.out; omega) Hb.out.2.2.1).mono ?_
  rintro e w4 ⟨Aj, cj, rfl, sj, hlej, hcmj, hkw4⟩
  obtain ⟨j, hj⟩ : ∃ L9, L9 = joinS a b := ⟨_, rfl⟩
  rw [← hj] at sj hlej ⊢
  have hnj : j.length ≤ 128 := by rw [hj]; exact (by have := joinS_len a b; have := Ha.out; have := Hb.out; omega)
  have hrj : right j = true := by rw [hj]; exact joinS_right _ _
  obtain ⟨mj, hmj⟩ : ∃ q9, q9 = j.length := ⟨_, rfl⟩
  rw [← hmj] at hlej hnj ⊢
  have Hj := Lib.hid (And.intro hmj (And.intro hnj (And.intro hlej (And.intro hcmj hrj))))
  have Ej := Lib.hid hj
  clear hj hmj hnj hlej hcmj hrj
  have hbw4 := hbw3.trans (hkw4.mono hbw3.size)
  replace sa := (sa.below hkw4).more hkw4.size
  replace sb := (sb.below hkw4).more hkw4.size
  replace sc := (sc.below hkw4).more hkw4.size
  clear hkw4 hbw3
  go_wp2_with fail
  refine (Minus_any w4 Aa Ab ma mb ca cb a b sa sb Ha.out.1 Hb.out.1 (by have := Ha.out; omega) (by have := Hb.out; omega) Hb.out.2.2.1 Hb.out.2.2.2.1).mono ?_
  rintro e w5 ⟨Am, cm, rfl, sm, hlem, hcmm, hkw5⟩
  obtain ⟨m, hm⟩ : ∃ L9, L9 = minusS a b := ⟨_, rfl⟩
  rw [← hm] at sm hlem ⊢
  have hnm : m.length ≤ 128 := by rw [hm]; exact (by have := minusS_len a b; have := Ha.out; have := Hb.out; omega)
  have hrm : right m = true := by rw [hm]; exact minusS_right _ _
  obtain ⟨mm, hmm⟩ : ∃ q9, q9 = m.length := ⟨_, rfl⟩
  rw [← hmm] at hlem hnm ⊢
  have Hm := Lib.hid (And.intro hmm (And.intro hnm (And.intro hlem (And.intro hcmm hrm))))
  have Em := Lib.hid hm
  clear hm hmm hnm hlem hcmm hrm
  have hbw5 := hbw4.trans (hkw5.mono hbw4.size)
  replace sa := (sa.below hkw5).more hkw5.size
  replace sb := (sb.below hkw5).more hkw5.size
  replace sc := (sc.below hkw5).more hkw5.size
  replace sj := (sj.below hkw5).more hkw5.size
  clear hkw5 hbw4
  go_wp2_with fail
  refine (Join_any w5 Ab Aa mb ma cb ca b a sb sa Hb.out.1 Ha.out.1 (by have := Hb.out; omega) (by have := Ha.out; omega) Ha.out.2.2.1).mono ?_
  rintro e w6 ⟨At1, ct1, rfl, st1, hlet1, hcmt1, hkw6⟩
  obtain ⟨t1, ht1⟩ : ∃ L9, L9 = joinS b a := ⟨_, rfl⟩
  rw [← ht1] at st1 hlet1 ⊢
  have hnt1 : t1.length ≤ 128 := by rw [ht1]; exact (by have := joinS_len b a; have := Hb.out; have := Ha.out; omega)
  have hrt1 : right t1 = true := by rw [ht1]; exact joinS_right _ _
  obtain ⟨mt1, hmt1⟩ : ∃ q9, q9 = t1.length := ⟨_, rfl⟩
  rw [← hmt1] at hlet1 hnt1 ⊢
  have Ht1 := Lib.hid (And.intro hmt1 (And.intro hnt1 (And.intro hlet1 (And.intro hcmt1 hrt1))))
  have Et1 := Lib.hid ht1
  clear ht1 hmt1 hnt1 hlet1 hcmt1 hrt1
  have hbw6 := hbw5.trans (hkw6.mono hbw5.size)
  replace sa := (sa.below hkw6).more hkw6.size
  replace sb := (sb.below hkw6).more hkw6.size
  replace sc := (sc.below hkw6).more hkw6.size
  replace sj := (sj.below hkw6).more hkw6.size
  replace sm := (sm.below hkw6).more hkw6.size
  clear hkw6 hbw5
  go_wp2_with fail
  have hq := SameR_any w6 (B := w6.heap.size) (B' := w6.heap.size) Aj At1 mj mt1 cj ct1 j t1 sj st1 Hj.out.1 Ht1.out.1 (by have := Hj.out; omega) (by have := Ht1.out; omega) (Nat.le_refl _) (Nat.le_refl _)
  rw [show decide (j = t1) = true from (by rw [decide_eq_true_eq]; exact (Ej.out.trans ((join_comm Ha.out.2.2.2.2 Hb.out.2.2.2.2).trans Et1.out.symm)))] at hq
  refine Calls.mono hq ?_
  clear hq
  rintro e w7 ⟨rfl, hkw7⟩
  have hbw7 := hbw6.trans (hkw7.mono hbw6.size)
  replace sa := (sa.below hkw7).more hkw7.size
  replace sb := (sb.below hkw7).more hkw7.size
  replace sc := (sc.below hkw7).more hkw7.size
  replace sj := (sj.below hkw7).more hkw7.size
  replace sm := (sm.below hkw7).more hkw7.size
  replace st1 := (st1.below hkw7).more hkw7.size
  clear hkw7 hbw6
  clear st1
  go_wp2_with fail
  refine (Join_any w7 Aj Ac mj mc cj cc j c sj sc Hj.out.1 Hc.out.1 (by have := Hj.out; omega) (by have := Hc.out; omega) Hc.out.2.2.1).mono ?_
  rintro e w8 ⟨At2, ct2, rfl, st2, hlet2, hcmt2, hkw8⟩
  obtain ⟨t2, ht2⟩ : ∃ L9, L9 = joinS j c := ⟨_, rfl⟩
  rw [← ht2] at st2 hlet2 ⊢
  have hnt2 : t2.length ≤ 192 := by rw [ht2]; exact (by have := joinS_len j c; have := Hj.out; have := Hc.out; omega)
  have hrt2 : right t2 = true := by rw [ht2]; exact joinS_right _ _
  obtain ⟨mt2, hmt2⟩ : ∃ q9, q9 = t2.length := ⟨_, rfl⟩
  rw [← hmt2] at hlet2 hnt2 ⊢
  have Ht2 := Lib.hid (And.intro hmt2 (And.intro hnt2 (And.intro hlet2 (And.intro hcmt2 hrt2))))
  have Et2 := Lib.hid ht2
  clear ht2 hmt2 hnt2 hlet2 hcmt2 hrt2
  have hbw8 := hbw7.trans (hkw8.mono hbw7.size)
  replace sa := (sa.below hkw8).more hkw8.size
  replace sb := (sb.below hkw8).more hkw8.size
  replace sc := (sc.below hkw8).more hkw8.size
  replace sj := (sj.below hkw8).more hkw8.size
  replace sm := (sm.below hkw8).more hkw8.size
  clear hkw8 hbw7
  go_wp2_with fail
  refine (Join_any w8 Ab Ac mb mc cb cc b c sb sc Hb.out.1 Hc.out.1 (by have := Hb.out; omega) (by have := Hc.out; omega) Hc.out.2.2.1).mono ?_
  rintro e w9 ⟨At3, ct3, rfl, st3, hlet3, hcmt3, hkw9⟩
  obtain ⟨t3, ht3⟩ : ∃ L9, L9 = joinS b c := ⟨_, rfl⟩
  rw [← ht3] at st3 hlet3 ⊢
  have hnt3 : t3.length ≤ 128 := by rw [ht3]; exact (by have := joinS_len b c; have := Hb.out; have := Hc.out; omega)
  have hrt3 : right t3 = true := by rw [ht3]; exact joinS_right _ _
  obtain ⟨mt3, hmt3⟩ : ∃ q9, q9 = t3.length := ⟨_, rfl⟩
  rw [← hmt3] at hlet3 hnt3 ⊢
  have Ht3 := Lib.hid (And.intro hmt3 (And.intro hnt3 (And.intro hlet3 (And.intro hcmt3 hrt3))))
  have Et3 := Lib.hid ht3
  clear ht3 hmt3 hnt3 hlet3 hcmt3 hrt3
  have hbw9 := hbw8.trans (hkw9.mono hbw8.size)
  replace sa := (sa.below hkw9).more hkw9.size
  replace sb := (sb.below hkw9).more hkw9.size
  replace sc := (sc.below hkw9).more hkw9.size
  replace sj := (sj.below hkw9).more hkw9.size
  replace sm := (sm.below hkw9).more hkw9.size
  replace st2 := (st2.below hkw9).more hkw9.size
  clear hkw9 hbw8
  go_wp2_with fail
  refine (Join_any w9 Aa At3 ma mt3 ca ct3 a t3 sa st3 Ha.out.1 Ht3.out.1 (by have := Ha.out; omega) (by have := Ht3.out; omega) Ht3.out.2.2.1).mono ?_
  rintro e w10 ⟨At4, ct4, rfl, st4, hlet4, hcmt4, hkw10⟩
  obtain ⟨t4, ht4⟩ : ∃ L9, L9 = joinS a t3 := ⟨_, rfl⟩
  rw [← ht4] at st4 hlet4 ⊢
  have hnt4 : t4.length ≤ 192 := by rw [ht4]; exact (by have := joinS_len a t3; have := Ha.out; have := Ht3.out; omega)
  have hrt4 : right t4 = true := by rw [ht4]; exact joinS_right _ _
  obtain ⟨mt4, hmt4⟩ : ∃ q9, q9 = t4.length := ⟨_, rfl⟩
  rw [← hmt4] at hlet4 hnt4 ⊢
  have Ht4 := Lib.hid (And.intro hmt4 (And.intro hnt4 (And.intro hlet4 (And.intro hcmt4 hrt4))))
  have Et4 := Lib.hid ht4
  clear ht4 hmt4 hnt4 hlet4 hcmt4 hrt4
  have hbw10 := hbw9.trans (hkw10.mono hbw9.size)
  replace sa := (sa.below hkw10).more hkw10.size
  replace sb := (sb.below hkw10).more hkw10.size
  replace sc := (sc.below hkw10).more hkw10.size
  replace sj := (sj.below hkw10).more hkw10.size
  replace sm := (sm.below hkw10).more hkw10.size
  replace st2 := (st2.below hkw10).more hkw10.size
  replace st3 := (st3.below hkw10).more hkw10.size
  clear hkw10 hbw9
  go_wp2_with fail
  have hq := SameR_any w10 (B := w10.heap.size) (B' := w10.heap.size) At2 At4 mt2 mt4 ct2 ct4 t2 t4 st2 st4 Ht2.out.1 Ht4.out.1 (by have := Ht2.out; omega) (by have := Ht4.out; omega) (Nat.le_refl _) (Nat.le_refl _)
  rw [show decide (t2 = t4) = true from (by rw [decide_eq_true_eq]; exact (by rw [Et2.out, Ej.out, Et4.out, Et3.out]; exact join_assoc Ha.out.2.2.2.2 Hb.out.2.2.2.2 Hc.out.2.2.2.2))] at hq
  refine Calls.mono hq ?_
  clear hq
  rintro e w11 ⟨rfl, hkw11⟩
  have hbw11 := hbw10.trans (hkw11.mono hbw10.size)
  replace sa := (sa.below hkw11).more hkw11.size
  replace sb := (sb.below hkw11).more hkw11.size
  replace sc := (sc.below hkw11).more hkw11.size
  replace sj := (sj.below hkw11).more hkw11.size
  replace sm := (sm.below hkw11).more hkw11.size
  replace st2 := (st2.below hkw11).more hkw11.size
  replace st3 := (st3.below hkw11).more hkw11.size
  replace st4 := (st4.below hkw11).more hkw11.size
  clear hkw11 hbw10
  clear st2
  clear st3
  clear st4
  go_wp2_with fail
  refine (Join_any w11 Aj Aa mj ma cj ca j a sj sa Hj.out.1 Ha.out.1 (by have := Hj.out; omega) (by have := Ha.out; omega) Ha.out.2.2.1).mono ?_
  rintro e w12 ⟨At5, ct5, rfl, st5, hlet5, hcmt5, hkw12⟩
  obtain ⟨t5, ht5⟩ : ∃ L9, L9 = joinS j a := ⟨_, rfl⟩
  rw [← ht5] at st5 hlet5 ⊢
  have hnt5 : t5.length ≤ 192 := by rw [ht5]; exact (by have := joinS_len j a; have := Hj.out; have := Ha.out; omega)
  have hrt5 : right t5 = true := by rw [ht5]; exact joinS_right _ _
  obtain ⟨mt5, hmt5⟩ : ∃ q9, q9 = t5.length := ⟨_, rfl⟩
  rw [← hmt5] at hlet5 hnt5 ⊢
  have Ht5 := Lib.hid (And.intro hmt5 (And.intro hnt5 (And.intro hlet5 (And.intro hcmt5 hrt5))))
  have Et5 := Lib.hid ht5
  clear ht5 hmt5 hnt5 hlet5 hcmt5 hrt5
  have hbw12 := hbw11.trans (hkw12.mono hbw11.size)
  replace sa := (sa.below hkw12).more hkw12.size
  replace sb := (sb.below hkw12).more hkw12.size
  replace sc := (sc.below hkw12).more hkw12.size
  replace sj := (sj.below hkw12).more hkw12.size
  replace sm := (sm.below hkw12).more hkw12.size
  clear hkw12 hbw11
  go_wp2_with fail
  have hq := SameR_any w12 (B := w12.heap.size) (B' := w12.heap.size) At5 Aj mt5 mj ct5 cj t5 j st5 sj Ht5.out.1 Hj.out.1 (by have := Ht5.out; omega) (by have := Hj.out; omega) (Nat.le_refl _) (Nat.le_refl _)
  rw [show decide (t5 = j) = true from (by rw [decide_eq_true_eq]; exact (by rw [Et5.out, Ej.out]; exact join_idem Ha.out.2.2.2.2 Hb.out.2.2.2.2))] at hq
  refine Calls.mono hq ?_
  clear hq
  rintro e w13 ⟨rfl, hkw13⟩
  have hbw13 := hbw12.trans (hkw13.mono hbw12.size)
  replace sa := (sa.below hkw13).more hkw13.size
  replace sb := (sb.below hkw13).more hkw13.size
  replace sc := (sc.below hkw13).more hkw13.size
  replace sj := (sj.below hkw13).more hkw13.size
  replace sm := (sm.below hkw13).more hkw13.size
  replace st5 := (st5.below hkw13).more hkw13.size
  clear hkw13 hbw12
  clear st5
  go_wp2_with fail
  refine (Minus_any w13 Aa Am ma mm ca cm a m sa sm Ha.out.1 Hm.out.1 (by have := Ha.out; omega) (by have := Hm.out; omega) Hm.out.2.2.1 Hm.out.2.2.2.1).mono ?_
  rintro e w14 ⟨At6, ct6, rfl, st6, hlet6, hcmt6, hkw14⟩
  obtain ⟨t6, ht6⟩ : ∃ L9, L9 = minusS a m := ⟨_, rfl⟩
  rw [← ht6] at st6 hlet6 ⊢
  have hnt6 : t6.length ≤ 192 := by rw [ht6]; exact (by have := minusS_len a m; have := Ha.out; have := Hm.out; omega)
  have hrt6 : right t6 = true := by rw [ht6]; exact minusS_right _ _
  obtain ⟨mt6, hmt6⟩ : ∃ q9, q9 = t6.length := ⟨_, rfl⟩
  rw [← hmt6] at hlet6 hnt6 ⊢
  have Ht6 := Lib.hid (And.intro hmt6 (And.intro hnt6 (And.intro hlet6 (And.intro hcmt6 hrt6))))
  have Et6 := Lib.hid ht6
  clear ht6 hmt6 hnt6 hlet6 hcmt6 hrt6
  have hbw14 := hbw13.trans (hkw14.mono hbw13.size)
  replace sa := (sa.below hkw14).more hkw14.size
  replace sb := (sb.below hkw14).more hkw14.size
  replace sc := (sc.below hkw14).more hkw14.size
  replace sj := (sj.below hkw14).more hkw14.size
  replace sm := (sm.below hkw14).more hkw14.size
  clear hkw14 hbw13
  go_wp2_with fail
  refine (Join_any w14 Am At6 mm mt6 cm ct6 m t6 sm st6 Hm.out.1 Ht6.out.1 (by have := Hm.out; omega) (by have := Ht6.out; omega) Ht6.out.2.2.1).mono ?_
  rintro e w15 ⟨At7, ct7, rfl, st7, hlet7, hcmt7, hkw15⟩
  obtain ⟨t7, ht7⟩ : ∃ L9, L9 = joinS m t6 := ⟨_, rfl⟩
  rw [← ht7] at st7 hlet7 ⊢
  have hnt7 : t7.length ≤ 320 := by rw [ht7]; exact (by have := joinS_len m t6; have := Hm.out; have := Ht6.out; omega)
  have hrt7 : right t7 = true := by rw [ht7]; exact joinS_right _ _
  obtain ⟨mt7, hmt7⟩ : ∃ q9, q9 = t7.length := ⟨_, rfl⟩
  rw [← hmt7] at hlet7 hnt7 ⊢
  have Ht7 := Lib.hid (And.intro hmt7 (And.intro hnt7 (And.intro hlet7 (And.intro hcmt7 hrt7))))
  have Et7 := Lib.hid ht7
  clear ht7 hmt7 hnt7 hlet7 hcmt7 hrt7
  have hbw15 := hbw14.trans (hkw15.mono hbw14.size)
  replace sa := (sa.below hkw15).more hkw15.size
  replace sb := (sb.below hkw15).more hkw15.size
  replace sc := (sc.below hkw15).more hkw15.size
  replace sj := (sj.below hkw15).more hkw15.size
  replace sm := (sm.below hkw15).more hkw15.size
  replace st6 := (st6.below hkw15).more hkw15.size
  clear hkw15 hbw14
  go_wp2_with fail
  have hq := SameR_any w15 (B := w15.heap.size) (B' := w15.heap.size) At7 Aa mt7 ma ct7 ca t7 a st7 sa Ht7.out.1 Ha.out.1 (by have := Ht7.out; omega) (by have := Ha.out; omega) (Nat.le_refl _) (Nat.le_refl _)
  rw [show decide (t7 = a) = true from (by rw [decide_eq_true_eq]; exact (by rw [Et7.out, Et6.out, Em.out]; exact parts_join Ha.out.2.2.2.2 Hb.out.2.2.2.2))] at hq
  refine Calls.mono hq ?_
  clear hq
  rintro e w16 ⟨rfl, hkw16⟩
  have hbw16 := hbw15.trans (hkw16.mono hbw15.size)
  replace sa := (sa.below hkw16).more hkw16.size
  replace sb := (sb.below hkw16).more hkw16.size
  replace sc := (sc.below hkw16).more hkw16.size
  replace sj := (sj.below hkw16).more hkw16.size
  replace sm := (sm.below hkw16).more hkw16.size
  replace st6 := (st6.below hkw16).more hkw16.size
  replace st7 := (st7.below hkw16).more hkw16.size
  clear hkw16 hbw15
  clear st6
  clear st7
  go_wp2_with fail
  refine (Minus_any w16 Aj Ab mj mb cj cb j b sj sb Hj.out.1 Hb.out.1 (by have := Hj.out; omega) (by have := Hb.out; omega) Hb.out.2.2.1 Hb.out.2.2.2.1).mono ?_
  rintro e w17 ⟨At8, ct8, rfl, st8, hlet8, hcmt8, hkw17⟩
  obtain ⟨t8, ht8⟩ : ∃ L9, L9 = minusS j b := ⟨_, rfl⟩
  rw [← ht8] at st8 hlet8 ⊢
  have hnt8 : t8.length ≤ 192 := by rw [ht8]; exact (by have := minusS_len j b; have := Hj.out; have := Hb.out; omega)
  have hrt8 : right t8 = true := by rw [ht8]; exact minusS_right _ _
  obtain ⟨mt8, hmt8⟩ : ∃ q9, q9 = t8.length := ⟨_, rfl⟩
  rw [← hmt8] at hlet8 hnt8 ⊢
  have Ht8 := Lib.hid (And.intro hmt8 (And.intro hnt8 (And.intro hlet8 (And.intro hcmt8 hrt8))))
  have Et8 := Lib.hid ht8
  clear ht8 hmt8 hnt8 hlet8 hcmt8 hrt8
  have hbw17 := hbw16.trans (hkw17.mono hbw16.size)
  replace sa := (sa.below hkw17).more hkw17.size
  replace sb := (sb.below hkw17).more hkw17.size
  replace sc := (sc.below hkw17).more hkw17.size
  replace sj := (sj.below hkw17).more hkw17.size
  replace sm := (sm.below hkw17).more hkw17.size
  clear hkw17 hbw16
  go_wp2_with fail
  have hq := SameR_any w17 (B := w17.heap.size) (B' := w17.heap.size) At8 Am mt8 mm ct8 cm t8 m st8 sm Ht8.out.1 Hm.out.1 (by have := Ht8.out; omega) (by have := Hm.out; omega) (Nat.le_refl _) (Nat.le_refl _)
  rw [show decide (t8 = m) = true from (by rw [decide_eq_true_eq]; exact (by rw [Et8.out, Ej.out, Em.out]; exact join_minus Ha.out.2.2.2.2 Hb.out.2.2.2.2))] at hq
  refine Calls.mono hq ?_
  clear hq
  rintro e w18 ⟨rfl, hkw18⟩
  have hbw18 := hbw17.trans (hkw18.mono hbw17.size)
  replace sa := (sa.below hkw18).more hkw18.size
  replace sb := (sb.below hkw18).more hkw18.size
  replace sc := (sc.below hkw18).more hkw18.size
  replace sj := (sj.below hkw18).more hkw18.size
  replace sm := (sm.below hkw18).more hkw18.size
  replace st8 := (st8.below hkw18).more hkw18.size
  clear hkw18 hbw17
  clear st8
  clear sj
  go_wp2_with fail
  refine (Minus_any w18 Am Ac mm mc cm cc m c sm sc Hm.out.1 Hc.out.1 (by have := Hm.out; omega) (by have := Hc.out; omega) Hc.out.2.2.1 Hc.out.2.2.2.1).mono ?_
  rintro e w19 ⟨At9, ct9, rfl, st9, hlet9, hcmt9, hkw19⟩
  obtain ⟨t9, ht9⟩ : ∃ L9, L9 = minusS m c := ⟨_, rfl⟩
  rw [← ht9] at st9 hlet9 ⊢
  have hnt9 : t9.length ≤ 192 := by rw [ht9]; exact (by have := minusS_len m c; have := Hm.out; have := Hc.out; omega)
  have hrt9 : right t9 = true := by rw [ht9]; exact minusS_right _ _
  obtain ⟨mt9, hmt9⟩ : ∃ q9, q9 = t9.length := ⟨_, rfl⟩
  rw [← hmt9] at hlet9 hnt9 ⊢
  have Ht9 := Lib.hid (And.intro hmt9 (And.intro hnt9 (And.intro hlet9 (And.intro hcmt9 hrt9))))
  have Et9 := Lib.hid ht9
  clear ht9 hmt9 hnt9 hlet9 hcmt9 hrt9
  have hbw19 := hbw18.trans (hkw19.mono hbw18.size)
  replace sa := (sa.below hkw19).more hkw19.size
  replace sb := (sb.below hkw19).more hkw19.size
  replace sc := (sc.below hkw19).more hkw19.size
  replace sm := (sm.below hkw19).more hkw19.size
  clear hkw19 hbw18
  go_wp2_with fail
  refine (Join_any w19 Ab Ac mb mc cb cc b c sb sc Hb.out.1 Hc.out.1 (by have := Hb.out; omega) (by have := Hc.out; omega) Hc.out.2.2.1).mono ?_
  rintro e w20 ⟨Au1, cu1, rfl, su1, hleu1, hcmu1, hkw20⟩
  obtain ⟨u1, hu1⟩ : ∃ L9, L9 = joinS b c := ⟨_, rfl⟩
  rw [← hu1] at su1 hleu1 ⊢
  have hnu1 : u1.length ≤ 128 := by rw [hu1]; exact (by have := joinS_len b c; have := Hb.out; have := Hc.out; omega)
  have hru1 : right u1 = true := by rw [hu1]; exact joinS_right _ _
  obtain ⟨mu1, hmu1⟩ : ∃ q9, q9 = u1.length := ⟨_, rfl⟩
  rw [← hmu1] at hleu1 hnu1 ⊢
  have Hu1 := Lib.hid (And.intro hmu1 (And.intro hnu1 (And.intro hleu1 (And.intro hcmu1 hru1))))
  have Eu1 := Lib.hid hu1
  clear hu1 hmu1 hnu1 hleu1 hcmu1 hru1
  have hbw20 := hbw19.trans (hkw20.mono hbw19.size)
  replace sa := (sa.below hkw20).more hkw20.size
  replace sb := (sb.below hkw20).more hkw20.size
  replace sc := (sc.below hkw20).more hkw20.size
  replace sm := (sm.below hkw20).more hkw20.size
  replace st9 := (st9.below hkw20).more hkw20.size
  clear hkw20 hbw19
  go_wp2_with fail
  refine (Minus_any w20 Aa Au1 ma mu1 ca cu1 a u1 sa su1 Ha.out.1 Hu1.out.1 (by have := Ha.out; omega) (by have := Hu1.out; omega) Hu1.out.2.2.1 Hu1.out.2.2.2.1).mono ?_
  rintro e w21 ⟨Au2, cu2, rfl, su2, hleu2, hcmu2, hkw21⟩
  obtain ⟨u2, hu2⟩ : ∃ L9, L9 = minusS a u1 := ⟨_, rfl⟩
  rw [← hu2] at su2 hleu2 ⊢
  have hnu2 : u2.length ≤ 192 := by rw [hu2]; exact (by have := minusS_len a u1; have := Ha.out; have := Hu1.out; omega)
  have hru2 : right u2 = true := by rw [hu2]; exact minusS_right _ _
  obtain ⟨mu2, hmu2⟩ : ∃ q9, q9 = u2.length := ⟨_, rfl⟩
  rw [← hmu2] at hleu2 hnu2 ⊢
  have Hu2 := Lib.hid (And.intro hmu2 (And.intro hnu2 (And.intro hleu2 (And.intro hcmu2 hru2))))
  have Eu2 := Lib.hid hu2
  clear hu2 hmu2 hnu2 hleu2 hcmu2 hru2
  have hbw21 := hbw20.trans (hkw21.mono hbw20.size)
  replace sa := (sa.below hkw21).more hkw21.size
  replace sb := (sb.below hkw21).more hkw21.size
  replace sc := (sc.below hkw21).more hkw21.size
  replace sm := (sm.below hkw21).more hkw21.size
  replace st9 := (st9.below hkw21).more hkw21.size
  replace su1 := (su1.below hkw21).more hkw21.size
  clear hkw21 hbw20
  go_wp2_with fail
  have hq := SameR_any w21 (B := w21.heap.size) (B' := w21.heap.size) At9 Au2 mt9 mu2 ct9 cu2 t9 u2 st9 su2 Ht9.out.1 Hu2.out.1 (by have := Ht9.out; omega) (by have := Hu2.out; omega) (Nat.le_refl _) (Nat.le_refl _)
  rw [show decide (t9 = u2) = true from (by rw [decide_eq_true_eq]; exact (by rw [Et9.out, Em.out, Eu2.out, Eu1.out]; exact minus_minus Ha.out.2.2.2.2 Hb.out.2.2.2.2 Hc.out.2.2.2.2))] at hq
  refine Calls.mono hq ?_
  clear hq
  rintro e w22 ⟨rfl, hkw22⟩
  have hbw22 := hbw21.trans (hkw22.mono hbw21.size)
  replace sa := (sa.below hkw22).more hkw22.size
  replace sb := (sb.below hkw22).more hkw22.size
  replace sc := (sc.below hkw22).more hkw22.size
  replace sm := (sm.below hkw22).more hkw22.size
  replace st9 := (st9.below hkw22).more hkw22.size
  replace su1 := (su1.below hkw22).more hkw22.size
  replace su2 := (su2.below hkw22).more hkw22.size
  clear hkw22 hbw21
  clear st9
  clear su1
  clear su2
  clear sm
  clear sb
  clear sc
  go_wp2_with fail
  refine (Minus_any w22 Aa Aa ma ma ca ca a a sa sa Ha.out.1 Ha.out.1 (by have := Ha.out; omega) (by have := Ha.out; omega) Ha.out.2.2.1 Ha.out.2.2.2.1).mono ?_
  rintro e w23 ⟨Au3, cu3, rfl, su3, hleu3, hcmu3, hkw23⟩
  obtain ⟨u3, hu3⟩ : ∃ L9, L9 = minusS a a := ⟨_, rfl⟩
  rw [← hu3] at su3 hleu3 ⊢
  have hnu3 : u3.length ≤ 128 := by rw [hu3]; exact (by have := minusS_len a a; have := Ha.out; have := Ha.out; omega)
  have hru3 : right u3 = true := by rw [hu3]; exact minusS_right _ _
  obtain ⟨mu3, hmu3⟩ : ∃ q9, q9 = u3.length := ⟨_, rfl⟩
  rw [← hmu3] at hleu3 hnu3 ⊢
  have Hu3 := Lib.hid (And.intro hmu3 (And.intro hnu3 (And.intro hleu3 (And.intro hcmu3 hru3))))
  have Eu3 := Lib.hid hu3
  clear hu3 hmu3 hnu3 hleu3 hcmu3 hru3
  have hbw23 := hbw22.trans (hkw23.mono hbw22.size)
  replace sa := (sa.below hkw23).more hkw23.size
  clear hkw23 hbw22
  have hu30 : mu3 = 0 := by rw [Hu3.out.1, Eu3.out, minus_self Ha.out.2.2.2.2]; rfl
  subst hu30
  go_wp2_with fail
  refine (Minus_any w23 Aa none ma 0 ca 0 a [] sa (.inl rfl) Ha.out.1 rfl (by have := Ha.out; omega) (by omega) (by omega) (by simp [maxLen])).mono ?_
  rintro e w24 ⟨Au4, cu4, rfl, su4, hleu4, hcmu4, hkw24⟩
  obtain ⟨u4, hu4⟩ : ∃ L9, L9 = minusS a [] := ⟨_, rfl⟩
  rw [← hu4] at su4 hleu4 ⊢
  have hnu4 : u4.length ≤ 64 := by rw [hu4]; exact (by have := minusS_len a []; have := Ha.out; simp at *; omega)
  have hru4 : right u4 = true := by rw [hu4]; exact minusS_right _ _
  obtain ⟨mu4, hmu4⟩ : ∃ q9, q9 = u4.length := ⟨_, rfl⟩
  rw [← hmu4] at hleu4 hnu4 ⊢
  have Hu4 := Lib.hid (And.intro hmu4 (And.intro hnu4 (And.intro hleu4 (And.intro hcmu4 hru4))))
  have Eu4 := Lib.hid hu4
  clear hu4 hmu4 hnu4 hleu4 hcmu4 hru4
  have hbw24 := hbw23.trans (hkw24.mono hbw23.size)
  replace sa := (sa.below hkw24).more hkw24.size
  replace su3 := (su3.below hkw24).more hkw24.size
  clear hkw24 hbw23
  go_wp2_with fail
  have hq := SameR_any w24 (B := w24.heap.size) (B' := w24.heap.size) Au4 Aa mu4 ma cu4 ca u4 a su4 sa Hu4.out.1 Ha.out.1 (by have := Hu4.out; omega) (by have := Ha.out; omega) (Nat.le_refl _) (Nat.le_refl _)
  rw [show decide (u4 = a) = true from (by rw [decide_eq_true_eq]; exact (by rw [Eu4.out]; exact minus_nil Ha.out.2.2.2.2))] at hq
  refine Calls.mono hq ?_
  clear hq
  rintro e w25 ⟨rfl, hkw25⟩
  have hbw25 := hbw24.trans (hkw25.mono hbw24.size)
  replace sa := (sa.below hkw25).more hkw25.size
  replace su3 := (su3.below hkw25).more hkw25.size
  replace su4 := (su4.below hkw25).more hkw25.size
  clear hkw25 hbw24
  go_wp2_with fail
  go_ret
  exact ⟨rfl, hbw25⟩
end Go.Proofs.Ytdpkmabojlihmaa

