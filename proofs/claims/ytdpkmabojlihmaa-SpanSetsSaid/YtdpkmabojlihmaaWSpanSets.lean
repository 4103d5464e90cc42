/- 'SpanSets', walked. -/
import Derived.Test.YtdpkmabojlihmaaPSpan5
import Derived.Test.YtdpkmabojlihmaaRgK2
import Derived.Test.YtdpkmabojlihmaaRgE
import Derived.Test.YtdpkmabojlihmaaFrame
namespace Go.Proofs.Ytdpkmabojlihmaa
open Go.RowKit Go.Proofs.Ytdpkmabojlihmaa.Pl Go.Proofs.Ytdpkmabojlihmaa.Sp

set_option maxRecDepth 100000 in
set_option maxHeartbeats 12800000 in
theorem SpanSets_low (w : World) (x : Nat) (hx : U64 x) (y : Nat) (hy : U64 y) :
    Calls Try.prog 5 #[.int .u64 (x : Int), .int .u64 (y : Int), .bool false] w fun e w' => e = .returned (.bool true) ∧ Below w.heap.size w w' := by
  go_enter Try.func5, Try.ntmps5
  go_wp2_with fail
  refine (rknown_any w).mono ?_
  rintro e w0 ⟨rfl, hb0⟩
  go_wp2_with fail
  refine (Bits_any w0 x hx (0) (by omega) (by omega)).mono ?_
  rintro e w1 ⟨Aa, ca, rfl, sa, hlea, hcma, hkw1⟩
  obtain ⟨a, ha⟩ : ∃ L9, L9 = bitsR x (0) := ⟨_, rfl⟩
  rw [← ha] at sa hlea ⊢
  have hna : a.length ≤ 64 := by rw [ha]; exact bitsR_len _ _
  have hra : right a = true := by rw [ha]; exact bitsR_right _ _
  obtain ⟨ma, hma⟩ : ∃ q9, q9 = a.length := ⟨_, rfl⟩
  rw [← hma] at hlea hna ⊢
  have Ha := Lib.hid (And.intro hma (And.intro hna (And.intro hlea (And.intro hcma hra))))
  have Ea := Lib.hid ha
  clear ha hma hna hlea hcma hra
  have hbw1 := hb0.trans (hkw1.mono hb0.size)
  clear hkw1 hb0
  go_wp2_with fail
  refine (Bits_any w1 y hy (0) (by omega) (by omega)).mono ?_
  rintro e w2 ⟨Ab, cb, rfl, sb, hleb, hcmb, hkw2⟩
  obtain ⟨b, hb⟩ : ∃ L9, L9 = bitsR y (0) := ⟨_, rfl⟩
  rw [← hb] at sb hleb ⊢
  have hnb : b.length ≤ 64 := by rw [hb]; exact bitsR_len _ _
  have hrb : right b = true := by rw [hb]; exact bitsR_right _ _
  obtain ⟨mb, hmb⟩ : ∃ q9, q9 = b.length := ⟨_, rfl⟩
  rw [← hmb] at hleb hnb ⊢
  have Hb := Lib.hid (And.intro hmb (And.intro hnb (And.intro hleb (And.intro hcmb hrb))))
  have Eb := Lib.hid hb
  clear hb hmb hnb hleb hcmb hrb
  have hbw2 := hbw1.trans (hkw2.mono hbw1.size)
  replace sa := (sa.below hkw2).more hkw2.size
  clear hkw2 hbw1
  go_wp2_with fail
  refine (Join_any w2 Aa Ab ma mb ca cb a b sa sb Ha.out.1 Hb.out.1 (by have := Ha.out; omega) (by have := Hb.out; omega) Hb.out.2.2.1).mono ?_
  rintro e w3 ⟨Aj, cj, rfl, sj, hlej, hcmj, hkw3⟩
  obtain ⟨j, hj⟩ : ∃ L9, L9 = joinS a b := ⟨_, rfl⟩
  rw [← hj] at sj hlej ⊢
  have hnj : j.length ≤ 128 := by rw [hj]; exact (by have := joinS_len a b; have := Ha.out; have := Hb.out; omega)
  have hrj : right j = true := by rw [hj]; exact joinS_right _ _
  obtain ⟨mj, hmj⟩ : ∃ q9, q9 = j.length := ⟨_, rfl⟩
  rw [← hmj] at hlej hnj ⊢
  have Hj := Lib.hid (And.intro hmj (And.intro hnj (And.intro hlej (And.intro hcmj hrj))))
  have Ej := Lib.hid hj
  clear hj hmj hnj hlej hcmj hrj
  have hbw3 := hbw2.trans (hkw3.mono hbw2.size)
  replace sa := (sa.below hkw3).more hkw3.size
  replace sb := (sb.below hkw3).more hkw3.size
  clear hkw3 hbw2
  go_wp2_with fail
  refine (Minus_any w3 Aa Ab ma mb ca cb a b sa sb Ha.out.1 Hb.out.1 (by have := Ha.out; omega) (by have := Hb.out; omega) Hb.out.2.2.1 Hb.out.2.2.2.1).mono ?_
  rintro e w4 ⟨Am, cm, rfl, sm, hlem, hcmm, hkw4⟩
  obtain ⟨m, hm⟩ : ∃ L9, L9 = minusS a b := ⟨_, rfl⟩
  rw [← hm] at sm hlem ⊢
  have hnm : m.length ≤ 128 := by rw [hm]; exact (by have := minusS_len a b; have := Ha.out; have := Hb.out; omega)
  have hrm : right m = true := by rw [hm]; exact minusS_right _ _
  obtain ⟨mm, hmm⟩ : ∃ q9, q9 = m.length := ⟨_, rfl⟩
  rw [← hmm] at hlem hnm ⊢
  have Hm := Lib.hid (And.intro hmm (And.intro hnm (And.intro hlem (And.intro hcmm hrm))))
  have Em := Lib.hid hm
  clear hm hmm hnm hlem hcmm hrm
  have hbw4 := hbw3.trans (hkw4.mono hbw3.size)
  replace sa := (sa.below hkw4).more hkw4.size
  replace sb := (sb.below hkw4).more hkw4.size
  replace sj := (sj.below hkw4).more hkw4.size
  clear hkw4 hbw3
  clear sa
  have hsf := sets_facts (x := x) (y := y) (base := 0) hy.out (by omega) (by unfold mx; omega) Ea.out Eb.out Ej.out Em.out
  rw [show ((0 : Int) + 1) = 1 from rfl, show ((0 : Int) + 65) = 65 from rfl] at hsf
  obtain ⟨f1, f2, f3, f4, f5, f6, f7, f8, f9, f10⟩ := hsf
  have HF1 := Lib.hid f1
  have HF2 := Lib.hid f2
  have HF3 := Lib.hid f3
  obtain ⟨N, hN⟩ : ∃ N : Int → Nat → Int, N = cnt (has m) := ⟨_, rfl⟩
  rw [← hN] at f4 f5
  have HN := Lib.hid hN
  have HF := Lib.hid (And.intro f4 (And.intro f5 (And.intro f6 (And.intro f7 (And.intro f8 (And.intro f9 f10))))))
  clear f1 f2 f3 f4 f5 f6 f7 f8 f9 f10 hN
  go_wp2_with fail
  have Hs := Lib.hid (And.intro sj (And.intro sm sb))
  clear sj sm sb
  go_loopw [12, 13] (fun x12 x13 wr => ∃ k : Nat, k ≤ 64 ∧ x13 = .int .i64 (k : Int) ∧ x12 = .int .i64 (N 1 k) ∧ Below w4.heap.size w4 wr) (fun _ x13 _ => 64 - (intOf x13).toNat)
  case atStart => exact ⟨0, by omega, rfl, by rw [HN.out]; rfl, Below.refl _ _⟩
  case round =>
    obtain ⟨k, hk, rfl, rfl, hbel⟩ := hrel
    by_cases hlt : k < 64
    · have hd1 : decide ((k : Int) < 64) = true := by rw [decide_eq_true_eq]; omega
      have e1 := and1_bit x k hx
      have e2 := and1_bit y k hy
      obtain ⟨p, hp⟩ : ∃ p, bit x k = p := ⟨_, rfl⟩
      obtain ⟨q, hq⟩ : ∃ q, bit y k = q := ⟨_, rfl⟩
      rw [hp] at e1
      rw [hq] at e2
      have hNb : 0 ≤ N 1 k ∧ N 1 k ≤ (k : Int) := by rw [HN.out]; exact cnt_bd _ _ _
      have hwk : IntKind.i64.wrap (1 + (k : Int)) = 1 + (k : Int) := by rw [IntKind.wrap_i64]; omega
      go_wp2_with fail
      refine bstart (by kernel_rfl) ?_
      refine btake 0 (oi := _) (v := ?_) (by simp only [List.getElem?_toArray, List.getElem?_cons_zero]; rfl) (by kernel_rfl) (by exact fun _ _ _ h => h) (by first | assumption | exact KB.refl _) (.inl ⟨by rfl, fun W hW => ?_⟩) ?_; rotate_left
      · (go_simp; first | done | with_reducible rfl)
      try simp only [Act.put, List.setIfInBounds_toArray, List.set_cons_zero, List.set_cons_succ]
      refine btake 1 (oi := _) (v := ?_) (by simp only [List.getElem?_toArray, List.getElem?_cons_succ, List.getElem?_cons_zero]; rfl) (by kernel_rfl) (by exact fun _ _ _ h => h) (by first | assumption | exact KB.refl _) (.inl ⟨by rfl, fun W hW => ?_⟩) ?_; rotate_left
      · (go_simp; first | done | with_reducible rfl)
      try simp only [Act.put, List.setIfInBounds_toArray, List.set_cons_zero, List.set_cons_succ]
      refine btake 2 (oi := _) (v := ?_) (by simp only [List.getElem?_toArray, List.getElem?_cons_succ, List.getElem?_cons_zero]; rfl) (by kernel_rfl) (by exact fun _ _ _ h => h) (by first | assumption | exact KB.refl _) (.inl ⟨by rfl, fun W hW => ?_⟩) ?_; rotate_left
      · (go_simp; first | done | with_reducible rfl)
      try simp only [Act.put, List.setIfInBounds_toArray, List.set_cons_zero, List.set_cons_succ]
      refine btake 3 (oi := _) (v := ?_) (by simp only [List.getElem?_toArray, List.getElem?_cons_succ, List.getElem?_cons_zero]; rfl) (by kernel_rfl) (by exact fun _ _ _ h => h) (by first | assumption | exact KB.refl _) (.inl ⟨by rfl, fun W hW => ?_⟩) ?_; rotate_left
      · (go_simp; first | done | with_reducible rfl)
      try simp only [Act.put, List.setIfInBounds_toArray, List.set_cons_zero, List.set_cons_succ]
      refine btake 4 (oi := _) (v := ?_) (by simp only [List.getElem?_toArray, List.getElem?_cons_succ, List.getElem?_cons_zero]; rfl) (by kernel_rfl) (by exact fun _ _ _ h => h) (by first | assumption | exact KB.refl _) (.inl ⟨by rfl, fun W hW => ?_⟩) ?_; rotate_left
      · (go_simp; first | done | with_reducible rfl)
      try simp only [Act.put, List.setIfInBounds_toArray, List.set_cons_zero, List.set_cons_succ]
      refine btake 5 (oi := _) (v := ?_) (by simp only [List.getElem?_toArray, List.getElem?_cons_succ, List.getElem?_cons_zero]; rfl) (by kernel_rfl) (by exact fun _ _ _ h => h) (by first | assumption | exact KB.refl _) (.inl ⟨by rfl, fun W hW => ?_⟩) ?_; rotate_left
      · (go_simp; first | done | with_reducible rfl)
      try simp only [Act.put, List.setIfInBounds_toArray, List.set_cons_zero, List.set_cons_succ]
      refine btake 6 (oi := _) (v := ?_) (by simp only [List.getElem?_toArray, List.getElem?_cons_succ, List.getElem?_cons_zero]; rfl) (by kernel_rfl) (by exact fun _ _ _ h => h) (by first | assumption | exact KB.refl _) (.inl ⟨by rfl, fun W hW => ?_⟩) ?_; rotate_left
      · (go_simp; first | done | with_reducible rfl)
      try simp only [Act.put, List.setIfInBounds_toArray, List.set_cons_zero, List.set_cons_succ]
      refine btake 7 (oi := _) (v := ?_) (by simp only [List.getElem?_toArray, List.getElem?_cons_succ, List.getElem?_cons_zero]; rfl) (by kernel_rfl) (by exact fun _ _ _ h => h) (by first | assumption | exact KB.refl _) (.inl ⟨by rfl, fun W hW => ?_⟩) ?_; rotate_left
      · (go_simp; first | done | with_reducible rfl)
      try simp only [Act.put, List.setIfInBounds_toArray, List.set_cons_zero, List.set_cons_succ]
      refine btake 8 (oi := _) (v := ?_) (by simp only [List.getElem?_toArray, List.getElem?_cons_succ, List.getElem?_cons_zero]; rfl) (by kernel_rfl) (by exact fun _ _ _ h => h) (by first | assumption | exact KB.refl _) (.inl ⟨by rfl, fun W hW => ?_⟩) ?_; rotate_left
      · (go_simp; first | done | with_reducible rfl)
      try simp only [Act.put, List.setIfInBounds_toArray, List.set_cons_zero, List.set_cons_succ]
      refine btake 9 (oi := _) (v := ?_) (by simp only [List.getElem?_toArray, List.getElem?_cons_succ, List.getElem?_cons_zero]; rfl) (by kernel_rfl) (by exact fun _ _ _ h => h) (by first | assumption | exact KB.refl _) (.inl ⟨by rfl, fun W hW => ?_⟩) ?_; rotate_left
      · (go_simp; first | done | with_reducible rfl)
      try simp only [Act.put, List.setIfInBounds_toArray, List.set_cons_zero, List.set_cons_succ]
      refine btake 10 (oi := _) (v := ?_) (by simp only [List.getElem?_toArray, List.getElem?_cons_succ, List.getElem?_cons_zero]; rfl) (by kernel_rfl) (by exact fun _ _ _ h => h) (by first | assumption | exact KB.refl _) (.inl ⟨by rfl, fun W hW => ?_⟩) ?_; rotate_left
      · (go_simp; first | done | with_reducible rfl)
      try simp only [Act.put, List.setIfInBounds_toArray, List.set_cons_zero, List.set_cons_succ]
      refine btake 11 (oi := _) (v := ?_) (by simp only [List.getElem?_toArray, List.getElem?_cons_succ, List.getElem?_cons_zero]; rfl) (by kernel_rfl) (by exact fun _ _ _ h => h) (by first | assumption | exact KB.refl _) (.inl ⟨by rfl, fun W hW => ?_⟩) ?_; rotate_left
      · (go_simp; first | done | with_reducible rfl)
      try simp only [Act.put, List.setIfInBounds_toArray, List.set_cons_zero, List.set_cons_succ]
      refine bdone (by kernel_rfl) ?_
      replace hbel := hbel.drew
      generalize wr.drew = wq at hbel ⊢
      clear e1 e2
      cases p <;> cases q
      · -- neither
        have sj := (Hs.out.1.below hbel).more hbel.size
        have sm := (Hs.out.2.1.below hbel).more hbel.size
        have hstep := HF3.out k hlt
        rw [hp, hq, if_neg (by simp)] at hstep
        rw [← HN.out] at hstep
        have h1 := HF1.out k hlt
        have h2 := HF2.out k hlt
        rw [hp, hq] at h1 h2
        have HST := Lib.hid hstep
        clear hp hq hstep
        go_wp2_with fail
        have hq1 := RHas_any wq Aj mj cj j sj Hj.out.1 (by have := Hj.out; omega) (1 + (k : Int))
        rw [h1] at hq1
        refine Calls.mono hq1 ?_
        clear hq1
        rintro e v1 ⟨rfl, hk1⟩
        have hb1 := hbel.trans (hk1.mono hbel.size)
        replace sm := (sm.below hk1).more hk1.size
        clear hk1 hbel sj
        go_wp2_with fail
        have hq2 := RHas_any v1 Am mm cm m sm Hm.out.1 (by have := Hm.out; omega) (1 + (k : Int))
        rw [h2] at hq2
        refine Calls.mono hq2 ?_
        clear hq2
        rintro e v2 ⟨rfl, hk2⟩
        have hb2 := hb1.trans (hk2.mono hb1.size)
        clear hk2 hb1 sm h1 h2
        go_wp2_with fail
        go_roundw
        case rel => exact ⟨k + 1, by omega, by go_num, by rw [HST.out] <;> simp, hb2⟩
        case measure => simp [intOf] <;> omega
      · -- the second
        have sj := (Hs.out.1.below hbel).more hbel.size
        have sm := (Hs.out.2.1.below hbel).more hbel.size
        have hstep := HF3.out k hlt
        rw [hp, hq, if_neg (by simp)] at hstep
        rw [← HN.out] at hstep
        have h1 := HF1.out k hlt
        have h2 := HF2.out k hlt
        rw [hp, hq] at h1 h2
        have HST := Lib.hid hstep
        clear hp hq hstep
        go_wp2_with fail
        have hq1 := RHas_any wq Aj mj cj j sj Hj.out.1 (by have := Hj.out; omega) (1 + (k : Int))
        rw [h1] at hq1
        refine Calls.mono hq1 ?_
        clear hq1
        rintro e v1 ⟨rfl, hk1⟩
        have hb1 := hbel.trans (hk1.mono hbel.size)
        replace sm := (sm.below hk1).more hk1.size
        clear hk1 hbel sj
        go_wp2_with fail
        have hq2 := RHas_any v1 Am mm cm m sm Hm.out.1 (by have := Hm.out; omega) (1 + (k : Int))
        rw [h2] at hq2
        refine Calls.mono hq2 ?_
        clear hq2
        rintro e v2 ⟨rfl, hk2⟩
        have hb2 := hb1.trans (hk2.mono hb1.size)
        clear hk2 hb1 sm h1 h2
        go_wp2_with fail
        go_roundw
        case rel => exact ⟨k + 1, by omega, by go_num, by rw [HST.out] <;> simp, hb2⟩
        case measure => simp [intOf] <;> omega
      · -- the first
        have sj := (Hs.out.1.below hbel).more hbel.size
        have sm := (Hs.out.2.1.below hbel).more hbel.size
        have hstep := HF3.out k hlt
        rw [hp, hq, if_pos (by rfl)] at hstep
        rw [← HN.out] at hstep
        have h1 := HF1.out k hlt
        have h2 := HF2.out k hlt
        rw [hp, hq] at h1 h2
        have HST := Lib.hid hstep
        clear hp hq hstep
        go_wp2_with fail
        have hq1 := RHas_any wq Aj mj cj j sj Hj.out.1 (by have := Hj.out; omega) (1 + (k : Int))
        rw [h1] at hq1
        refine Calls.mono hq1 ?_
        clear hq1
        rintro e v1 ⟨rfl, hk1⟩
        have hb1 := hbel.trans (hk1.mono hbel.size)
        replace sm := (sm.below hk1).more hk1.size
        clear hk1 hbel sj
        go_wp2_with fail
        have hq2 := RHas_any v1 Am mm cm m sm Hm.out.1 (by have := Hm.out; omega) (1 + (k : Int))
        rw [h2] at hq2
        refine Calls.mono hq2 ?_
        clear hq2
        rintro e v2 ⟨rfl, hk2⟩
        have hb2 := hb1.trans (hk2.mono hb1.size)
        clear hk2 hb1 sm h1 h2
        go_wp2_with fail
        go_roundw
        case rel => exact ⟨k + 1, by omega, by go_num, by rw [HST.out], hb2⟩
        case measure => simp [intOf] <;> omega
      · -- both
        have sj := (Hs.out.1.below hbel).more hbel.size
        have sm := (Hs.out.2.1.below hbel).more hbel.size
        have hstep := HF3.out k hlt
        rw [hp, hq, if_neg (by simp)] at hstep
        rw [← HN.out] at hstep
        have h1 := HF1.out k hlt
        have h2 := HF2.out k hlt
        rw [hp, hq] at h1 h2
        have HST := Lib.hid hstep
        clear hp hq hstep
        go_wp2_with fail
        have hq1 := RHas_any wq Aj mj cj j sj Hj.out.1 (by have := Hj.out; omega) (1 + (k : Int))
        rw [h1] at hq1
        refine Calls.mono hq1 ?_
        clear hq1
        rintro e v1 ⟨rfl, hk1⟩
        have hb1 := hbel.trans (hk1.mono hbel.size)
        replace sm := (sm.below hk1).more hk1.size
        clear hk1 hbel sj
        go_wp2_with fail
        have hq2 := RHas_any v1 Am mm cm m sm Hm.out.1 (by have := Hm.out; omega) (1 + (k : Int))
        rw [h2] at hq2
        refine Calls.mono hq2 ?_
        clear hq2
        rintro e v2 ⟨rfl, hk2⟩
        have hb2 := hb1.trans (hk2.mono hb1.size)
        clear hk2 hb1 sm h1 h2
        go_wp2_with fail
        go_roundw
        case rel => exact ⟨k + 1, by omega, by go_num, by rw [HST.out] <;> simp, hb2⟩
        case measure => simp [intOf] <;> omega
    · obtain rfl : k = 64 := by omega
      have sj := (Hs.out.1.below hbel).more hbel.size
      have sm := (Hs.out.2.1.below hbel).more hbel.size
      have sb := (Hs.out.2.2.below hbel).more hbel.size
      go_wp2_with fail
      have hq := RRight_any wr Aj mj cj j sj Hj.out.1 (by have := Hj.out; omega)
      rw [show right j = true from Hj.out.2.2.2.2] at hq
      refine Calls.mono hq ?_
      clear hq
      rintro e w5 ⟨rfl, hkw5⟩
      have hbw5 := hbel.trans (hkw5.mono hbel.size)
      replace sj := (sj.below hkw5).more hkw5.size
      replace sm := (sm.below hkw5).more hkw5.size
      replace sb := (sb.below hkw5).more hkw5.size
      clear hkw5 hbel
      go_wp2_with fail
      have hq := RRight_any w5 Am mm cm m sm Hm.out.1 (by have := Hm.out; omega)
      rw [show right m = true from Hm.out.2.2.2.2] at hq
      refine Calls.mono hq ?_
      clear hq
      rintro e w6 ⟨rfl, hkw6⟩
      have hbw6 := hbw5.trans (hkw6.mono hbw5.size)
      replace sj := (sj.below hkw6).more hkw6.size
      replace sm := (sm.below hkw6).more hkw6.size
      replace sb := (sb.below hkw6).more hkw6.size
      clear hkw6 hbw5
      go_wp2_with fail
      have hq := RCount_any w6 Am mm cm m sm Hm.out.1 (by have := Hm.out; omega)
      rw [show countS m = N 1 64 from HF.out.1] at hq
      refine Calls.mono hq ?_
      clear hq
      rintro e w7 ⟨rfl, hkw7⟩
      have hbw7 := hbw6.trans (hkw7.mono hbw6.size)
      replace sj := (sj.below hkw7).more hkw7.size
      replace sm := (sm.below hkw7).more hkw7.size
      replace sb := (sb.below hkw7).more hkw7.size
      clear hkw7 hbw6
      obtain ⟨M, hM⟩ : ∃ M, N 1 64 = M := ⟨_, rfl⟩
      obtain ⟨C, hC⟩ : ∃ C, countS b = C := ⟨_, rfl⟩
      have hMb : 0 ≤ M ∧ M ≤ 64 := by rw [← hM, HN.out]; exact cnt_bd _ _ _
      have hCb : 0 ≤ C ∧ C ≤ 64 := by rw [← hC]; exact HF.out.2.2.1
      have hjc : countS j = M + C := by rw [HF.out.2.1, hM, hC]
      have hMC : IntKind.i64.wrap (M + C) = M + C := by rw [IntKind.wrap_i64]; omega
      rw [hM]
      have HJC := Lib.hid (And.intro hjc hC)
      clear hjc hC hM
      go_wp2_with fail
      have hq := RCount_any w7 Aj mj cj j sj Hj.out.1 (by have := Hj.out; omega)
      rw [show countS j = M + C from HJC.out.1] at hq
      refine Calls.mono hq ?_
      clear hq
      rintro e w8 ⟨rfl, hkw8⟩
      have hbw8 := hbw7.trans (hkw8.mono hbw7.size)
      replace sj := (sj.below hkw8).more hkw8.size
      replace sm := (sm.below hkw8).more hkw8.size
      replace sb := (sb.below hkw8).more hkw8.size
      clear hkw8 hbw7
      go_wp2_with fail
      have hq := RCount_any w8 Ab mb cb b sb Hb.out.1 (by have := Hb.out; omega)
      rw [show countS b = C from HJC.out.2] at hq
      refine Calls.mono hq ?_
      clear hq
      rintro e w9 ⟨rfl, hkw9⟩
      have hbw9 := hbw8.trans (hkw9.mono hbw8.size)
      replace sj := (sj.below hkw9).more hkw9.size
      replace sm := (sm.below hkw9).more hkw9.size
      replace sb := (sb.below hkw9).more hkw9.size
      clear hkw9 hbw8
      go_wp2_with fail
      have hq := RHas_any w9 Aj mj cj j sj Hj.out.1 (by have := Hj.out; omega) 0
      rw [show hasS j 0 = false from HF.out.2.2.2.1] at hq
      refine Calls.mono hq ?_
      clear hq
      rintro e w10 ⟨rfl, hkw10⟩
      have hbw10 := hbw9.trans (hkw10.mono hbw9.size)
      replace sj := (sj.below hkw10).more hkw10.size
      replace sm := (sm.below hkw10).more hkw10.size
      replace sb := (sb.below hkw10).more hkw10.size
      clear hkw10 hbw9
      go_wp2_with fail
      have hq := RHas_any w10 Aj mj cj j sj Hj.out.1 (by have := Hj.out; omega) 65
      rw [show hasS j 65 = false from HF.out.2.2.2.2.1] at hq
      refine Calls.mono hq ?_
      clear hq
      rintro e w11 ⟨rfl, hkw11⟩
      have hbw11 := hbw10.trans (hkw11.mono hbw10.size)
      replace sj := (sj.below hkw11).more hkw11.size
      replace sm := (sm.below hkw11).more hkw11.size
      replace sb := (sb.below hkw11).more hkw11.size
      clear hkw11 hbw10
      have ho := u64_or_nat x y hx.out hy.out
      go_wp2_with fail
      refine (Bits_any w11 (x ||| y) (U64.mk (Nat.or_lt_two_pow (n := 64) hx.out hy.out)) (0) (by omega) (by omega)).mono ?_
      rintro e w12 ⟨Ao1, co1, rfl, so1, hleo1, hcmo1, hkw12⟩
      obtain ⟨o1, ho1⟩ : ∃ L9, L9 = bitsR (x ||| y) (0) := ⟨_, rfl⟩
      rw [← ho1] at so1 hleo1 ⊢
      have hno1 : o1.length ≤ 64 := by rw [ho1]; exact bitsR_len _ _
      have hro1 : right o1 = true := by rw [ho1]; exact bitsR_right _ _
      obtain ⟨mo1, hmo1⟩ : ∃ q9, q9 = o1.length := ⟨_, rfl⟩
      rw [← hmo1] at hleo1 hno1 ⊢
      have Ho1 := Lib.hid (And.intro hmo1 (And.intro hno1 (And.intro hleo1 (And.intro hcmo1 hro1))))
      have Eo1 := Lib.hid ho1
      clear ho1 hmo1 hno1 hleo1 hcmo1 hro1
      have hbw12 := hbw11.trans (hkw12.mono hbw11.size)
      replace sj := (sj.below hkw12).more hkw12.size
      replace sm := (sm.below hkw12).more hkw12.size
      replace sb := (sb.below hkw12).more hkw12.size
      clear hkw12 hbw11
      go_wp2_with fail
      have hq := SameR_any w12 (B := w12.heap.size) (B' := w12.heap.size) Aj Ao1 mj mo1 cj co1 j o1 sj so1 Hj.out.1 Ho1.out.1 (by have := Hj.out; omega) (by have := Ho1.out; omega) (Nat.le_refl _) (Nat.le_refl _)
      rw [show decide (j = o1) = true from (by rw [decide_eq_true_eq]; exact (HF.out.2.2.2.2.2.1.trans Eo1.out.symm))] at hq
      refine Calls.mono hq ?_
      clear hq
      rintro e w13 ⟨rfl, hkw13⟩
      have hbw13 := hbw12.trans (hkw13.mono hbw12.size)
      replace sj := (sj.below hkw13).more hkw13.size
      replace sm := (sm.below hkw13).more hkw13.size
      replace sb := (sb.below hkw13).more hkw13.size
      replace so1 := (so1.below hkw13).more hkw13.size
      clear hkw13 hbw12
      clear so1
      have ho2 := u64_andNot_nat x y hx.out hy.out
      go_wp2_with fail
      refine (Bits_any w13 (x &&& (18446744073709551615 - y)) (U64.mk (Nat.lt_of_le_of_lt Nat.and_le_left hx.out)) (0) (by omega) (by omega)).mono ?_
      rintro e w14 ⟨Ao2, co2, rfl, so2, hleo2, hcmo2, hkw14⟩
      obtain ⟨o2, ho2⟩ : ∃ L9, L9 = bitsR (x &&& (18446744073709551615 - y)) (0) := ⟨_, rfl⟩
      rw [← ho2] at so2 hleo2 ⊢
      have hno2 : o2.length ≤ 64 := by rw [ho2]; exact bitsR_len _ _
      have hro2 : right o2 = true := by rw [ho2]; exact bitsR_right _ _
      obtain ⟨mo2, hmo2⟩ : ∃ q9, q9 = o2.length := ⟨_, rfl⟩
      rw [← hmo2] at hleo2 hno2 ⊢
      have Ho2 := Lib.hid (And.intro hmo2 (And.intro hno2 (And.intro hleo2 (And.intro hcmo2 hro2))))
      have Eo2 := Lib.hid ho2
      clear ho2 hmo2 hno2 hleo2 hcmo2 hro2
      have hbw14 := hbw13.trans (hkw14.mono hbw13.size)
      replace sj := (sj.below hkw14).more hkw14.size
      replace sm := (sm.below hkw14).more hkw14.size
      replace sb := (sb.below hkw14).more hkw14.size
      clear hkw14 hbw13
      go_wp2_with fail
      have hq := SameR_any w14 (B := w14.heap.size) (B' := w14.heap.size) Am Ao2 mm mo2 cm co2 m o2 sm so2 Hm.out.1 Ho2.out.1 (by have := Hm.out; omega) (by have := Ho2.out; omega) (Nat.le_refl _) (Nat.le_refl _)
      rw [show decide (m = o2) = true from (by rw [decide_eq_true_eq]; exact (HF.out.2.2.2.2.2.2.trans Eo2.out.symm))] at hq
      refine Calls.mono hq ?_
      clear hq
      rintro e w15 ⟨rfl, hkw15⟩
      have hbw15 := hbw14.trans (hkw15.mono hbw14.size)
      replace sj := (sj.below hkw15).more hkw15.size
      replace sm := (sm.below hkw15).more hkw15.size
      replace sb := (sb.below hkw15).more hkw15.size
      replace so2 := (so2.below hkw15).more hkw15.size
      clear hkw15 hbw14
      clear so2
      go_wp2_with fail
      have hfin := hbw4.trans (hbw15.mono hbw4.size)
      go_ret
      exact ⟨rfl, hfin⟩
set_option maxRecDepth 100000 in
set_option maxHeartbeats 12800000 in
theorem SpanSets_high (w : World) (x : Nat) (hx : U64 x) (y : Nat) (hy : U64 y) :
    Calls Try.prog 5 #[.int .u64 (x : Int), .int .u64 (y : Int), .bool true] w fun e w' => e = .returned (.bool true) ∧ Below w.heap.size w w' := by
  go_enter Try.func5, Try.ntmps5
  go_wp2_with fail
  refine (rknown_any w).mono ?_
  rintro e w0 ⟨rfl, hb0⟩
  go_wp2_with fail
  refine (Bits_any w0 x hx (1099511627711) (by omega) (by omega)).mono ?_
  rintro e w1 ⟨Aa, ca, rfl, sa, hlea, hcma, hkw1⟩
  obtain ⟨a, ha⟩ : ∃ L9, L9 = bitsR x (1099511627711) := ⟨_, rfl⟩
  rw [← ha] at sa hlea ⊢
  have hna : a.length ≤ 64 := by rw [ha]; exact bitsR_len _ _
  have hra : right a = true := by rw [ha]; exact bitsR_right _ _
  obtain ⟨ma, hma⟩ : ∃ q9, q9 = a.length := ⟨_, rfl⟩
  rw [← hma] at hlea hna ⊢
  have Ha := Lib.hid (And.intro hma (And.intro hna (And.intro hlea (And.intro hcma hra))))
  have Ea := Lib.hid ha
  clear ha hma hna hlea hcma hra
  have hbw1 := hb0.trans (hkw1.mono hb0.size)
  clear hkw1 hb0
  go_wp2_with fail
  refine (Bits_any w1 y hy (1099511627711) (by omega) (by omega)).mono ?_
  rintro e w2 ⟨Ab, cb, rfl, sb, hleb, hcmb, hkw2⟩
  obtain ⟨b, hb⟩ : ∃ L9, L9 = bitsR y (1099511627711) := ⟨_, rfl⟩
  rw [← hb] at sb hleb ⊢
  have hnb : b.length ≤ 64 := by rw [hb]; exact bitsR_len _ _
  have hrb : right b = true := by rw [hb]; exact bitsR_right _ _
  obtain ⟨mb, hmb⟩ : ∃ q9, q9 = b.length := ⟨_, rfl⟩
  rw [← hmb] at hleb hnb ⊢
  have Hb := Lib.hid (And.intro hmb (And.intro hnb (And.intro hleb (And.intro hcmb hrb))))
  have Eb := Lib.hid hb
  clear hb hmb hnb hleb hcmb hrb
  have hbw2 := hbw1.trans (hkw2.mono hbw1.size)
  replace sa := (sa.below hkw2).more hkw2.size
  clear hkw2 hbw1
  go_wp2_with fail
  refine (Join_any w2 Aa Ab ma mb ca cb a b sa sb Ha.out.1 Hb.out.1 (by have := Ha.out; omega) (by have := Hb.out; omega) Hb.out.2.2.1).mono ?_
  rintro e w3 ⟨Aj, cj, rfl, sj, hlej, hcmj, hkw3⟩
  obtain ⟨j, hj⟩ : ∃ L9, L9 = joinS a b := ⟨_, rfl⟩
  rw [← hj] at sj hlej ⊢
  have hnj : j.length ≤ 128 := by rw [hj]; exact (by have := joinS_len a b; have := Ha.out; have := Hb.out; omega)
  have hrj : right j = true := by rw [hj]; exact joinS_right _ _
  obtain ⟨mj, hmj⟩ : ∃ q9, q9 = j.length := ⟨_, rfl⟩
  rw [← hmj] at hlej hnj ⊢
  have Hj := Lib.hid (And.intro hmj (And.intro hnj (And.intro hlej (And.intro hcmj hrj))))
  have Ej := Lib.hid hj
  clear hj hmj hnj hlej hcmj hrj
  have hbw3 := hbw2.trans (hkw3.mono hbw2.size)
  replace sa := (sa.below hkw3).more hkw3.size
  replace sb := (sb.below hkw3).more hkw3.size
  clear hkw3 hbw2
  go_wp2_with fail
  refine (Minus_any w3 Aa Ab ma mb ca cb a b sa sb Ha.out.1 Hb.out.1 (by have := Ha.out; omega) (by have := Hb.out; omega) Hb.out.2.2.1 Hb.out.2.2.2.1).mono ?_
  rintro e w4 ⟨Am, cm, rfl, sm, hlem, hcmm, hkw4⟩
  obtain ⟨m, hm⟩ : ∃ L9, L9 = minusS a b := ⟨_, rfl⟩
  rw [← hm] at sm hlem ⊢
  have hnm : m.length ≤ 128 := by rw [hm]; exact (by have := minusS_len a b; have := Ha.out; have := Hb.out; omega)
  have hrm : right m = true := by rw [hm]; exact minusS_right _ _
  obtain ⟨mm, hmm⟩ : ∃ q9, q9 = m.length := ⟨_, rfl⟩
  rw [← hmm] at hlem hnm ⊢
  have Hm := Lib.hid (And.intro hmm (And.intro hnm (And.intro hlem (And.intro hcmm hrm))))
  have Em := Lib.hid hm
  clear hm hmm hnm hlem hcmm hrm
  have hbw4 := hbw3.trans (hkw4.mono hbw3.size)
  replace sa := (sa.below hkw4).more hkw4.size
  replace sb := (sb.below hkw4).more hkw4.size
  replace sj := (sj.below hkw4).more hkw4.size
  clear hkw4 hbw3
  clear sa
  have hsf := sets_facts (x := x) (y := y) (base := 1099511627711) hy.out (by omega) (by unfold mx; omega) Ea.out Eb.out Ej.out Em.out
  rw [show ((1099511627711 : Int) + 1) = 1099511627712 from rfl, show ((1099511627711 : Int) + 65) = 1099511627776 from rfl] at hsf
  obtain ⟨f1, f2, f3, f4, f5, f6, f7, f8, f9, f10⟩ := hsf
  have HF1 := Lib.hid f1
  have HF2 := Lib.hid f2
  have HF3 := Lib.hid f3
  obtain ⟨N, hN⟩ : ∃ N : Int → Nat → Int, N = cnt (has m) := ⟨_, rfl⟩
  rw [← hN] at f4 f5
  have HN := Lib.hid hN
  have HF := Lib.hid (And.intro f4 (And.intro f5 (And.intro f6 (And.intro f7 (And.intro f8 (And.intro f9 f10))))))
  clear f1 f2 f3 f4 f5 f6 f7 f8 f9 f10 hN
  go_wp2_with fail
  have Hs := Lib.hid (And.intro sj (And.intro sm sb))
  clear sj sm sb
  go_loopw [12, 13] (fun x12 x13 wr => ∃ k : Nat, k ≤ 64 ∧ x13 = .int .i64 (k : Int) ∧ x12 = .int .i64 (N 1099511627712 k) ∧ Below w4.heap.size w4 wr) (fun _ x13 _ => 64 - (intOf x13).toNat)
  case atStart => exact ⟨0, by omega, rfl, by rw [HN.out]; rfl, Below.refl _ _⟩
  case round =>
    obtain ⟨k, hk, rfl, rfl, hbel⟩ := hrel
    by_cases hlt : k < 64
    · have hd1 : decide ((k : Int) < 64) = true := by rw [decide_eq_true_eq]; omega
      have e1 := and1_bit x k hx
      have e2 := and1_bit y k hy
      obtain ⟨p, hp⟩ : ∃ p, bit x k = p := ⟨_, rfl⟩
      obtain ⟨q, hq⟩ : ∃ q, bit y k = q := ⟨_, rfl⟩
      rw [hp] at e1
      rw [hq] at e2
      have hNb : 0 ≤ N 1099511627712 k ∧ N 1099511627712 k ≤ (k : Int) := by rw [HN.out]; exact cnt_bd _ _ _
      have hwk : IntKind.i64.wrap (1099511627712 + (k : Int)) = 1099511627712 + (k : Int) := by rw [IntKind.wrap_i64]; omega
      go_wp2_with fail
      refine bstart (by kernel_rfl) ?_
      refine btake 0 (oi := _) (v := ?_) (by simp only [List.getElem?_toArray, List.getElem?_cons_zero]; rfl) (by kernel_rfl) (by exact fun _ _ _ h => h) (by first | assumption | exact KB.refl _) (.inl ⟨by rfl, fun W hW => ?_⟩) ?_; rotate_left
      · (go_simp; first | done | with_reducible rfl)
      try simp only [Act.put, List.setIfInBounds_toArray, List.set_cons_zero, List.set_cons_succ]
      refine btake 1 (oi := _) (v := ?_) (by simp only [List.getElem?_toArray, List.getElem?_cons_succ, List.getElem?_cons_zero]; rfl) (by kernel_rfl) (by exact fun _ _ _ h => h) (by first | assumption | exact KB.refl _) (.inl ⟨by rfl, fun W hW => ?_⟩) ?_; rotate_left
      · (go_simp; first | done | with_reducible rfl)
      try simp only [Act.put, List.setIfInBounds_toArray, List.set_cons_zero, List.set_cons_succ]
      refine btake 2 (oi := _) (v := ?_) (by simp only [List.getElem?_toArray, List.getElem?_cons_succ, List.getElem?_cons_zero]; rfl) (by kernel_rfl) (by exact fun _ _ _ h => h) (by first | assumption | exact KB.refl _) (.inl ⟨by rfl, fun W hW => ?_⟩) ?_; rotate_left
      · (go_simp; first | done | with_reducible rfl)
      try simp only [Act.put, List.setIfInBounds_toArray, List.set_cons_zero, List.set_cons_succ]
      refine btake 3 (oi := _) (v := ?_) (by simp only [List.getElem?_toArray, List.getElem?_cons_succ, List.getElem?_cons_zero]; rfl) (by kernel_rfl) (by exact fun _ _ _ h => h) (by first | assumption | exact KB.refl _) (.inl ⟨by rfl, fun W hW => ?_⟩) ?_; rotate_left
      · (go_simp; first | done | with_reducible rfl)
      try simp only [Act.put, List.setIfInBounds_toArray, List.set_cons_zero, List.set_cons_succ]
      refine btake 4 (oi := _) (v := ?_) (by simp only [List.getElem?_toArray, List.getElem?_cons_succ, List.getElem?_cons_zero]; rfl) (by kernel_rfl) (by exact fun _ _ _ h => h) (by first | assumption | exact KB.refl _) (.inl ⟨by rfl, fun W hW => ?_⟩) ?_; rotate_left
      · (go_simp; first | done | with_reducible rfl)
      try simp only [Act.put, List.setIfInBounds_toArray, List.set_cons_zero, List.set_cons_succ]
      refine btake 5 (oi := _) (v := ?_) (by simp only [List.getElem?_toArray, List.getElem?_cons_succ, List.getElem?_cons_zero]; rfl) (by kernel_rfl) (by exact fun _ _ _ h => h) (by first | assumption | exact KB.refl _) (.inl ⟨by rfl, fun W hW => ?_⟩) ?_; rotate_left
      · (go_simp; first | done | with_reducible rfl)
      try simp only [Act.put, List.setIfInBounds_toArray, List.set_cons_zero, List.set_cons_succ]
      refine btake 6 (oi := _) (v := ?_) (by simp only [List.getElem?_toArray, List.getElem?_cons_succ, List.getElem?_cons_zero]; rfl) (by kernel_rfl) (by exact fun _ _ _ h => h) (by first | assumption | exact KB.refl _) (.inl ⟨by rfl, fun W hW => ?_⟩) ?_; rotate_left
      · (go_simp; first | done | with_reducible rfl)
      try simp only [Act.put, List.setIfInBounds_toArray, List.set_cons_zero, List.set_cons_succ]
      refine btake 7 (oi := _) (v := ?_) (by simp only [List.getElem?_toArray, List.getElem?_cons_succ, List.getElem?_cons_zero]; rfl) (by kernel_rfl) (by exact fun _ _ _ h => h) (by first | assumption | exact KB.refl _) (.inl ⟨by rfl, fun W hW => ?_⟩) ?_; rotate_left
      · (go_simp; first | done | with_reducible rfl)
      try simp only [Act.put, List.setIfInBounds_toArray, List.set_cons_zero, List.set_cons_succ]
      refine btake 8 (oi := _) (v := ?_) (by simp only [List.getElem?_toArray, List.getElem?_cons_succ, List.getElem?_cons_zero]; rfl) (by kernel_rfl) (by exact fun _ _ _ h => h) (by first | assumption | exact KB.refl _) (.inl ⟨by rfl, fun W hW => ?_⟩) ?_; rotate_left
      · (go_simp; first | done | with_reducible rfl)
      try simp only [Act.put, List.setIfInBounds_toArray, List.set_cons_zero, List.set_cons_succ]
      refine btake 9 (oi := _) (v := ?_) (by simp only [List.getElem?_toArray, List.getElem?_cons_succ, List.getElem?_cons_zero]; rfl) (by kernel_rfl) (by exact fun _ _ _ h => h) (by first | assumption | exact KB.refl _) (.inl ⟨by rfl, fun W hW => ?_⟩) ?_; rotate_left
      · (go_simp; first | done | with_reducible rfl)
      try simp only [Act.put, List.setIfInBounds_toArray, List.set_cons_zero, List.set_cons_succ]
      refine btake 10 (oi := _) (v := ?_) (by simp only [List.getElem?_toArray, List.getElem?_cons_succ, List.getElem?_cons_zero]; rfl) (by kernel_rfl) (by exact fun _ _ _ h => h) (by first | assumption | exact KB.refl _) (.inl ⟨by rfl, fun W hW => ?_⟩) ?_; rotate_left
      · (go_simp; first | done | with_reducible rfl)
      try simp only [Act.put, List.setIfInBounds_toArray, List.set_cons_zero, List.set_cons_succ]
      refine btake 11 (oi := _) (v := ?_) (by simp only [List.getElem?_toArray, List.getElem?_cons_succ, List.getElem?_cons_zero]; rfl) (by kernel_rfl) (by exact fun _ _ _ h => h) (by first | assumption | exact KB.refl _) (.inl ⟨by rfl, fun W hW => ?_⟩) ?_; rotate_left
      · (go_simp; first | done | with_reducible rfl)
      try simp only [Act.put, List.setIfInBounds_toArray, List.set_cons_zero, List.set_cons_succ]
      refine bdone (by kernel_rfl) ?_
      replace hbel := hbel.drew
      generalize wr.drew = wq at hbel ⊢
      clear e1 e2
      cases p <;> cases q
      · -- neither
        have sj := (Hs.out.1.below hbel).more hbel.size
        have sm := (Hs.out.2.1.below hbel).more hbel.size
        have hstep := HF3.out k hlt
        rw [hp, hq, if_neg (by simp)] at hstep
        rw [← HN.out] at hstep
        have h1 := HF1.out k hlt
        have h2 := HF2.out k hlt
        rw [hp, hq] at h1 h2
        have HST := Lib.hid hstep
        clear hp hq hstep
        go_wp2_with fail
        have hq1 := RHas_any wq Aj mj cj j sj Hj.out.1 (by have := Hj.out; omega) (1099511627712 + (k : Int))
        rw [h1] at hq1
        refine Calls.mono hq1 ?_
        clear hq1
        rintro e v1 ⟨rfl, hk1⟩
        have hb1 := hbel.trans (hk1.mono hbel.size)
        replace sm := (sm.below hk1).more hk1.size
        clear hk1 hbel sj
        go_wp2_with fail
        have hq2 := RHas_any v1 Am mm cm m sm Hm.out.1 (by have := Hm.out; omega) (1099511627712 + (k : Int))
        rw [h2] at hq2
        refine Calls.mono hq2 ?_
        clear hq2
        rintro e v2 ⟨rfl, hk2⟩
        have hb2 := hb1.trans (hk2.mono hb1.size)
        clear hk2 hb1 sm h1 h2
        go_wp2_with fail
        go_roundw
        case rel => exact ⟨k + 1, by omega, by go_num, by rw [HST.out] <;> simp, hb2⟩
        case measure => simp [intOf] <;> omega
      · -- the second
        have sj := (Hs.out.1.below hbel).more hbel.size
        have sm := (Hs.out.2.1.below hbel).more hbel.size
        have hstep := HF3.out k hlt
        rw [hp, hq, if_neg (by simp)] at hstep
        rw [← HN.out] at hstep
        have h1 := HF1.out k hlt
        have h2 := HF2.out k hlt
        rw [hp, hq] at h1 h2
        have HST := Lib.hid hstep
        clear hp hq hstep
        go_wp2_with fail
        have hq1 := RHas_any wq Aj mj cj j sj Hj.out.1 (by have := Hj.out; omega) (1099511627712 + (k : Int))
        rw [h1] at hq1
        refine Calls.mono hq1 ?_
        clear hq1
        rintro e v1 ⟨rfl, hk1⟩
        have hb1 := hbel.trans (hk1.mono hbel.size)
        replace sm := (sm.below hk1).more hk1.size
        clear hk1 hbel sj
        go_wp2_with fail
        have hq2 := RHas_any v1 Am mm cm m sm Hm.out.1 (by have := Hm.out; omega) (1099511627712 + (k : Int))
        rw [h2] at hq2
        refine Calls.mono hq2 ?_
        clear hq2
        rintro e v2 ⟨rfl, hk2⟩
        have hb2 := hb1.trans (hk2.mono hb1.size)
        clear hk2 hb1 sm h1 h2
        go_wp2_with fail
        go_roundw
        case rel => exact ⟨k + 1, by omega, by go_num, by rw [HST.out] <;> simp, hb2⟩
        case measure => simp [intOf] <;> omega
      · -- the first
        have sj := (Hs.out.1.below hbel).more hbel.size
        have sm := (Hs.out.2.1.below hbel).more hbel.size
        have hstep := HF3.out k hlt
        rw [hp, hq, if_pos (by rfl)] at hstep
        rw [← HN.out] at hstep
        have h1 := HF1.out k hlt
        have h2 := HF2.out k hlt
        rw [hp, hq] at h1 h2
        have HST := Lib.hid hstep
        clear hp hq hstep
        go_wp2_with fail
        have hq1 := RHas_any wq Aj mj cj j sj Hj.out.1 (by have := Hj.out; omega) (1099511627712 + (k : Int))
        rw [h1] at hq1
        refine Calls.mono hq1 ?_
        clear hq1
        rintro e v1 ⟨rfl, hk1⟩
        have hb1 := hbel.trans (hk1.mono hbel.size)
        replace sm := (sm.below hk1).more hk1.size
        clear hk1 hbel sj
        go_wp2_with fail
        have hq2 := RHas_any v1 Am mm cm m sm Hm.out.1 (by have := Hm.out; omega) (1099511627712 + (k : Int))
        rw [h2] at hq2
        refine Calls.mono hq2 ?_
        clear hq2
        rintro e v2 ⟨rfl, hk2⟩
        have hb2 := hb1.trans (hk2.mono hb1.size)
        clear hk2 hb1 sm h1 h2
        go_wp2_with fail
        go_roundw
        case rel => exact ⟨k + 1, by omega, by go_num, by rw [HST.out], hb2⟩
        case measure => simp [intOf] <;> omega
      · -- both
        have sj := (Hs.out.1.below hbel).more hbel.size
        have sm := (Hs.out.2.1.below hbel).more hbel.size
        have hstep := HF3.out k hlt
        rw [hp, hq, if_neg (by simp)] at hstep
        rw [← HN.out] at hstep
        have h1 := HF1.out k hlt
        have h2 := HF2.out k hlt
        rw [hp, hq] at h1 h2
        have HST := Lib.hid hstep
        clear hp hq hstep
        go_wp2_with fail
        have hq1 := RHas_any wq Aj mj cj j sj Hj.out.1 (by have := Hj.out; omega) (1099511627712 + (k : Int))
        rw [h1] at hq1
        refine Calls.mono hq1 ?_
        clear hq1
        rintro e v1 ⟨rfl, hk1⟩
        have hb1 := hbel.trans (hk1.mono hbel.size)
        replace sm := (sm.below hk1).more hk1.size
        clear hk1 hbel sj
        go_wp2_with fail
        have hq2 := RHas_any v1 Am mm cm m sm Hm.out.1 (by have := Hm.out; omega) (1099511627712 + (k : Int))
        rw [h2] at hq2
        refine Calls.mono hq2 ?_
        clear hq2
        rintro e v2 ⟨rfl, hk2⟩
        have hb2 := hb1.trans (hk2.mono hb1.size)
        clear hk2 hb1 sm h1 h2
        go_wp2_with fail
        go_roundw
        case rel => exact ⟨k + 1, by omega, by go_num, by rw [HST.out] <;> simp, hb2⟩
        case measure => simp [intOf] <;> omega
    · obtain rfl : k = 64 := by omega
      have sj := (Hs.out.1.below hbel).more hbel.size
      have sm := (Hs.out.2.1.below hbel).more hbel.size
      have sb := (Hs.out.2.2.below hbel).more hbel.size
      go_wp2_with fail
      have hq := RRight_any wr Aj mj cj j sj Hj.out.1 (by have := Hj.out; omega)
      rw [show right j = true from Hj.out.2.2.2.2] at hq
      refine Calls.mono hq ?_
      clear hq
      rintro e w5 ⟨rfl, hkw5⟩
      have hbw5 := hbel.trans (hkw5.mono hbel.size)
      replace sj := (sj.below hkw5).more hkw5.size
      replace sm := (sm.below hkw5).more hkw5.size
      replace sb := (sb.below hkw5).more hkw5.size
      clear hkw5 hbel
      go_wp2_with fail
      have hq := RRight_any w5 Am mm cm m sm Hm.out.1 (by have := Hm.out; omega)
      rw [show right m = true from Hm.out.2.2.2.2] at hq
      refine Calls.mono hq ?_
      clear hq
      rintro e w6 ⟨rfl, hkw6⟩
      have hbw6 := hbw5.trans (hkw6.mono hbw5.size)
      replace sj := (sj.below hkw6).more hkw6.size
      replace sm := (sm.below hkw6).more hkw6.size
      replace sb := (sb.below hkw6).more hkw6.size
      clear hkw6 hbw5
      go_wp2_with fail
      have hq := RCount_any w6 Am mm cm m sm Hm.out.1 (by have := Hm.out; omega)
      rw [show countS m = N 1099511627712 64 from HF.out.1] at hq
      refine Calls.mono hq ?_
      clear hq
      rintro e w7 ⟨rfl, hkw7⟩
      have hbw7 := hbw6.trans (hkw7.mono hbw6.size)
      replace sj := (sj.below hkw7).more hkw7.size
      replace sm := (sm.below hkw7).more hkw7.size
      replace sb := (sb.below hkw7).more hkw7.size
      clear hkw7 hbw6
      obtain ⟨M, hM⟩ : ∃ M, N 1099511627712 64 = M := ⟨_, rfl⟩
      obtain ⟨C, hC⟩ : ∃ C, countS b = C := ⟨_, rfl⟩
      have hMb : 0 ≤ M ∧ M ≤ 64 := by rw [← hM, HN.out]; exact cnt_bd _ _ _
      have hCb : 0 ≤ C ∧ C ≤ 64 := by rw [← hC]; exact HF.out.2.2.1
      have hjc : countS j = M + C := by rw [HF.out.2.1, hM, hC]
      have hMC : IntKind.i64.wrap (M + C) = M + C := by rw [IntKind.wrap_i64]; omega
      rw [hM]
      have HJC := Lib.hid (And.intro hjc hC)
      clear hjc hC hM
      go_wp2_with fail
      have hq := RCount_any w7 Aj mj cj j sj Hj.out.1 (by have := Hj.out; omega)
      rw [show countS j = M + C from HJC.out.1] at hq
      refine Calls.mono hq ?_
      clear hq
      rintro e w8 ⟨rfl, hkw8⟩
      have hbw8 := hbw7.trans (hkw8.mono hbw7.size)
      replace sj := (sj.below hkw8).more hkw8.size
      replace sm := (sm.below hkw8).more hkw8.size
      replace sb := (sb.below hkw8).more hkw8.size
      clear hkw8 hbw7
      go_wp2_with fail
      have hq := RCount_any w8 Ab mb cb b sb Hb.out.1 (by have := Hb.out; omega)
      rw [show countS b = C from HJC.out.2] at hq
      refine Calls.mono hq ?_
      clear hq
      rintro e w9 ⟨rfl, hkw9⟩
      have hbw9 := hbw8.trans (hkw9.mono hbw8.size)
      replace sj := (sj.below hkw9).more hkw9.size
      replace sm := (sm.below hkw9).more hkw9.size
      replace sb := (sb.below hkw9).more hkw9.size
      clear hkw9 hbw8
      go_wp2_with fail
      have hq := RHas_any w9 Aj mj cj j sj Hj.out.1 (by have := Hj.out; omega) 1099511627711
      rw [show hasS j 1099511627711 = false from HF.out.2.2.2.1] at hq
      refine Calls.mono hq ?_
      clear hq
      rintro e w10 ⟨rfl, hkw10⟩
      have hbw10 := hbw9.trans (hkw10.mono hbw9.size)
      replace sj := (sj.below hkw10).more hkw10.size
      replace sm := (sm.below hkw10).more hkw10.size
      replace sb := (sb.below hkw10).more hkw10.size
      clear hkw10 hbw9
      go_wp2_with fail
      have hq := RHas_any w10 Aj mj cj j sj Hj.out.1 (by have := Hj.out; omega) 1099511627776
      rw [show hasS j 1099511627776 = false from HF.out.2.2.2.2.1] at hq
      refine Calls.mono hq ?_
      clear hq
      rintro e w11 ⟨rfl, hkw11⟩
      have hbw11 := hbw10.trans (hkw11.mono hbw10.size)
      replace sj := (sj.below hkw11).more hkw11.size
      replace sm := (sm.below hkw11).more hkw11.size
      replace sb := (sb.below hkw11).more hkw11.size
      clear hkw11 hbw10
      have ho := u64_or_nat x y hx.out hy.out
      go_wp2_with fail
      refine (Bits_any w11 (x ||| y) (U64.mk (Nat.or_lt_two_pow (n := 64) hx.out hy.out)) (1099511627711) (by omega) (by omega)).mono ?_
      rintro e w12 ⟨Ao1, co1, rfl, so1, hleo1, hcmo1, hkw12⟩
      obtain ⟨o1, ho1⟩ : ∃ L9, L9 = bitsR (x ||| y) (1099511627711) := ⟨_, rfl⟩
      rw [← ho1] at so1 hleo1 ⊢
      have hno1 : o1.length ≤ 64 := by rw [ho1]; exact bitsR_len _ _
      have hro1 : right o1 = true := by rw [ho1]; exact bitsR_right _ _
      obtain ⟨mo1, hmo1⟩ : ∃ q9, q9 = o1.length := ⟨_, rfl⟩
      rw [← hmo1] at hleo1 hno1 ⊢
      have Ho1 := Lib.hid (And.intro hmo1 (And.intro hno1 (And.intro hleo1 (And.intro hcmo1 hro1))))
      have Eo1 := Lib.hid ho1
      clear ho1 hmo1 hno1 hleo1 hcmo1 hro1
      have hbw12 := hbw11.trans (hkw12.mono hbw11.size)
      replace sj := (sj.below hkw12).more hkw12.size
      replace sm := (sm.below hkw12).more hkw12.size
      replace sb := (sb.below hkw12).more hkw12.size
      clear hkw12 hbw11
      go_wp2_with fail
      have hq := SameR_any w12 (B := w12.heap.size) (B' := w12.heap.size) Aj Ao1 mj mo1 cj co1 j o1 sj so1 Hj.out.1 Ho1.out.1 (by have := Hj.out; omega) (by have := Ho1.out; omega) (Nat.le_refl _) (Nat.le_refl _)
      rw [show decide (j = o1) = true from (by rw [decide_eq_true_eq]; exact (HF.out.2.2.2.2.2.1.trans Eo1.out.symm))] at hq
      refine Calls.mono hq ?_
      clear hq
      rintro e w13 ⟨rfl, hkw13⟩
      have hbw13 := hbw12.trans (hkw13.mono hbw12.size)
      replace sj := (sj.below hkw13).more hkw13.size
      replace sm := (sm.below hkw13).more hkw13.size
      replace sb := (sb.below hkw13).more hkw13.size
      replace so1 := (so1.below hkw13).more hkw13.size
      clear hkw13 hbw12
      clear so1
      have ho2 := u64_andNot_nat x y hx.out hy.out
      go_wp2_with fail
      refine (Bits_any w13 (x &&& (18446744073709551615 - y)) (U64.mk (Nat.lt_of_le_of_lt Nat.and_le_left hx.out)) (1099511627711) (by omega) (by omega)).mono ?_
      rintro e w14 ⟨Ao2, co2, rfl, so2, hleo2, hcmo2, hkw14⟩
      obtain ⟨o2, ho2⟩ : ∃ L9, L9 = bitsR (x &&& (18446744073709551615 - y)) (1099511627711) := ⟨_, rfl⟩
      rw [← ho2] at so2 hleo2 ⊢
      have hno2 : o2.length ≤ 64 := by rw [ho2]; exact bitsR_len _ _
      have hro2 : right o2 = true := by rw [ho2]; exact bitsR_right _ _
      obtain ⟨mo2, hmo2⟩ : ∃ q9, q9 = o2.length := ⟨_, rfl⟩
      rw [← hmo2] at hleo2 hno2 ⊢
      have Ho2 := Lib.hid (And.intro hmo2 (And.intro hno2 (And.intro hleo2 (And.intro hcmo2 hro2))))
      have Eo2 := Lib.hid ho2
      clear ho2 hmo2 hno2 hleo2 hcmo2 hro2
      have hbw14 := hbw13.trans (hkw14.mono hbw13.size)
      replace sj := (sj.below hkw14).more hkw14.size
      replace sm := (sm.below hkw14).more hkw14.size
      replace sb := (sb.below hkw14).more hkw14.size
      clear hkw14 hbw13
      go_wp2_with fail
      have hq := SameR_any w14 (B := w14.heap.size) (B' := w14.heap.size) Am Ao2 mm mo2 cm co2 m o2 sm so2 Hm.out.1 Ho2.out.1 (by have := Hm.out; omega) (by have := Ho2.out; omega) (Nat.le_refl _) (Nat.le_refl _)
      rw [show decide (m = o2) = true from (by rw [decide_eq_true_eq]; exact (HF.out.2.2.2.2.2.2.trans Eo2.out.symm))] at hq
      refine Calls.mono hq ?_
      clear hq
      rintro e w15 ⟨rfl, hkw15⟩
      have hbw15 := hbw14.trans (hkw15.mono hbw14.size)
      replace sj := (sj.below hkw15).more hkw15.size
      replace sm := (sm.below hkw15).more hkw15.size
      replace sb := (sb.below hkw15).more hkw15.size
      replace so2 := (so2.below hkw15).more hkw15.size
      clear hkw15 hbw14
      clear so2
      go_wp2_with fail
      have hfin := hbw4.trans (hbw15.mono hbw4.size)
      go_ret
      exact ⟨rfl, hfin⟩
theorem SpanSets_walk (w : World) (x : Nat) (hx : U64 x) (y : Nat) (hy : U64 y) (high : Bool) :
    Calls Try.prog 5 #[.int .u64 (x : Int), .int .u64 (y : Int), .bool high] w fun e w' => e = .returned (.bool true) ∧ Below w.heap.size w w' := by
  cases high
  · exact SpanSets_low w x hx y hy
  · exact SpanSets_high w x hx y hy
end Go.Proofs.Ytdpkmabojlihmaa

