/- 'SpanFirst', walked. -/
import Derived.Test.YtdpkmabojlihmaaPSpan4
import Derived.Test.YtdpkmabojlihmaaRgK2
import Derived.Test.YtdpkmabojlihmaaRgE
import Derived.Test.YtdpkmabojlihmaaFrame
namespace Go.Proofs.Ytdpkmabojlihmaa
open Go.RowKit Go.Proofs.Ytdpkmabojlihmaa.Pl Go.Proofs.Ytdpkmabojlihmaa.Sp

theorem first_facts {x y : Nat} {b : Int} (h0 : 0 ≤ b) (h1 : b ≤ 2) {a : List Rg} (ha : a = joinS (bitsR x b) (bitsR y 0)) :
    ∃ F : Nat, firstS a = (F : Int) ∧ F ≤ 66 ∧ (∀ k : Nat, 1 ≤ k → k ≤ F → hasS a (k : Int) = true) ∧ hasS a ((F : Int) + 1) = false ∧ (F : Int) ≤ countS a := by
  have hr : right a = true := by rw [ha]; exact joinS_right _ _
  obtain ⟨f1, f2, f3⟩ := first_has hr
  have f4 := first_count hr
  have e1 : firstS a = firstR a := by rw [firstS, if_pos hr]
  have e2 : countS a = countR a := by rw [countS, if_pos hr]
  have e3 : ∀ n, hasS a n = has a n := fun n => by rw [hasS, hr]; rfl
  have h66 : ∀ n, has a n = true → n ≤ 66 := fun n hn => by
    rw [ha, joinS_has (bitsR_right _ _) (bitsR_right _ _), Bool.or_eq_true, bitsR_has, bitsR_has] at hn
    rcases hn with ⟨_, i, hi, _, rfl⟩ | ⟨_, i, hi, _, rfl⟩ <;> omega
  refine ⟨(firstR a).toNat, by rw [e1]; omega, ?_, fun k hk1 hk2 => by rw [e3]; exact f2 _ (by omega) (by omega), by rw [e3, show (((firstR a).toNat : Nat) : Int) = firstR a by omega]; exact f3, by rw [e2]; omega⟩
  by_cases h : 1 ≤ firstR a
  · have := h66 _ (f2 _ h (Int.le_refl _)); omega
  · omega
set_option maxRecDepth 100000 in
set_option maxHeartbeats 6400000 in
theorem SpanFirst_walk (w : World) (x : Nat) (hx : U64 x) (n : Nat) (hn : n < 256) :
    Calls Try.prog 8 #[.int .u64 (x : Int), .int .u8 (n : Int)] w fun e w' => e = .returned (.bool true) ∧ Below w.heap.size w w' := by
  have hn64 : U64 n := U64.mk (by omega)
  obtain ⟨b3, hb3⟩ : ∃ b3 : Int, (n : Int) % 3 = b3 := ⟨_, rfl⟩
  have hb30 : 0 ≤ b3 := by omega
  have hb32 : b3 ≤ 2 := by omega
  go_enter Try.func8, Try.ntmps8
  go_wp2_with fail
  refine (rknown_any w).mono ?_
  rintro e w0 ⟨rfl, hb0⟩
  go_wp2_with fail
  refine (Bits_any w0 x hx (b3) (by omega) (by omega)).mono ?_
  rintro e w1 ⟨Aa1, ca1, rfl, sa1, hlea1, hcma1, hkw1⟩
  obtain ⟨a1, ha1⟩ : ∃ L9, L9 = bitsR x (b3) := ⟨_, rfl⟩
  rw [← ha1] at sa1 hlea1 ⊢
  have hna1 : a1.length ≤ 64 := by rw [ha1]; exact bitsR_len _ _
  have hra1 : right a1 = true := by rw [ha1]; exact bitsR_right _ _
  obtain ⟨ma1, hma1⟩ : ∃ q9, q9 = a1.length := ⟨_, rfl⟩
  rw [← hma1] at hlea1 hna1 ⊢
  have Ha1 := Lib.hid (And.intro hma1 (And.intro hna1 (And.intro hlea1 (And.intro hcma1 hra1))))
  have Ea1 := Lib.hid ha1
  clear ha1 hma1 hna1 hlea1 hcma1 hra1
  have hbw1 := hb0.trans (hkw1.mono hb0.size)
  clear hkw1 hb0
  go_wp2_with fail
  refine (Bits_any w1 n hn64 (0) (by omega) (by omega)).mono ?_
  rintro e w2 ⟨Aa2, ca2, rfl, sa2, hlea2, hcma2, hkw2⟩
  obtain ⟨a2, ha2⟩ : ∃ L9, L9 = bitsR n (0) := ⟨_, rfl⟩
  rw [← ha2] at sa2 hlea2 ⊢
  have hna2 : a2.length ≤ 64 := by rw [ha2]; exact bitsR_len _ _
  have hra2 : right a2 = true := by rw [ha2]; exact bitsR_right _ _
  obtain ⟨ma2, hma2⟩ : ∃ q9, q9 = a2.length := ⟨_, rfl⟩
  rw [← hma2] at hlea2 hna2 ⊢
  have Ha2 := Lib.hid (And.intro hma2 (And.intro hna2 (And.intro hlea2 (And.intro hcma2 hra2))))
  have Ea2 := Lib.hid ha2
  clear ha2 hma2 hna2 hlea2 hcma2 hra2
  have hbw2 := hbw1.trans (hkw2.mono hbw1.size)
  replace sa1 := (sa1.below hkw2).more hkw2.size
  clear hkw2 hbw1
  go_wp2_with fail
  refine (Join_any w2 Aa1 Aa2 ma1 ma2 ca1 ca2 a1 a2 sa1 sa2 Ha1.out.1 Ha2.out.1 (by have := Ha1.out; omega) (by have := Ha2.out; omega) Ha2.out.2.2.1).mono ?_
  rintro e w3 ⟨Aa, ca, rfl, sa, hlea, hcma, hkw3⟩
  obtain ⟨a, ha⟩ : ∃ L9, L9 = joinS a1 a2 := ⟨_, rfl⟩
  rw [← ha] at sa hlea ⊢
  have hna : a.length ≤ 128 := by rw [ha]; exact (by have := joinS_len a1 a2; have := Ha1.out; have := Ha2.out; omega)
  have hra : right a = true := by rw [ha]; exact joinS_right _ _
  obtain ⟨ma, hma⟩ : ∃ q9, q9 = a.length := ⟨_, rfl⟩
  rw [← hma] at hlea hna ⊢
  have Ha := Lib.hid (And.intro hma (And.intro hna (And.intro hlea (And.intro hcma hra))))
  have Ea := Lib.hid ha
  clear ha hma hna hlea hcma hra
  have hbw3 := hbw2.trans (hkw3.mono hbw2.size)
  replace sa1 := (sa1.below hkw3).more hkw3.size
  replace sa2 := (sa2.below hkw3).more hkw3.size
  clear hkw3 hbw2
  clear sa1
  clear sa2
  obtain ⟨F, hF, hF66, hFh, hFn, hFc⟩ := first_facts (x := x) (y := n) (b := b3) hb30 hb32 (show a = _ by rw [Ea.out, Ea1.out, Ea2.out])
  have HF := Lib.hid (And.intro hFh (And.intro hFn hFc))
  clear hFh hFn hFc
  go_wp2_with fail
  have hq := RFirst_any w3 Aa ma ca a sa Ha.out.1 (by have := Ha.out; omega)
  rw [show firstS a = (F : Int) from hF] at hq
  refine Calls.mono hq ?_
  clear hq
  rintro e w4 ⟨rfl, hkw4⟩
  have hbw4 := hbw3.trans (hkw4.mono hbw3.size)
  replace sa := (sa.below hkw4).more hkw4.size
  clear hkw4 hbw3
  go_wp2_with fail
  have Hsa := Lib.hid sa
  clear sa
  go_loopw [7] (fun x7 wr => ∃ k : Nat, x7 = .int .i64 (k : Int) ∧ 1 ≤ k ∧ k ≤ F + 1 ∧ Below w4.heap.size w4 wr) (fun x7 _ => F + 1 - (intOf x7).toNat)
  case atStart => exact ⟨1, rfl, by omega, by omega, Below.refl _ _⟩
  case round =>
    obtain ⟨k, rfl, hk1, hk2, hbel⟩ := hrel
    have sa := (Hsa.out.below hbel).more hbel.size
    by_cases hlt : k ≤ F
    · have d1 : decide ((k : Int) ≤ (F : Int)) = true := by rw [decide_eq_true_eq]; omega
      have d2 : decide ((k : Int) ≤ 70) = true := by rw [decide_eq_true_eq]; omega
      go_wp2_with fail
      have hq := RHas_any wr Aa ma ca a sa Ha.out.1 (by have := Ha.out; omega) (k : Int)
      rw [HF.out.1 k hk1 hlt] at hq
      refine Calls.mono hq ?_
      clear hq
      rintro e v1 ⟨rfl, hk3⟩
      have hbz := hbel.trans (hk3.mono hbel.size)
      clear sa hk3 hbel
      go_wp2_with fail
      go_roundw
      case rel => exact ⟨k + 1, by go_num, by omega, by omega, hbz⟩
      case measure => simp [intOf] <;> omega
    · obtain rfl : k = F + 1 := by omega
      have d1 : decide (((F + 1 : Nat) : Int) ≤ (F : Int)) = false := by rw [decide_eq_false_iff_not]; omega
      have d3 : decide ((0 : Int) ≤ (F : Int)) = true := by rw [decide_eq_true_eq]; omega
      have d4 : decide ((F : Int) ≤ 67) = true := by rw [decide_eq_true_eq]; omega
      go_wp2_with fail
      have hq := RHas_any wr Aa ma ca a sa Ha.out.1 (by have := Ha.out; omega) ((F : Int) + 1)
      rw [HF.out.2.1] at hq
      refine Calls.mono hq ?_
      clear hq
      rintro e v1 ⟨rfl, hk3⟩
      have hbz := hbel.trans (hk3.mono hbel.size)
      have sa2 := (sa.below hk3).more hk3.size
      clear sa hk3 hbel
      go_wp2_with fail
      have hq := RCount_any v1 Aa ma ca a sa2 Ha.out.1 (by have := Ha.out; omega)
      obtain ⟨C, hC⟩ : ∃ C, countS a = C := ⟨_, rfl⟩
      have d5 : decide ((F : Int) ≤ C) = true := by rw [decide_eq_true_eq, ← hC]; exact HF.out.2.2
      rw [hC] at hq
      refine Calls.mono hq ?_
      clear hq
      rintro e v2 ⟨rfl, hk4⟩
      have hby := hbw4.trans ((hbz.trans (hk4.mono hbz.size)).mono hbw4.size)
      clear hC hbz hk4 sa2
      go_wp2_with fail
      go_ret
      exact ⟨rfl, hby⟩
end Go.Proofs.Ytdpkmabojlihmaa

