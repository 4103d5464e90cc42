/- Ranges: span.Minus of any two lists. -/
import Derived.Test.YtdpkmabojlihmaaRgN
namespace Go.Proofs.Ytdpkmabojlihmaa
open Go.RowKit Go.Proofs.Ytdpkmabojlihmaa.Pl Go.Proofs.Ytdpkmabojlihmaa.Sp

set_option maxRecDepth 100000 in
theorem Minus_any (w : World) (A A' : Option Addr) (n n' c c' : Nat) (a b : List Rg) (ha : Sl w w.heap.size A (rv a)) (hb : Sl w w.heap.size A' (rv b)) (h0 : n = a.length) (h1 : n' = b.length) (hl : n ≤ 20000) (hl' : n' ≤ 20000) (hc' : n' ≤ c') (hcm' : c' ≤ maxLen) :
    Calls Try.prog 21 #[.slice A n c, .slice A' n' c'] w (RAns w (minusS a b)) := by
  obtain ⟨p, hp⟩ : ∃ p, right a = p := ⟨_, rfl⟩
  obtain ⟨q, hq⟩ : ∃ q, right b = q := ⟨_, rfl⟩
  have hra := RRight_any w A n c a ha h0 (by omega)
  have hrb := fun W (hW : Below w.heap.size w W) => RRight_any W A' n' c' b ((hb.below hW).more hW.size) h1 (by omega)
  cases p with
  | false =>
    have HJ := Lib.hid (show minusS a b = [] by rw [minusS, if_neg (by rw [hp]; simp)])
    rw [hp] at hra
    have HA := Lib.hid hra
    clear hra hrb hp hq ha hb h0 h1 hc' hcm'
    go_enter Try.func21, Try.ntmps21
    go_wp2_with fail
    refine HA.out.mono ?_
    rintro e w1 ⟨rfl, h1⟩
    go_wp2_with fail
    go_ret
    rw [HJ.out]
    exact RAns.nil h1
  | true =>
    cases q with
    | false =>
      have HJ := Lib.hid (show minusS a b = [] by rw [minusS, if_neg (by rw [hq]; simp)])
      rw [hp] at hra
      rw [hq] at hrb
      have HA := Lib.hid hra
      have HB := Lib.hid hrb
      clear hra hrb hp hq ha hb h0 h1 hc' hcm'
      go_enter Try.func21, Try.ntmps21
      go_wp2_with fail
      refine HA.out.mono ?_
      rintro e w1 ⟨rfl, h1⟩
      go_wp2_with fail
      refine (HB.out w1 h1).mono ?_
      rintro e w2 ⟨rfl, h2⟩
      have hbz := h1.trans (h2.mono h1.size)
      go_wp2_with fail
      go_ret
      rw [HJ.out]
      exact RAns.nil hbz
    | true => exact MinusOk_any w A A' n n' c c' a b ha hb h0 h1 hl hl' hc' hcm' hp hq
end Go.Proofs.Ytdpkmabojlihmaa

