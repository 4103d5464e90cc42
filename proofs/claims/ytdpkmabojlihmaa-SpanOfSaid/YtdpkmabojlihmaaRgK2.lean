/- Ranges: the run that every law begins with. -/
import Derived.Test.YtdpkmabojlihmaaRgO2
import Derived.Test.YtdpkmabojlihmaaRgJ
import Derived.Test.YtdpkmabojlihmaaRgF
import Derived.Test.YtdpkmabojlihmaaRgG
namespace Go.Proofs.Ytdpkmabojlihmaa
open Go.RowKit Go.Proofs.Ytdpkmabojlihmaa.Pl Go.Proofs.Ytdpkmabojlihmaa.Sp

theorem rk_of : ofS [5, 1, 2, 0] = [⟨1, 2⟩, ⟨5, 5⟩] := by decide
theorem rk_join : joinS [⟨1, 2⟩, ⟨5, 5⟩] [⟨3, 4⟩] = [⟨1, 5⟩] := by decide
theorem rk_minus : minusS [⟨1, 5⟩] [⟨2, 4⟩] = [⟨1, 1⟩, ⟨5, 5⟩] := by decide
theorem rk_count : countS [⟨1, 1⟩, ⟨5, 5⟩] = 2 := by decide
theorem rk_first : firstS [⟨1, 5⟩] = 5 := by decide
theorem rk_right : right [⟨1, 5⟩] = true := by decide
theorem rk_right0 : right [⟨0, 0⟩] = false := by decide
theorem rk_has : hasS [⟨1, 5⟩] 3 = true := by decide
theorem rk_add : joinS [⟨1, 1⟩, ⟨5, 5⟩] [⟨2, 9⟩] = [⟨1, 9⟩] := by decide
set_option maxRecDepth 100000 in
set_option maxHeartbeats 6400000 in
theorem rknown_any (w : World) : Calls Try.prog 9 #[] w fun e w' => e = .returned (.bool true) ∧ Below w.heap.size w w' := by
  have hb0 := balloc (Below.refl w.heap.size w) (.cells #[.int .i64 5, .int .i64 1, .int .i64 2, .int .i64 0] 2)
  have hs0 := (Sl.new w 2 #[.int .i64 5, .int .i64 1, .int .i64 2, .int .i64 0] (0, 0)).more (B' := (w.alloc (.cells #[.int .i64 5, .int .i64 1, .int .i64 2, .int .i64 0] 2)).heap.size) (by simp)
  have hO := Of_any _ (some ⟨w.heap.size, 0, none⟩) 4 4 [5, 1, 2, 0] hs0 rfl (by omega)
  rw [rk_of] at hO
  have HO := Lib.hid hO
  clear hO hs0
  go_enter Try.func9, Try.ntmps9
  go_wp2_with fail
  refine HO.out.mono ?_
  rintro e w1 ⟨A1, c1, rfl, hs1, hle1, hcm1, h1⟩
  have hb1 := hb0.trans (h1.mono hb0.size)
  clear h1 hb0 HO
  have hj := Join_any (w1.alloc (.cells #[.int .i64 3, .int .i64 4] 24)) A1 (some ⟨w1.heap.size, 0, none⟩) 2 1 c1 1 [⟨1, 2⟩, ⟨5, 5⟩] [⟨3, 4⟩] ((hs1.below (boxR w1 ⟨3, 4⟩)).more (boxR w1 ⟨3, 4⟩).size) (Sl.oneR w1 ⟨3, 4⟩) rfl rfl (by omega) (by omega) (by omega)
  rw [rk_join] at hj
  have HJ := Lib.hid hj
  clear hj
  go_wp2_with fail
  refine HJ.out.mono ?_
  rintro e w2 ⟨A2, c2, rfl, hs2, hle2, hcm2, h2⟩
  have hk2 := (boxR w1 ⟨3, 4⟩).trans (h2.mono (boxR w1 ⟨3, 4⟩).size)
  have hs1' := (hs1.below hk2).more hk2.size
  have hb2 := hb1.trans (hk2.mono hb1.size)
  clear h2 hk2 hs1 hb1 HJ
  have hm := Minus_any (w2.alloc (.cells #[.int .i64 2, .int .i64 4] 24)) A2 (some ⟨w2.heap.size, 0, none⟩) 1 1 c2 1 [⟨1, 5⟩] [⟨2, 4⟩] ((hs2.below (boxR w2 ⟨2, 4⟩)).more (boxR w2 ⟨2, 4⟩).size) (Sl.oneR w2 ⟨2, 4⟩) rfl rfl (by omega) (by omega) (by omega) (by simp [maxLen])
  rw [rk_minus] at hm
  have HM := Lib.hid hm
  clear hm
  go_wp2_with fail
  refine HM.out.mono ?_
  rintro e w3 ⟨A3, c3, rfl, hs3, hle3, hcm3, h3⟩
  have hk3 := (boxR w2 ⟨2, 4⟩).trans (h3.mono (boxR w2 ⟨2, 4⟩).size)
  have hl := (hs1'.below hk3).more hk3.size
  have hj := (hs2.below hk3).more hk3.size
  have hb3 := hb2.trans (hk3.mono hb2.size)
  clear h3 hk3 hs1' hs2 hb2 HM
  obtain ⟨b5, o5, rfl, _, _, a0, a1⟩ := rgAt hl (k := 0) (by simp)
  obtain ⟨b6, o6, e6, _, _, a2, a3⟩ := rgAt hl (k := 1) (by simp)
  cases e6
  obtain ⟨b7, o7, rfl, _, _, d0, d1⟩ := rgAt hj (k := 0) (by simp)
  simp only [Nat.zero_mul, Nat.add_zero, Nat.one_mul, List.getElem?_cons_zero, List.getElem?_cons_succ, Option.getD_some] at a0 a1 a2 a3 d0 d1
  have hc := RCount_any w3 A3 2 c3 [⟨1, 1⟩, ⟨5, 5⟩] hs3 rfl (by omega)
  have hf := fun W (hW : Below w3.heap.size w3 W) => RFirst_any W (some ⟨b7, o7, none⟩) 1 c2 [⟨1, 5⟩] ((hj.below hW).more hW.size) rfl (by omega)
  have hr := fun W (hW : Below w3.heap.size w3 W) => RRight_any W (some ⟨b7, o7, none⟩) 1 c2 [⟨1, 5⟩] ((hj.below hW).more hW.size) rfl (by omega)
  have hr0 := fun W => RRight_any (W.alloc (.cells #[.int .i64 0, .int .i64 0] 24)) (some ⟨W.heap.size, 0, none⟩) 1 1 [⟨0, 0⟩] (Sl.oneR W ⟨0, 0⟩) rfl (by omega)
  have hh := fun W (hW : Below w3.heap.size w3 W) => RHas_any W (some ⟨b7, o7, none⟩) 1 c2 [⟨1, 5⟩] ((hj.below hW).more hW.size) rfl (by omega) 3
  have ha := fun W (hW : Below w3.heap.size w3 W) => Add_any W A3 2 c3 [⟨1, 1⟩, ⟨5, 5⟩] ⟨2, 9⟩ ((hs3.below hW).more hW.size) rfl (by omega)
  rw [rk_count] at hc
  rw [rk_first] at hf
  rw [rk_right] at hr
  rw [rk_right0] at hr0
  rw [rk_has] at hh
  rw [rk_add] at ha
  unfold Rg.v at ha
  have q1 := eq2R
  unfold Rg.v at q1
  have HC := Lib.hid (And.intro hc (And.intro hf (And.intro hr (And.intro hr0 (And.intro hh ha)))))
  clear hc hf hr hr0 hh ha hl hj hs3
  go_wp2_with fail
  refine HC.out.1.mono ?_
  rintro e w4 ⟨rfl, h4⟩
  go_wp2_with fail
  refine (HC.out.2.1 w4 h4).mono ?_
  rintro e w5 ⟨rfl, h5⟩
  have k5 := h4.trans (h5.mono h4.size)
  clear h4 h5
  go_wp2_with fail
  refine (HC.out.2.2.1 w5 k5).mono ?_
  rintro e w6 ⟨rfl, h6⟩
  have k6 := k5.trans (h6.mono k5.size)
  clear k5 h6
  go_wp2_with fail
  refine (HC.out.2.2.2.1 w6).mono ?_
  rintro e w7 ⟨rfl, h7⟩
  have k7 := (k6.alloc k6.size (.cells #[.int .i64 0, .int .i64 0] 24)).trans (h7.mono (k6.alloc k6.size (.cells #[.int .i64 0, .int .i64 0] 24)).size)
  clear k6 h7
  go_wp2_with fail
  refine (HC.out.2.2.2.2.1 w7 k7).mono ?_
  rintro e w8 ⟨rfl, h8⟩
  have k8 := k7.trans (h8.mono k7.size)
  clear k7 h8
  go_wp2_with fail
  refine (HC.out.2.2.2.2.2 w8 k8).mono ?_
  rintro e w9 ⟨A9, c9, rfl, _, _, _, h9⟩
  have k9 := k8.trans (h9.mono k8.size)
  have hbz := hb3.trans (k9.mono hb3.size)
  clear k8 h9 k9 hb3
  go_wp2_with fail
  go_ret
  exact ⟨rfl, hbz⟩
end Go.Proofs.Ytdpkmabojlihmaa

