/- 'LogScans': the walk of the law. -/
import Derived.Test.YtkgmbpbbgkjidaaLpo
import Derived.Test.YtkgmbpbbgkjidaaCrcC
import Derived.Test.YtkgmbpbbgkjidaaFrP
import Derived.Test.YtkgmbpbbgkjidaaAppC
import Derived.Test.YtkgmbpbbgkjidaaAppK
namespace Go.Proofs.Ytkgmbpbbgkjidaa
open Go.RowKit Go.Proofs.Ytkgmbpbbgkjidaa.Pl Go.Proofs.Ytkgmbpbbgkjidaa.Pc Go.Proofs.Ytkgmbpbbgkjidaa.Lg

set_option maxRecDepth 100000 in
set_option maxHeartbeats 6400000 in
theorem LogScans_walk (w : World) (A : Option Addr) (c : Nat) (b : List UInt8) (hb : Sl w w.heap.size A (bv b)) (hc : b.length ≤ c) (hm : c ≤ 140737488351232)
    (Al : Option Addr) (cl : Nat) (ls : List (List UInt8)) (hM : Mat w Al ls) (hcl : ls.length ≤ cl) (hml : cl ≤ maxLen) (x : Int) (hx : -9223372036854775808 ≤ x ∧ x ≤ 9223372036854775807) (by' : Nat) (hby : by' < 256) (how : Nat) (hhow : how < 256) (v : Nat) (hv : U64 v) :
    Calls Try.prog 4 #[.slice A b.length c, .slice Al ls.length cl, .int .i64 x, .int .u8 (by' : Int), .int .u8 (how : Int), .int .u64 (v : Int)] w fun e w' => e = .returned (.bool true) ∧ Below w.heap.size w w' := by
  have hcm : c ≤ maxLen := by simp only [maxLen]; omega
  have hm63 : ls.length ≤ 9223372036854775807 := by simp only [maxLen] at hml; omega
  go_enter Try.func4, Try.ntmps4
  go_wp2_with fail
  refine (lgKnown_any w).mono ?_
  rintro e w1 ⟨rfl, b1⟩
  have sb := (hb.below b1).more b1.size
  have hM1 := hM.below b1
  clear hb hM
  by_cases h1 : 1000 < b.length
  · have hd : decide (1000 < (b.length : Int)) = true := by simp; omega
    go_wp2_with fail
    go_ret
    exact ⟨rfl, b1⟩
  have hd1 : decide (1000 < (b.length : Int)) = false := by simp; omega
  go_wp2_with fail
  refine (few_any w1 Al ls.length cl ls hM1 rfl hm63).mono ?_
  rintro e w' ⟨t, rfl, rfl, ht⟩
  cases t with
  | false =>
    go_wp2_with fail
    go_ret
    exact ⟨rfl, b1⟩
  | true =>
    have hF := ht rfl
    obtain ⟨hP, hPl⟩ := hF.put
    have h20 := hF.1
    have HPut := Lib.hid (RPutL_own w1 Al ls.length cl ls hM1 rfl (by simp only [maxLen]; omega) (by omega) hF.mem)
    generalize recs ls = R at *
    clear ht hF hP hd1 hM1
    go_wp2_with fail
    refine HPut.out.mono ?_
    rintro e w3 ⟨v3, rfl, hown3, hb3⟩
    have b3 := hb3
    have sb3 := (sb.below hb3).more hb3.size
    obtain ⟨A3, c3, rfl, hc3, hm3, s3, hn3, _⟩ := hown3.form
    clear HPut
    have sU : Sl (w3.alloc (.cells #[.int .u64 (v : Int)] 33)) (w3.alloc (.cells #[.int .u64 (v : Int)] 33)).heap.size (some ⟨w3.heap.size, 0, none⟩) (uv [v]) := (Sl.lit64 w3 [v]).more (by simp)
    have bU := balloc (Below.refl w3.heap.size w3) (.cells #[.int .u64 (v : Int)] 33)
    have HR := Lib.hid (RefPut_one _ none (some ⟨w3.heap.size, 0, none⟩) 0 0 1 [] v rfl Sl.nil sU hv (by simp))
    go_wp2_with fail
    refine HR.out.mono ?_
    rintro e w5 ⟨A5, c5, rfl, hown5, hb5⟩
    rw [List.nil_append] at hown5 ⊢
    have hE := enc_len v
    generalize enc v = E at *
    have d5 := bU.trans (hb5.mono bU.size)
    have hz5 : w3.heap.size ≤ w5.heap.size := d5.size
    replace hown5 := hown5.base_le (base' := w3.heap.size) (by simp)
    have sb5 := (sb3.below d5).more d5.size
    clear HR sU bU hb5
    go_wp2_with (at_builtin; go_loud (refine appG (by rfl) rfl hown5 sb5 rfl rfl rfl (by omega) hz5 ?_); intro s6 w6 hown6 hg6 hat6)
    have d6 := own_below d5 hz5 hown5 hg6
    obtain ⟨A6, c6, rfl, hc6, hm6, s6, _, _⟩ := hown6.form
    obtain ⟨H, hH⟩ : ∃ H, E ++ b = H := ⟨_, rfl⟩
    have hHl : H.length ≤ 1010 := by rw [← hH, List.length_append]; omega
    rw [hH] at hown6 hc6 s6 ⊢
    have sb6 := (sb3.below d6).more d6.size
    have hown3' := hown3.below d6
    have b6 := b3.trans (d6.mono b3.size)
    have hlt3 : ∀ g, (Value.slice A3 R.length c3).ownBlock = some g → g < w3.heap.size := fun g h => (hown3.row g h).2
    clear hown5 sb5 d5 hg6 hat6 hH hown3 s3 sb3 hz5
    go_wp2_with fail
    refine (scans_any w6 A b.length c b sb6 rfl hc hcm (by omega)).mono ?_
    rintro e w7 ⟨rfl, hb7⟩
    have hown3 := hown3'.below hb7
    have hown6' := hown6.below hb7
    have b7 := b6.trans (hb7.mono b6.size)
    have s3 := (OwnB.sl hown3).1
    clear sb6 hown3' s6 hown6
    go_wp2_with fail
    refine (Changed_any w7 A3 R.length c3 R s3 rfl (by omega) x hx.1 hx.2 by' hby how hhow).mono ?_
    rintro e w8 ⟨A8, c8, X, rfl, s8, hc8, hm8, hl8, hb8⟩
    have hown3a := hown3.below hb8
    have hown6a := hown6'.below hb8
    have b8 := b7.trans (hb8.mono b7.size)
    clear s3 hown3 hown6'
    go_wp2_with fail
    refine (scans_any w8 A8 X.length c8 X s8 rfl hc8 hm8 (by omega)).mono ?_
    rintro e w9 ⟨rfl, hb9⟩
    have hown3 := hown3a.below hb9
    have hown6 := hown6a.below hb9
    have b9 := b8.trans (hb9.mono b8.size)
    have sb9 := (sb.below b9).more b9.size
    go_wp2_with (at_builtin; go_loud (refine appK (by rfl) rfl hown3 sb9 rfl rfl rfl (by omega) b9.size ?_); intro s10 w10 hown10 hg10 s3)
    have d10 := own_below b9 b9.size hown3 hg10
    have q6 := hown6.keep hg10 (by
      rcases hA : (Value.slice A6 H.length c6).ownBlock with _ | k6
      · exact .inl rfl
      · refine .inr fun hq => ?_
        have h1 := (hown6.row _ hA).1
        have h2 := hlt3 _ hq.symm
        omega)
    obtain ⟨A10, c10, rfl, hc10, hm10, s10, _, _⟩ := hown10.form
    obtain ⟨F, hFq⟩ : ∃ F, R ++ b = F := ⟨_, rfl⟩
    have hFl : F.length = R.length + b.length := by rw [← hFq, List.length_append]
    rw [hFq] at s10 hc10 ⊢
    clear hFq
    clear hown3 hown6 hg10 hown10 sb9
    go_wp2_with fail
    refine (scans_any w10 A10 F.length c10 F s10 rfl hc10 hm10 (by omega)).mono ?_
    rintro e w11 ⟨rfl, hb11⟩
    have s6 := (OwnB.sl q6).1.below hb11
    replace s3 := (s3.below hb11).more hb11.size
    have b11 := d10.trans (hb11.mono d10.size)
    clear s10 q6
    replace s6 := s6.more hb11.size
    go_wp2_with fail
    refine (scans_any w11 A6 H.length c6 H s6 rfl hc6 hm6 (by omega)).mono ?_
    rintro e w12 ⟨rfl, hb12⟩
    replace s3 := (s3.below hb12).more hb12.size
    replace s6 := (s6.below hb12).more hb12.size
    have b12 := b11.trans (hb12.mono b11.size)
    obtain ⟨G, hG⟩ : ∃ G, R ++ H = G := ⟨_, rfl⟩
    have hGl : G.length = R.length + H.length := by rw [← hG, List.length_append]
    have HG := Lib.hid hG
    clear hG
    go_wp2_with (at_builtin; go_loud (refine appC (by rfl) rfl s3 rfl s6 rfl rfl rfl (fun h => by rw [hn3 h]; rfl) (by simp only [maxLen]; omega) (Nat.le_refl _) (by omega) ?_); intro A13 c13 w13 s13 hc13 hm13 hb13; rw [HG.out] at s13 hc13; simp only [HG.out])
    rw [← hGl]
    have b13 := b12.trans (hb13.mono b12.size)
    refine (scans_any w13 A13 G.length c13 G s13 rfl hc13 hm13 (by omega)).mono ?_
    rintro e w14 ⟨rfl, hb14⟩
    have b14 := b13.trans (hb14.mono b13.size)
    go_wp2_with fail
    go_ret
    exact ⟨rfl, b1.trans (b14.mono b1.size)⟩
end Go.Proofs.Ytkgmbpbbgkjidaa

