/- 'FrameReads': the walk of the law. -/
import Derived.Test.YtkgmbpbbgkjidaaFrU
import Derived.Test.YtkgmbpbbgkjidaaAppC
namespace Go.Proofs.Ytkgmbpbbgkjidaa
open Go.RowKit Go.Proofs.Ytkgmbpbbgkjidaa.Pl Go.Proofs.Ytkgmbpbbgkjidaa.Pc

theorem u8_63 (k : Nat) (hk : k < 256) : bits .and .u8 (k : Int) 63 = ((k % 64 : Nat) : Int) := by
  rw [show (63 : Int) = ((63 : Nat) : Int) from rfl, u8_and_nat _ _ hk (by omega), show (63 : Nat) = 2 ^ 6 - 1 from rfl, Nat.and_two_pow_sub_one_eq_mod]
def hd9 (a b c : Nat) : List UInt8 := [78, 82, UInt8.ofNat a, 1, 2, 3, 4, UInt8.ofNat b, UInt8.ofNat c]
theorem hd9_cells (a b c : Nat) (ha : a < 256) (hb : b < 256) (hc : c < 256) : bv (hd9 a b c) = [.int .u8 78, .int .u8 82, .int .u8 (a : Int), .int .u8 1, .int .u8 2, .int .u8 3, .int .u8 4, .int .u8 (b : Int), .int .u8 (c : Int)] := by
  simp [hd9, bv, u8v, Nat.mod_eq_of_lt ha, Nat.mod_eq_of_lt hb, Nat.mod_eq_of_lt hc]
theorem hd9_sl (w : World) (a b c : Nat) (ha : a < 256) (hb : b < 256) (hc : c < 256) : Sl (w.alloc (.cells #[.int .u8 78, .int .u8 82, .int .u8 (a : Int), .int .u8 1, .int .u8 2, .int .u8 3, .int .u8 4, .int .u8 (b : Int), .int .u8 (c : Int)] 5)) (w.heap.size + 1) (some ⟨w.heap.size, 0, none⟩) (bv (hd9 a b c)) := by
  rw [hd9_cells a b c ha hb hc]
  exact Sl.new w 5 #[.int .u8 78, .int .u8 82, .int .u8 (a : Int), .int .u8 1, .int .u8 2, .int .u8 3, .int .u8 4, .int .u8 (b : Int), .int .u8 (c : Int)] (0, 0)
theorem three_cells {w6 : World} {B gL : Nat} {a b c : Int} (h : Sl w6 B (some ⟨gL, 0, none⟩) [.int .i64 a, .int .i64 b, .int .i64 c]) :
    ∃ L : Nat → Int, ∀ j, j < 3 → ∀ W, Below w6.heap.size w6 W → W.cell? ⟨gL, j, none⟩ = some (.int .i64 (L j)) := by
  obtain ⟨bk, o, e, _, hbW, hc⟩ := h.at_ (k := 0) (by simp)
  cases e
  refine ⟨fun k => match k with | 0 => a | 1 => b | _ => c, fun k hk W hW => ?_⟩
  have g := fun j u hu => (hW.cell (p := ⟨gL, 0 + j, none⟩) hbW).trans (hc j u hu)
  simp only [Nat.zero_add] at g
  match k, hk with
  | 0, _ => exact g 0 _ rfl
  | 1, _ => exact g 1 _ rfl
  | 2, _ => exact g 2 _ rfl
set_option maxRecDepth 100000 in
set_option maxHeartbeats 12800000 in
theorem FrameReads_walk (w : World) (A : Option Addr) (c : Nat) (b : List UInt8) (hb : Sl w w.heap.size A (bv b)) (hc : b.length ≤ c) (hm : c ≤ 140737488351232) (limit : Int) (_ : -9223372036854775808 ≤ limit ∧ limit ≤ 9223372036854775807) (kd : Nat) (hkd : kd < 256) (fr : Nat) (hfr : fr < 256) (to : Nat) (hto : to < 256) (nn : Nat) (hnn : nn < 18446744073709551616)
    (Ar : Option Addr) (cr : Nat) (rest : List UInt8) (hr : Sl w w.heap.size Ar (bv rest)) (hcr : rest.length ≤ cr) (hmr : cr ≤ 140737488351232) :
    Calls Try.prog 11 #[.slice A b.length c, .int .i64 limit, .int .u8 (kd : Int), .int .u8 (fr : Int), .int .u8 (to : Int), .int .u64 (nn : Int), .slice Ar rest.length cr] w fun e w' => e = .returned (.bool true) ∧ Below w.heap.size w w' := by
  have hcm : c ≤ maxLen := by simp [maxLen]; omega
  have hcrm : cr ≤ maxLen := by simp [maxLen]; omega
  have p1 : (kd : Int) % 4 = ((kd % 4 : Nat) : Int) := by omega
  have p2 : (fr : Int) % 70 = ((fr % 70 : Nat) : Int) := by omega
  have p3 : (to : Int) % 70 = ((to % 70 : Nat) : Int) := by omega
  have p4 : (kd : Int) % 2 = ((kd % 2 : Nat) : Int) := by omega
  have p5 := u8_63 fr hfr
  have p6 := u8_63 to hto
  have p7 : IntKind.u8.wrap (((kd % 2 : Nat) : Int) + 1) = ((kd % 2 + 1 : Nat) : Int) := by rw [IntKind.wrap_u8]; omega
  have r1 : kd % 4 < 256 := by omega
  have r2 : fr % 70 < 256 := by omega
  have r3 : to % 70 < 256 := by omega
  have r4 : kd % 2 + 1 < 256 := by omega
  have r4' : kd % 2 < 2 := by omega
  have r5 : fr % 64 < 256 := by omega
  have r6 : to % 64 < 256 := by omega
  generalize kd % 4 = K4 at *
  generalize fr % 70 = F70 at *
  generalize to % 70 = T70 at *
  generalize kd % 2 = K2 at *
  generalize fr % 64 = F64 at *
  generalize to % 64 = T64 at *
  go_enter Try.func11, Try.ntmps11
  go_wp2_with fail
  refine (frKnown_any w).mono ?_
  rintro e w1 ⟨rfl, b1⟩
  have sb := (hb.below b1).more b1.size
  have sr := (hr.below b1).more b1.size
  clear hb hr
  by_cases h1 : 2000 < b.length
  · have hd : decide (2000 < (b.length : Int)) = true := by simp; omega
    go_wp2_with fail
    go_ret
    exact ⟨rfl, b1⟩
  have hd1 : decide (2000 < (b.length : Int)) = false := by simp; omega
  by_cases h2 : 2000 < rest.length
  · have hd : decide (2000 < (rest.length : Int)) = true := by simp; omega
    go_wp2_with fail
    go_ret
    exact ⟨rfl, b1⟩
  have hd2 : decide (2000 < (rest.length : Int)) = false := by simp; omega
  go_wp2_with fail
  clear hd1 hd2
  have sH1 := hd9_sl w1 K4 F70 T70 r1 r2 r3
  have bH1 := balloc (Below.refl w1.heap.size w1) (.cells #[.int .u8 78, .int .u8 82, .int .u8 (K4 : Int), .int .u8 1, .int .u8 2, .int .u8 3, .int .u8 4, .int .u8 (F70 : Int), .int .u8 (T70 : Int)] 5)
  have bU1 := balloc (Below.refl _ (w1.alloc (.cells #[.int .u8 78, .int .u8 82, .int .u8 (K4 : Int), .int .u8 1, .int .u8 2, .int .u8 3, .int .u8 4, .int .u8 (F70 : Int), .int .u8 (T70 : Int)] 5))) (.cells #[.int .u64 (nn : Int)] 33)
  have bb1 := bH1.trans (bU1.mono bH1.size)
  have sU1 : Sl ((w1.alloc (.cells #[.int .u8 78, .int .u8 82, .int .u8 (K4 : Int), .int .u8 1, .int .u8 2, .int .u8 3, .int .u8 4, .int .u8 (F70 : Int), .int .u8 (T70 : Int)] 5)).alloc (.cells #[.int .u64 (nn : Int)] 33)) ((w1.alloc (.cells #[.int .u8 78, .int .u8 82, .int .u8 (K4 : Int), .int .u8 1, .int .u8 2, .int .u8 3, .int .u8 4, .int .u8 (F70 : Int), .int .u8 (T70 : Int)] 5)).alloc (.cells #[.int .u64 (nn : Int)] 33)).heap.size (some ⟨w1.heap.size + 1, 0, none⟩) (uv [nn]) := by
    have := (Sl.new (w1.alloc (.cells #[.int .u8 78, .int .u8 82, .int .u8 (K4 : Int), .int .u8 1, .int .u8 2, .int .u8 3, .int .u8 4, .int .u8 (F70 : Int), .int .u8 (T70 : Int)] 5)) 33 #[.int .u64 (nn : Int)] (0, 0)).more (show _ ≤ ((w1.alloc (.cells #[.int .u8 78, .int .u8 82, .int .u8 (K4 : Int), .int .u8 1, .int .u8 2, .int .u8 3, .int .u8 4, .int .u8 (F70 : Int), .int .u8 (T70 : Int)] 5)).alloc (.cells #[.int .u64 (nn : Int)] 33)).heap.size from Nat.le_of_eq (World.size_alloc _ _).symm)
    rw [show (w1.alloc (.cells #[.int .u8 78, .int .u8 82, .int .u8 (K4 : Int), .int .u8 1, .int .u8 2, .int .u8 3, .int .u8 4, .int .u8 (F70 : Int), .int .u8 (T70 : Int)] 5)).heap.size = w1.heap.size + 1 from World.size_alloc _ _] at this
    exact this
  replace sH1 := (sH1.alloc (.cells #[.int .u64 (nn : Int)] 33)).more (show w1.heap.size + 1 ≤ ((w1.alloc (.cells #[.int .u8 78, .int .u8 82, .int .u8 (K4 : Int), .int .u8 1, .int .u8 2, .int .u8 3, .int .u8 4, .int .u8 (F70 : Int), .int .u8 (T70 : Int)] 5)).alloc (.cells #[.int .u64 (nn : Int)] 33)).heap.size by simp)
  replace sb := (sb.below bb1).more bb1.size
  replace sr := (sr.below bb1).more bb1.size
  have b2 := b1.trans (bb1.mono b1.size)
  have HR := Lib.hid (RefPut_one _ (some ⟨w1.heap.size, 0, none⟩) (some ⟨w1.heap.size + 1, 0, none⟩) 9 9 1 (hd9 K4 F70 T70) nn rfl sH1 sU1 hnn (by simp [hd9]))
  clear sH1 sU1 bH1 bU1 bb1
  refine HR.out.mono ?_
  rintro e w3 ⟨A3, c3, rfl, hown3, hb3⟩
  obtain ⟨sh, hc3, hm3⟩ := Fresh.sl hown3
  have hn3 : A3 = none → (hd9 K4 F70 T70 ++ enc nn).length = 0 := by
    obtain ⟨A', c', e, _, _, _, hnone, _⟩ := hown3.form
    injection e with e1 _ _
    intro h
    rw [hnone (by rw [← e1]; exact h)]; rfl
  have hl3 : (hd9 K4 F70 T70 ++ enc nn).length ≤ 19 := by have := enc_len nn; simp [hd9]; omega
  generalize hd9 K4 F70 T70 ++ enc nn = h at *
  replace sb := (sb.below hb3).more hb3.size
  replace sr := (sr.below hb3).more hb3.size
  have b3 := b2.trans (hb3.mono b2.size)
  have HN3 := Lib.hid hn3
  have hci : (h.length : Int) ≤ (c3 : Int) := by omega
  clear HR hown3 hb3 b1 b2 hn3
  have kw : IntKind.u64.wrap (rest.length : Int) = (rest.length : Int) := by rw [IntKind.wrap_u64]; omega
  go_wp2_with fail
  have sH2 := hd9_sl w3 (K2 + 1) F64 T64 r4 r5 r6
  rw [show ((K2 + 1 : Nat) : Int) = (K2 : Int) + 1 by omega] at sH2
  have bH2 := balloc (Below.refl w3.heap.size w3) (.cells #[.int .u8 78, .int .u8 82, .int .u8 ((K2 : Int) + 1), .int .u8 1, .int .u8 2, .int .u8 3, .int .u8 4, .int .u8 (F64 : Int), .int .u8 (T64 : Int)] 5)
  have bU2 := balloc (Below.refl _ (w3.alloc (.cells #[.int .u8 78, .int .u8 82, .int .u8 ((K2 : Int) + 1), .int .u8 1, .int .u8 2, .int .u8 3, .int .u8 4, .int .u8 (F64 : Int), .int .u8 (T64 : Int)] 5))) (.cells #[.int .u64 (rest.length : Int)] 33)
  have bb2 := bH2.trans (bU2.mono bH2.size)
  have sU2 : Sl ((w3.alloc (.cells #[.int .u8 78, .int .u8 82, .int .u8 ((K2 : Int) + 1), .int .u8 1, .int .u8 2, .int .u8 3, .int .u8 4, .int .u8 (F64 : Int), .int .u8 (T64 : Int)] 5)).alloc (.cells #[.int .u64 (rest.length : Int)] 33)) ((w3.alloc (.cells #[.int .u8 78, .int .u8 82, .int .u8 ((K2 : Int) + 1), .int .u8 1, .int .u8 2, .int .u8 3, .int .u8 4, .int .u8 (F64 : Int), .int .u8 (T64 : Int)] 5)).alloc (.cells #[.int .u64 (rest.length : Int)] 33)).heap.size (some ⟨w3.heap.size + 1, 0, none⟩) (uv [rest.length]) := by
    have := (Sl.new (w3.alloc (.cells #[.int .u8 78, .int .u8 82, .int .u8 ((K2 : Int) + 1), .int .u8 1, .int .u8 2, .int .u8 3, .int .u8 4, .int .u8 (F64 : Int), .int .u8 (T64 : Int)] 5)) 33 #[.int .u64 (rest.length : Int)] (0, 0)).more (show _ ≤ ((w3.alloc (.cells #[.int .u8 78, .int .u8 82, .int .u8 ((K2 : Int) + 1), .int .u8 1, .int .u8 2, .int .u8 3, .int .u8 4, .int .u8 (F64 : Int), .int .u8 (T64 : Int)] 5)).alloc (.cells #[.int .u64 (rest.length : Int)] 33)).heap.size from Nat.le_of_eq (World.size_alloc _ _).symm)
    rw [show (w3.alloc (.cells #[.int .u8 78, .int .u8 82, .int .u8 ((K2 : Int) + 1), .int .u8 1, .int .u8 2, .int .u8 3, .int .u8 4, .int .u8 (F64 : Int), .int .u8 (T64 : Int)] 5)).heap.size = w3.heap.size + 1 from World.size_alloc _ _] at this
    exact this
  replace sH2 := (sH2.alloc (.cells #[.int .u64 (rest.length : Int)] 33)).more (show w3.heap.size + 1 ≤ ((w3.alloc (.cells #[.int .u8 78, .int .u8 82, .int .u8 ((K2 : Int) + 1), .int .u8 1, .int .u8 2, .int .u8 3, .int .u8 4, .int .u8 (F64 : Int), .int .u8 (T64 : Int)] 5)).alloc (.cells #[.int .u64 (rest.length : Int)] 33)).heap.size by simp)
  replace sb := (sb.below bb2).more bb2.size
  replace sh := (sh.below bb2).more bb2.size
  replace sr := (sr.below bb2).more bb2.size
  have b4 := b3.trans (bb2.mono b3.size)
  have HR := Lib.hid (RefPut_one _ (some ⟨w3.heap.size, 0, none⟩) (some ⟨w3.heap.size + 1, 0, none⟩) 9 9 1 (hd9 (K2 + 1) F64 T64) rest.length rfl sH2 sU2 (by unfold U64; omega) (by simp [hd9]))
  clear sH2 sU2 bH2 bU2 bb2
  refine HR.out.mono ?_
  rintro e w5 ⟨A5, c5, rfl, hown5, hb5⟩
  have hl5 : (hd9 (K2 + 1) F64 T64 ++ enc rest.length).length ≤ 19 := by have := enc_len rest.length; simp [hd9]; omega
  obtain ⟨g, hg5⟩ : ∃ g, hd9 (K2 + 1) F64 T64 ++ enc rest.length = g := ⟨_, rfl⟩
  rw [hg5] at hown5 hl5 ⊢
  have HG5 := Lib.hid hg5
  clear hg5
  obtain ⟨q5, cap5, e5, hq5, hq5w, hcap5, hcapm5⟩ := hown5.head (by rw [← HG5.out]; simp [hd9])
  injection e5 with e5a _ e5c
  subst e5a e5c
  have hs4 := b4.size
  have hs5 := hb5.size
  replace sb := sb.below hb5
  replace sh := sh.below hb5
  replace sr := sr.below hb5
  have b5 := b4.trans (hb5.mono b4.size)
  clear HR b3 b4
  go_wp2_with (at_builtin; go_loud (refine appG (by rfl) rfl hown5 sr rfl rfl rfl (by omega) hs5 ?_); intro s6 w6 hown6 hg6 hat6; obtain ⟨A6, c6, rfl, hc6, hm6, sg, _, _⟩ := hown6.form; obtain ⟨G, hG⟩ : ∃ G, g ++ rest = G := ⟨_, rfl⟩; rw [hG] at sg hc6 ⊢; have hGl : G.length ≤ 2100 := (by rw [← hG, List.length_append]; omega); clear hown6 hG)
  have hb6 := below_of_grown hg6 (fun k e => by simp [Value.ownBlock] at e; rw [← e]; exact hq5) hs5
  have b6 := b5.trans (hb6.mono hs4)
  replace sb := (sb.below hb6).more (Nat.le_trans hs5 hb6.size)
  replace sh := (sh.below hb6).more (Nat.le_trans hs5 hb6.size)
  replace sr := (sr.below hb6).more (Nat.le_trans hs5 hb6.size)
  obtain ⟨R, hR⟩ : ∃ R, h ++ rest = R := ⟨_, rfl⟩
  have hRl : R.length ≤ 2100 := by rw [← hR, List.length_append]; omega
  have HRR := Lib.hid hR
  obtain ⟨N, hN⟩ : ∃ N, [78, 82] ++ b = N := ⟨_, rfl⟩
  have HNN := Lib.hid hN
  clear hR hN hown5 hg6 hat6 hb6 hb5 hs4 hs5 b5 HG5 hq5 hq5w hcap5 hcapm5 kw p1 p2 p3 p4 p5 p6 p7
  have sM := Sl.new w6 3 #[.int .i64 limit, .int .i64 65536, .int .i64 100] (0, 0)
  have bM := balloc (Below.refl w6.heap.size w6) (.cells #[.int .i64 limit, .int .i64 65536, .int .i64 100] 3)
  obtain ⟨L, hL⟩ := three_cells sM
  have HL := Lib.hid hL
  replace sb := (sb.below bM).more bM.size
  replace sh := (sh.below bM).more bM.size
  replace sr := (sr.below bM).more bM.size
  replace sg := (sg.below bM).more bM.size
  have b7 := b6.trans (bM.mono b6.size)
  clear sM hL bM b6
  go_wp2_with fail
  generalize w6.alloc (.cells #[.int .i64 limit, .int .i64 65536, .int .i64 100] 3) = w7 at *
  generalize w6.heap.size = gM at *
  go_loopw [57] (fun x57 wr => ∃ i : Nat, i ≤ 3 ∧ x57 = .int .i64 (i : Int) ∧ Below w7.heap.size w7 wr) (fun x57 _ => 3 - (intOf x57).toNat)
  case atStart => exact ⟨0, by omega, rfl, Below.refl _ _⟩
  case round =>
    obtain ⟨i, hi, rfl, hbel⟩ := hrel
    by_cases hi3 : i < 3
    · have hdi : decide ((i : Int) < 3) = true := by rw [decide_eq_true_eq]; omega
      have l0 := HL.out i hi3 wr hbel
      generalize L i = lim at *
      replace sb := (sb.below hbel).more hbel.size
      replace sh := (sh.below hbel).more hbel.size
      replace sr := (sr.below hbel).more hbel.size
      replace sg := (sg.below hbel).more hbel.size
      have y0 := hbel
      clear hbel
      go_wp2_with fail
      refine (reads_any wr A b.length c b lim sb rfl hc hcm).mono ?_
      rintro e v1 ⟨rfl, d1⟩
      replace sb := (sb.below d1).more d1.size
      replace sh := (sh.below d1).more d1.size
      replace sg := (sg.below d1).more d1.size
      replace sr := (sr.below d1).more d1.size
      have y1 := y0.trans (d1.mono y0.size)
      clear d1 y0
      have bN := balloc (Below.refl v1.heap.size v1) (.cells #[.int .u8 78, .int .u8 82] 5)
      have hownN : OwnB (v1.alloc (.cells #[.int .u8 78, .int .u8 82] 5)) v1.heap.size (.slice (some ⟨v1.heap.size, 0, none⟩) 2 2) [78, 82] := OwnB.lit v1 v1.heap.size [78, 82] (Nat.le_refl _) (by simp [maxLen])
      have sbN := sb.below bN
      go_wp2_with (at_builtin; go_loud (refine appG (by rfl) rfl hownN sbN rfl rfl rfl (by simp; omega) bN.size ?_); intro s2 v2 hown2 hg2 hat2; rw [HNN.out] at hown2; obtain ⟨E2, k2, rfl, hk2, hkm2, s2, _, _⟩ := hown2.form)
      have d2 : Below v1.heap.size v1 v2 := bN.trans (below_of_grown hg2 (fun k e => by simp [Value.ownBlock] at e; omega) bN.size)
      clear hown2 hg2 hat2 hownN bN sbN
      replace sb := (sb.below d2).more d2.size
      replace sh := (sh.below d2).more d2.size
      replace sg := (sg.below d2).more d2.size
      replace sr := (sr.below d2).more d2.size
      have y2 := y1.trans (d2.mono y1.size)
      clear d2 y1
      refine (reads_any v2 E2 N.length k2 N lim s2 rfl hk2 hkm2).mono ?_
      rintro e v3 ⟨rfl, d3⟩
      clear s2
      replace sb := (sb.below d3).more d3.size
      replace sh := (sh.below d3).more d3.size
      replace sg := (sg.below d3).more d3.size
      replace sr := (sr.below d3).more d3.size
      have y3 := y2.trans (d3.mono y2.size)
      clear d3 y2
      go_wp2_with fail
      refine (reads_any v3 A3 h.length c3 h lim sh rfl hc3 hm3).mono ?_
      rintro e v4 ⟨rfl, d4⟩
      replace sb := (sb.below d4).more d4.size
      replace sh := (sh.below d4).more d4.size
      replace sg := (sg.below d4).more d4.size
      replace sr := (sr.below d4).more d4.size
      have y4 := y3.trans (d4.mono y3.size)
      clear d4 y3
      go_wp2_with (at_builtin; go_loud (refine appC (by rfl) rfl sh rfl sr rfl rfl rfl HN3.out (by simp only [maxLen]; omega) (Nat.le_refl _) (by omega) ?_); intro E5 k5 v5 s5 hkk5 hmk5 d5; rw [HRR.out] at s5 hkk5 ⊢)
      replace sb := (sb.below d5).more d5.size
      replace sh := (sh.below d5).more d5.size
      replace sg := (sg.below d5).more d5.size
      replace sr := (sr.below d5).more d5.size
      have y5 := y4.trans (d5.mono y4.size)
      clear d5 y4
      refine (reads_any v5 E5 R.length k5 R lim s5 rfl hkk5 hmk5).mono ?_
      rintro e v6 ⟨rfl, d6⟩
      clear s5
      replace sb := (sb.below d6).more d6.size
      replace sh := (sh.below d6).more d6.size
      replace sg := (sg.below d6).more d6.size
      replace sr := (sr.below d6).more d6.size
      have y6 := y5.trans (d6.mono y5.size)
      clear d6 y5
      go_wp2_with (at_builtin; go_loud (refine appC (by rfl) rfl sh rfl sr rfl rfl rfl HN3.out (by simp only [maxLen]; omega) (Nat.le_refl _) (by omega) ?_); intro E7 k7 v7 s7 hkk7 hmk7 d7; rw [HRR.out] at s7 hkk7 ⊢)
      replace sb := (sb.below d7).more d7.size
      replace sh := (sh.below d7).more d7.size
      replace sg := (sg.below d7).more d7.size
      replace sr := (sr.below d7).more d7.size
      have y7 := y6.trans (d7.mono y6.size)
      clear d7 y6
      refine (RefSeal_any v7 E7 R.length k7 R s7 rfl hkk7 hmk7 (by omega)).mono ?_
      rintro e v8 ⟨E8, k8, rfl, hown8, d8⟩
      obtain ⟨s8, hk8, hm8⟩ := Fresh.sl hown8
      clear s7 hown8
      replace sb := (sb.below d8).more d8.size
      replace sh := (sh.below d8).more d8.size
      replace sg := (sg.below d8).more d8.size
      replace sr := (sr.below d8).more d8.size
      have y8 := y7.trans (d8.mono y7.size)
      clear d8 y7
      go_wp2_with fail
      refine (reads_any v8 E8 _ k8 _ lim s8 rfl hk8 hm8).mono ?_
      rintro e v9 ⟨rfl, d9⟩
      clear s8
      replace sb := (sb.below d9).more d9.size
      replace sh := (sh.below d9).more d9.size
      replace sg := (sg.below d9).more d9.size
      replace sr := (sr.below d9).more d9.size
      have y9 := y8.trans (d9.mono y8.size)
      clear d9 y8
      go_wp2_with fail
      refine (RefSeal_any v9 A6 G.length c6 G sg rfl hc6 hm6 (by omega)).mono ?_
      rintro e v10 ⟨E10, k10, rfl, hown10, d10⟩
      obtain ⟨s10, hk10, hm10⟩ := Fresh.sl hown10
      clear hown10
      replace sb := (sb.below d10).more d10.size
      replace sh := (sh.below d10).more d10.size
      replace sg := (sg.below d10).more d10.size
      replace sr := (sr.below d10).more d10.size
      have y10 := y9.trans (d10.mono y9.size)
      clear d10 y9
      go_wp2_with fail
      refine (reads_any v10 E10 _ k10 _ lim s10 rfl hk10 hm10).mono ?_
      rintro e v11 ⟨rfl, d11⟩
      have y11 := y10.trans (d11.mono y10.size)
      go_wp2_with fail
      go_roundw
      case rel => exact ⟨i + 1, by omega, by go_num, y11⟩
      case measure => simp [intOf]; omega
    · obtain rfl : i = 3 := by omega
      go_wp2_with fail
      go_ret
      exact ⟨rfl, b7.trans (hbel.mono b7.size)⟩
end Go.Proofs.Ytkgmbpbbgkjidaa

