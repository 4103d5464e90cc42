/- 'FrameBack': the walk of the law. -/
import Derived.Test.YtkgmbpbbgkjidaaFrB
namespace Go.Proofs.Ytkgmbpbbgkjidaa
open Go.RowKit Go.Proofs.Ytkgmbpbbgkjidaa.Pl Go.Proofs.Ytkgmbpbbgkjidaa.Pc

set_option maxRecDepth 100000 in
set_option maxHeartbeats 12800000 in
theorem FrameBack_walk (w : World) (k : Nat) (hk : k < 256) (g : Nat) (hg : g < 4294967296) (A : Option Addr) (c : Nat) (p : List UInt8) (hb : Sl w w.heap.size A (bv p)) (hc : p.length ≤ c) (hm : c ≤ 140737488351232) (Au : Option Addr) (cu : Nat) (u : List UInt8) (hu : Sl w w.heap.size Au (bv u)) (hcu : u.length ≤ cu) (hmu : cu ≤ 140737488351232) :
    Calls Try.prog 10 #[.int .u8 (k : Int), .int .u32 (g : Int), .slice A p.length c, .slice Au u.length cu] w fun e w' => e = .returned (.bool true) ∧ Below w.heap.size w w' := by
  have hcm : c ≤ maxLen := by simp [maxLen]; omega
  have hm1 := u8_half63 k hk
  have hm2 := u32_63 g hg
  have hm3 : (k : Int) % 2 = ((k % 2 : Nat) : Int) := by omega
  have hm4 : IntKind.i64.wrap (((k / 2 % 64 : Nat) : Int)) = ((k / 2 % 64 : Nat) : Int) := by rw [IntKind.wrap_i64]; omega
  have hmr := mk_right k g p
  have hml : (mkF k g p).p = p := rfl
  have hmg : (mkF k g p).g = g := rfl
  obtain ⟨x1, hx1⟩ : ∃ x1, x1 = mkF k g p := ⟨_, rfl⟩
  have hx1' : x1 = ⟨((k % 2 + 1 : Nat) : Int), g, ((k / 2 % 64 : Nat) : Int), ((g % 64 : Nat) : Int), p⟩ := hx1
  have hkk : ((k % 2 + 1 : Nat) : Int) = ((k % 2 : Nat) : Int) + 1 := by omega
  rw [hkk] at hx1'
  have hk2 : k % 2 < 2 := by omega
  have hk64 : k / 2 % 64 < 64 := by omega
  have hg64 : g % 64 < 64 := by omega
  rw [← hx1] at hmr hml hmg
  generalize k / 2 % 64 = K64 at *
  generalize k % 2 = K2 at *
  generalize g % 64 = G64 at *
  clear hx1 hkk
  have HX := Lib.hid hx1'
  clear hx1'
  go_enter Try.func10, Try.ntmps10
  go_wp2_with fail
  refine (frKnown_any w).mono ?_
  rintro e w1 ⟨rfl, b1⟩
  have sp := (hb.below b1).more b1.size
  have su := (hu.below b1).more b1.size
  clear hb hu
  by_cases h1 : 500 < p.length
  · have hd : decide (500 < (p.length : Int)) = true := by simp; omega
    go_wp2_with fail
    go_ret
    exact ⟨rfl, b1⟩
  have hd1 : decide (500 < (p.length : Int)) = false := by simp; omega
  have hle := len_ge x1
  have hbl := bytes_len x1
  rw [hml] at hle
  have hp6 : x1.p.length ≤ 65536 := by rw [hml]; omega
  have hg6 : x1.g < 4294967296 := by rw [hmg]; exact hg
  have hhl : heldN (x1.bytes.length : Int) = x1.len := by rw [hbl]; unfold heldN; rw [if_neg (by omega), if_neg (by omega)]; omega
  have hhl' : heldN ((x1.bytes.length : Int) - 1) < x1.len := by rw [hbl]; unfold heldN; (repeat' split) <;> omega
  have f1 : putF ⟨(K2 : Int) + 1, g, (K64 : Int), (G64 : Int), p⟩ 65536 = (x1.bytes, 0) := by
    rw [← HX.out]
    refine put_fits hmr ?_
    rw [held_max]
    omega
  have f2 : readF x1.bytes (x1.bytes.length : Int) = (⟨(K2 : Int) + 1, g, (K64 : Int), (G64 : Int), p⟩, 0) := by
    rw [read_full x1 hmr hp6 hg6 _ (by omega), HX.out]
  have f3 := read_big x1 hmr hp6 _ hhl'
  have f4 := fun t => cut_full x1 hmr hp6 t (x1.bytes.length : Int) (by omega)
  have f5 := fun t ht => read_more x1 hmr hp6 t ht (x1.bytes.length : Int) (by omega)
  have f6 := fun n hn => read_less x1 hmr hp6 n hn (x1.bytes.length : Int) (by omega)
  have f7 := fun n hn => cut_less x1 hmr hp6 n hn (x1.bytes.length : Int) (by omega)
  rw [hml] at f7
  rw [← hbl] at f6 f7
  have hS14 : 14 ≤ x1.bytes.length ∧ x1.bytes.length ≤ 600 := by omega
  have HF := Lib.hid (And.intro f1 (And.intro f2 (And.intro f3 (And.intro f4 (And.intro f5 (And.intro f6 f7))))))
  clear f1 f2 f3 f4 f5 f6 f7 hhl hhl' hp6 hg6 hbl hle hml hmr hmg
  generalize x1.bytes = S at *
  obtain ⟨hS1, hS2⟩ := hS14
  have bG := balloc (Below.refl w1.heap.size w1) (.cells #[.int .i64 ((K2 : Int) + 1), .int .u32 (g : Int), .int .i64 (K64 : Int), .int .i64 (G64 : Int), .slice A p.length c] 47)
  have hG := At.new w1 47 #[.int .i64 ((K2 : Int) + 1), .int .u32 (g : Int), .int .i64 (K64 : Int), .int .i64 (G64 : Int), .slice A p.length c]
  replace sp := (sp.below bG).more bG.size
  replace su := (su.below bG).more bG.size
  have b2 := b1.trans (bG.mono b1.size)
  clear bG b1
  have a0 := hG.c 0 rfl
  have a1 := hG.c 1 rfl
  have a2 := hG.c 2 rfl
  have a3 := hG.c 3 rfl
  have a4 := hG.c 4 rfl
  go_wp2_with fail
  clear hd1
  generalize w1.alloc (.cells #[.int .i64 ((K2 : Int) + 1), .int .u32 (g : Int), .int .i64 (K64 : Int), .int .i64 (G64 : Int), .slice A p.length c] 47) = w2 at *
  generalize w1.heap.size = gG at *
  refine (FPut_lit w2 _ _ _ g p A p.length c 65536 S 0 sp rfl hc hcm (by omega) hg HF.out.1).mono ?_
  rintro e w3 ⟨A3, c3, rfl, s3, hc3, hm3', hb3⟩
  replace sp := (sp.below hb3).more hb3.size
  replace su := (su.below hb3).more hb3.size
  replace hG := hG.below hb3
  have b3 := b2.trans (hb3.mono b2.size)
  clear hb3 b2 a0 a1 a2 a3 a4 hm1 hm2 hm3 hm4
  go_wp2_with fail
  obtain ⟨ns, hns⟩ : ∃ ns, S.length = ns := ⟨_, rfl⟩
  rw [hns] at hS1 hS2 hc3 HF ⊢
  have HNS := Lib.hid hns
  clear hns
  go_loopw [12] (fun x12 wr => ∃ n : Nat, n ≤ ns ∧ x12 = .int .i64 (n : Int) ∧ Below w3.heap.size w3 wr) (fun x12 _ => ns - (intOf x12).toNat)
  case atStart => exact ⟨0, Nat.zero_le _, rfl, Below.refl _ _⟩
  case round =>
    obtain ⟨n, hn, rfl, hbel⟩ := hrel
    by_cases hlt : n < ns
    · have hdn : decide ((n : Int) < (ns : Int)) = true := by rw [decide_eq_true_eq]; omega
      obtain ⟨r1, r2, hcut, hc10, hc11⟩ := HF.out.2.2.2.2.2.2 n hlt
      have hrl := HF.out.2.2.2.2.2.1 n hlt
      have hn3 : n ≤ c3 := by omega
      have htl : n = (S.take n).length := by rw [List.length_take]; have := HNS.out; omega
      have HRC := Lib.hid (And.intro hcut (And.intro hrl htl))
      clear hcut hrl htl
      have sn : Sl wr wr.heap.size A3 (bv (S.take n)) := by
        have := ((s3.below hbel).more hbel.size).tk n
        rw [bv_take] at this
        exact this
      have b4 := b3.trans (hbel.mono b3.size)
      go_wp2_with fail
      refine (FRead_lit wr A3 n c3 (S.take n) (ns : Int) 0 0 0 0 [] 20 sn HRC.out.2.2 hn3 hm3' HRC.out.2.1).mono ?_
      rintro e w5 ⟨A5, c5, rfl, _, hc5, hm5, hb5⟩
      simp only [List.length_nil]
      have bF := balloc (Below.refl w5.heap.size w5) (.cells #[.int .i64 0, .int .u32 0, .int .i64 0, .int .i64 0, .slice A5 0 c5] 47)
      have hF := At.new w5 47 #[.int .i64 0, .int .u32 0, .int .i64 0, .int .i64 0, .slice A5 0 c5]
      replace sn := (sn.below hb5).more hb5.size
      replace sn := (sn.below bF).more bF.size
      have hb5' := hbel.trans (hb5.mono hbel.size)
      have b5 := hb5'.trans (bF.mono hb5'.size)
      clear hb5 bF hb5' b4 hbel
      go_wp2_with fail
      generalize w5.alloc (.cells #[.int .i64 0, .int .u32 0, .int .i64 0, .int .i64 0, .slice A5 0 c5] 47) = w6 at *
      generalize w5.heap.size = gF at *
      refine (Cut_lit w6 A3 n c3 (S.take n) (ns : Int) r1 r2 sn HRC.out.2.2 hn3 hm3' HRC.out.1).mono ?_
      rintro e w7 ⟨rfl, hb7⟩
      replace hF := hF.below hb7
      have b7 := b5.trans (hb7.mono b5.size)
      clear hb7 b5
      have a0 := hF.c 0 rfl
      have a1 := hF.c 1 rfl
      have a2 := hF.c 2 rfl
      have a3 := hF.c 3 rfl
      have a4 := hF.c 4 rfl
      go_wp2_with fail
      refine (Same_eq w7 0 0 0 0 [] 0 0 c5 0 A5 none (.inl rfl) (.inl rfl) rfl rfl).mono ?_
      rintro e w8 ⟨rfl, hb8⟩
      have b8 := b7.trans (hb8.mono b7.size)
      clear hb8 b7 a0 a1 a2 a3 a4 hF sn
      have hp16 : decide ((p.length : Int) < 16384) = true := by rw [decide_eq_true_eq]; omega
      by_cases h10 : n < 10
      · obtain rfl := hc10 h10
        have q1 : decide ((n : Int) < 10) = true := by rw [decide_eq_true_eq]; omega
        have q2 : decide (11 ≤ (n : Int)) = false := by rw [decide_eq_false_iff_not]; omega
        clear hc10 hc11
        go_wp2_with fail
        go_roundw
        case rel => exact ⟨n + 1, by omega, by go_num, b8⟩
        case measure => simp [intOf]; omega
      · have q1 : decide ((n : Int) < 10) = false := by rw [decide_eq_false_iff_not]; omega
        by_cases h11 : 11 ≤ n
        · obtain ⟨e1, e2⟩ := hc11 h11 (by omega)
          subst e1 e2
          have q2 : decide (11 ≤ (n : Int)) = true := by rw [decide_eq_true_eq]; omega
          clear hc10 hc11
          go_wp2_with fail
          go_roundw
          case rel => exact ⟨n + 1, by omega, by go_num, b8⟩
          case measure => simp [intOf]; omega
        · have q2 : decide (11 ≤ (n : Int)) = false := by rw [decide_eq_false_iff_not]; omega
          clear hc10 hc11
          go_wp2_with fail
          go_roundw
          case rel => exact ⟨n + 1, by omega, by go_num, b8⟩
          case measure => simp [intOf]; omega
    · obtain rfl : n = ns := by omega
      have ss := (s3.below hbel).more hbel.size
      replace sp := (sp.below hbel).more hbel.size
      replace su := (su.below hbel).more hbel.size
      replace hG := hG.below hbel
      have c4 := b3.trans (hbel.mono b3.size)
      obtain ⟨Q, hQ⟩ : ∃ Q, S ++ u = Q := ⟨_, rfl⟩
      have HQ := Lib.hid hQ
      have hQl : Q.length ≤ 140737488351932 := by rw [← hQ, List.length_append]; have := HNS.out; omega
      clear hQ hbel b3 s3 hlt hn
      go_wp2_with fail
      refine (FRead_lit wr A3 n c3 S (n : Int) ((K2 : Int) + 1) (K64 : Int) (G64 : Int) g p 0 ss HNS.out.symm hc3 hm3' HF.out.2.1).mono ?_
      rintro e v5 ⟨A5, c5, rfl, s5, hc5, hm5, d5⟩
      replace ss := (ss.below d5).more d5.size
      replace sp := (sp.below d5).more d5.size
      replace su := (su.below d5).more d5.size
      replace hG := hG.below d5
      have c5_ := c4.trans (d5.mono c4.size)
      clear d5 c4
      have bx := balloc (Below.refl v5.heap.size v5) (.cells #[.int .i64 ((K2 : Int) + 1), .int .u32 (g : Int), .int .i64 (K64 : Int), .int .i64 (G64 : Int), .slice A5 p.length c5] 47)
      have hF5 := At.new v5 47 #[.int .i64 ((K2 : Int) + 1), .int .u32 (g : Int), .int .i64 (K64 : Int), .int .i64 (G64 : Int), .slice A5 p.length c5]
      replace ss := (ss.below bx).more bx.size
      replace sp := (sp.below bx).more bx.size
      replace su := (su.below bx).more bx.size
      replace s5 := (s5.below bx).more bx.size
      replace hG := hG.below bx
      have c6_ := c5_.trans (bx.mono c5_.size)
      clear bx c5_
      go_wp2_with fail
      generalize v5.alloc (.cells #[.int .i64 ((K2 : Int) + 1), .int .u32 (g : Int), .int .i64 (K64 : Int), .int .i64 (G64 : Int), .slice A5 p.length c5] 47) = v6 at *
      generalize v5.heap.size = gF5 at *
      refine (FRead_lit v6 A3 n c3 S ((n : Int) - 1) 0 0 0 0 [] 23 ss HNS.out.symm hc3 hm3' HF.out.2.2.1).mono ?_
      rintro e v7 ⟨A7, c7, rfl, _, _, _, d7⟩
      simp only [List.length_nil]
      replace ss := (ss.below d7).more d7.size
      replace sp := (sp.below d7).more d7.size
      replace su := (su.below d7).more d7.size
      replace s5 := (s5.below d7).more d7.size
      replace hG := hG.below d7
      replace hF5 := hF5.below d7
      have c7_ := c6_.trans (d7.mono c6_.size)
      clear d7 c6_
      have bx := balloc (Below.refl v7.heap.size v7) (.cells #[.int .i64 0, .int .u32 0, .int .i64 0, .int .i64 0, .slice A7 0 c7] 47)
      replace ss := (ss.below bx).more bx.size
      replace sp := (sp.below bx).more bx.size
      replace su := (su.below bx).more bx.size
      replace s5 := (s5.below bx).more bx.size
      replace hG := hG.below bx
      replace hF5 := hF5.below bx
      have c8_ := c7_.trans (bx.mono c7_.size)
      clear bx c7_
      obtain ⟨v8, hv8⟩ : ∃ v8, v7.alloc (.cells #[.int .i64 0, .int .u32 0, .int .i64 0, .int .i64 0, .slice A7 0 c7] 47) = v8 := ⟨_, rfl⟩
      rw [hv8] at ss sp su s5 hG hF5 c8_
      go_wp2_with (at_builtin; go_loud (try rw [hv8]); first | (refine appG (by rfl) rfl (OwnB.nil v8 v8.heap.size) ss HNS.out.symm rfl rfl (by have := HNS.out; simp; omega) (Nat.le_refl _) ?_; intro s9 w9 hown9 hg9 hat9; rw [List.nil_append] at hown9; have d9 : Below v8.heap.size v8 w9 := (below_of_grown hg9 (fun k e => by simp [Value.ownBlock] at e) (Nat.le_refl _)); obtain ⟨g9, cap9, rfl, hg9', hgw9, hcap9, hcapmA⟩ := hown9.head (by have := HNS.out; omega); have su9 := su.below d9) | (refine appG (by rfl) rfl hown9 su9 rfl rfl rfl (by have := HNS.out; omega) d9.size ?_; intro s10 w10 hown10 hg10 hat10; rw [HQ.out] at hown10; obtain ⟨A10, c10, rfl, hc10, hm10, sQ10, _, _⟩ := hown10.form; have d10 : Below v8.heap.size v8 w10 := d9.trans (below_of_grown hg10 (fun k e => by simp [Value.ownBlock] at e; omega) d9.size)))
      clear hown9 hown10 hg9 hat9 hg10 hat10 d9 su9
      replace ss := (ss.below d10).more d10.size
      replace sp := (sp.below d10).more d10.size
      replace su := (su.below d10).more d10.size
      replace s5 := (s5.below d10).more d10.size
      replace hG := hG.below d10
      replace hF5 := hF5.below d10
      have c10_ := c8_.trans (d10.mono c8_.size)
      clear d10 c8_
      refine (Cut_lit w10 A10 Q.length c10 Q (n : Int) n 0 sQ10 rfl hc10 hm10 (by rw [← HQ.out]; exact HF.out.2.2.2.1 u)).mono ?_
      rintro e v11 ⟨rfl, d11⟩
      clear sQ10
      replace ss := (ss.below d11).more d11.size
      replace sp := (sp.below d11).more d11.size
      replace su := (su.below d11).more d11.size
      replace s5 := (s5.below d11).more d11.size
      replace hG := hG.below d11
      replace hF5 := hF5.below d11
      have c11_ := c10_.trans (d11.mono c10_.size)
      clear d11 c10_
      go_wp2_with (at_builtin; first | (refine appG (by rfl) rfl (OwnB.nil v11 v11.heap.size) ss HNS.out.symm rfl rfl (by have := HNS.out; simp; omega) (Nat.le_refl _) ?_; intro s12 w12 hown12 hg12 hat12; rw [List.nil_append] at hown12; have d12 : Below v11.heap.size v11 w12 := (below_of_grown hg12 (fun k e => by simp [Value.ownBlock] at e) (Nat.le_refl _)); obtain ⟨g12, cap12, rfl, hg12', hgw12, hcap12, hcapmA⟩ := hown12.head (by have := HNS.out; omega); have su12 := su.below d12) | (refine appG (by rfl) rfl hown12 su12 rfl rfl rfl (by have := HNS.out; omega) d12.size ?_; intro s13 w13 hown13 hg13 hat13; rw [HQ.out] at hown13; obtain ⟨A13, c13, rfl, hc13, hm13, sQ13, _, _⟩ := hown13.form; have d13 : Below v11.heap.size v11 w13 := d12.trans (below_of_grown hg13 (fun k e => by simp [Value.ownBlock] at e; omega) d12.size)))
      clear hown12 hown13 hg12 hat12 hg13 hat13 d12 su12
      replace ss := (ss.below d13).more d13.size
      replace sp := (sp.below d13).more d13.size
      replace su := (su.below d13).more d13.size
      replace s5 := (s5.below d13).more d13.size
      replace hG := hG.below d13
      replace hF5 := hF5.below d13
      have c13_ := c11_.trans (d13.mono c11_.size)
      clear d13 c11_
      by_cases hu0 : u = []
      · have hQS : readF Q (n : Int) = (⟨((K2 : Int) + 1), g, (K64 : Int), (G64 : Int), p⟩, 0) := by rw [← HQ.out, hu0, List.append_nil]; exact HF.out.2.1
        refine (FRead_lit w13 A13 Q.length c13 Q (n : Int) ((K2 : Int) + 1) (K64 : Int) (G64 : Int) g p 0 sQ13 rfl hc13 hm13 hQS).mono ?_
        rintro e v14 ⟨A14, c14, rfl, s14, hc14, hm14, d14⟩
        clear sQ13 hQS
        replace ss := (ss.below d14).more d14.size
        replace sp := (sp.below d14).more d14.size
        replace su := (su.below d14).more d14.size
        replace s5 := (s5.below d14).more d14.size
        replace hG := hG.below d14
        replace hF5 := hF5.below d14
        have c14_ := c13_.trans (d14.mono c13_.size)
        clear d14 c13_
        have bx := balloc (Below.refl v14.heap.size v14) (.cells #[.int .i64 ((K2 : Int) + 1), .int .u32 (g : Int), .int .i64 (K64 : Int), .int .i64 (G64 : Int), .slice A14 p.length c14] 47)
        have hF9 := At.new v14 47 #[.int .i64 ((K2 : Int) + 1), .int .u32 (g : Int), .int .i64 (K64 : Int), .int .i64 (G64 : Int), .slice A14 p.length c14]
        replace ss := (ss.below bx).more bx.size
        replace sp := (sp.below bx).more bx.size
        replace su := (su.below bx).more bx.size
        replace s5 := (s5.below bx).more bx.size
        replace s14 := (s14.below bx).more bx.size
        replace hG := hG.below bx
        replace hF5 := hF5.below bx
        have c15_ := c14_.trans (bx.mono c14_.size)
        clear bx c14_
        have hul : u.length = 0 := by rw [hu0]; rfl
        have a0 := hF5.c 0 rfl
        have a1 := hF5.c 1 rfl
        have a2 := hF5.c 2 rfl
        have a3 := hF5.c 3 rfl
        have a4 := hF5.c 4 rfl
        have d0 := hG.c 0 rfl
        have d1 := hG.c 1 rfl
        have d2 := hG.c 2 rfl
        have d3 := hG.c 3 rfl
        have d4 := hG.c 4 rfl
        go_wp2_with fail
        generalize v14.alloc (.cells #[.int .i64 ((K2 : Int) + 1), .int .u32 (g : Int), .int .i64 (K64 : Int), .int .i64 (G64 : Int), .slice A14 p.length c14] 47) = v15 at *
        generalize v14.heap.size = gF9 at *
        refine (Same_eq v15 ((K2 : Int) + 1) (K64 : Int) (G64 : Int) g p p.length p.length c5 c A5 A s5 sp rfl rfl).mono ?_
        rintro e v16 ⟨rfl, d16⟩
        have c16_ := c15_.trans (d16.mono c15_.size)
        clear a0 a1 a2 a3 a4 d0 d1 d2 d3 d4
        go_wp2_with fail
        go_ret
        exact ⟨rfl, c16_⟩
      · have hQS : readF Q (n : Int) = (zeroF, 21) := by rw [← HQ.out]; exact HF.out.2.2.2.2.1 u hu0
        refine (FRead_lit w13 A13 Q.length c13 Q (n : Int) 0 0 0 0 [] 21 sQ13 rfl hc13 hm13 hQS).mono ?_
        rintro e v14 ⟨A14, c14, rfl, _, _, _, d14⟩
        simp only [List.length_nil]
        clear sQ13 hQS
        replace ss := (ss.below d14).more d14.size
        replace sp := (sp.below d14).more d14.size
        replace su := (su.below d14).more d14.size
        replace s5 := (s5.below d14).more d14.size
        replace hG := hG.below d14
        replace hF5 := hF5.below d14
        have c14_ := c13_.trans (d14.mono c13_.size)
        clear d14 c13_
        have bx := balloc (Below.refl v14.heap.size v14) (.cells #[.int .i64 0, .int .u32 0, .int .i64 0, .int .i64 0, .slice A14 0 c14] 47)
        have hF9 := At.new v14 47 #[.int .i64 0, .int .u32 0, .int .i64 0, .int .i64 0, .slice A14 0 c14]
        replace ss := (ss.below bx).more bx.size
        replace sp := (sp.below bx).more bx.size
        replace su := (su.below bx).more bx.size
        replace s5 := (s5.below bx).more bx.size
        replace hG := hG.below bx
        replace hF5 := hF5.below bx
        have c15_ := c14_.trans (bx.mono c14_.size)
        clear bx c14_
        have hup : 0 < u.length := List.length_pos_iff.2 hu0
        have hul : ((u.length : Int) == 0) = false := by simp; exact hu0
        have hul2 : decide (0 < (u.length : Int)) = true := by rw [decide_eq_true_eq]; omega
        have a0 := hF5.c 0 rfl
        have a1 := hF5.c 1 rfl
        have a2 := hF5.c 2 rfl
        have a3 := hF5.c 3 rfl
        have a4 := hF5.c 4 rfl
        have d0 := hG.c 0 rfl
        have d1 := hG.c 1 rfl
        have d2 := hG.c 2 rfl
        have d3 := hG.c 3 rfl
        have d4 := hG.c 4 rfl
        go_wp2_with fail
        generalize v14.alloc (.cells #[.int .i64 0, .int .u32 0, .int .i64 0, .int .i64 0, .slice A14 0 c14] 47) = v15 at *
        generalize v14.heap.size = gF9 at *
        refine (Same_eq v15 ((K2 : Int) + 1) (K64 : Int) (G64 : Int) g p p.length p.length c5 c A5 A s5 sp rfl rfl).mono ?_
        rintro e v16 ⟨rfl, d16⟩
        replace hG := hG.below d16
        replace hF9 := hF9.below d16
        have c16_ := c15_.trans (d16.mono c15_.size)
        clear a0 a1 a2 a3 a4 d0 d1 d2 d3 d4 d16
        have a0 := hF9.c 0 rfl
        have a1 := hF9.c 1 rfl
        have a2 := hF9.c 2 rfl
        have a3 := hF9.c 3 rfl
        have a4 := hF9.c 4 rfl
        have d0 := hG.c 0 rfl
        have d1 := hG.c 1 rfl
        have d2 := hG.c 2 rfl
        have d3 := hG.c 3 rfl
        have d4 := hG.c 4 rfl
        go_wp2_with fail
        refine (Same_kind v16 0 0 0 ((K2 : Int) + 1) (K64 : Int) (G64 : Int) 0 g 0 p.length c14 c A14 A (by omega)).mono ?_
        rintro e v17 ⟨rfl, d17⟩
        have c17_ := c16_.trans (d17.mono c16_.size)
        clear a0 a1 a2 a3 a4 d0 d1 d2 d3 d4
        go_wp2_with fail
        go_ret
        exact ⟨rfl, c17_⟩
end Go.Proofs.Ytkgmbpbbgkjidaa

