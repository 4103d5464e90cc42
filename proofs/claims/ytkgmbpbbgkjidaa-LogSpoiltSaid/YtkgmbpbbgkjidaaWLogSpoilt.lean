/- 'LogSpoilt': the walk of the law. -/
import Derived.Test.YtkgmbpbbgkjidaaLt
namespace Go.Proofs.Ytkgmbpbbgkjidaa
open Go.RowKit Go.Proofs.Ytkgmbpbbgkjidaa.Pl Go.Proofs.Ytkgmbpbbgkjidaa.Pc Go.Proofs.Ytkgmbpbbgkjidaa.Lg

theorem Few.one {l : List UInt8} (h : l.length ≤ 65536) : putR [l] = (rec1 l, 0) := by
  have e : recs [l] = rec1 l := by simp [recs]
  have hh : ∀ p ∈ [l], p.length ≤ 65536 := fun p hp => by simp at hp; subst hp; exact h
  rw [← e]
  unfold putR
  rw [if_pos (by simpa using h)]

set_option maxRecDepth 100000 in
set_option maxHeartbeats 12800000 in
theorem LogSpoilt_walk (w : World) (Al : Option Addr) (cl : Nat) (ls : List (List UInt8)) (hM : Mat w Al ls) (hcl : ls.length ≤ cl) (hml : cl ≤ maxLen) (v : Nat) (hv : v < 256) (x : Int) (hx : -9223372036854775808 ≤ x ∧ x ≤ 9223372036854775807) (by' : Nat) (hby : by' < 256) (A : Option Addr) (c : Nat) (b : List UInt8) (hb : Sl w w.heap.size A (bv b)) (hc : b.length ≤ c) (hm : c ≤ 140737488351232) :
    Calls Try.prog 7 #[.slice Al ls.length cl, .int .u8 (v : Int), .int .i64 x, .int .u8 (by' : Int), .slice A b.length c] w fun e w' => e = .returned (.bool true) ∧ Below w.heap.size w w' := by
  have hcm : c ≤ maxLen := by simp only [maxLen]; omega
  have hm63 : ls.length ≤ 9223372036854775807 := by simp only [maxLen] at hml; omega
  go_enter Try.func7, Try.ntmps7
  go_wp2_with fail
  refine (lgKnown_any w).mono ?_
  rintro e w1 ⟨rfl, b1⟩
  have sb := (hb.below b1).more b1.size
  have hM1 := hM.below b1
  clear hb hM
  go_wp2_with fail
  refine (few_any w1 Al ls.length cl ls hM1 rfl hm63).mono ?_
  rintro e w' ⟨t, rfl, rfl, ht⟩
  cases t with
  | false =>
    go_wp2_with fail
    go_ret
    exact ⟨rfl, b1⟩
  | true =>
    obtain ⟨n, hn⟩ : ∃ n, ls.length = n := ⟨_, rfl⟩
    have hF := ht rfl
    have h20 := hF.1
    rw [hn] at hm63 hcl h20 ⊢
    by_cases h0 : n = 0
    · have hd : ((n : Int) == 0) = true := by simp; omega
      go_wp2_with fail
      go_ret
      exact ⟨rfl, b1⟩
    have hd0 : ((n : Int) == 0) = false := by simp; omega
    by_cases hb0 : by' = 0
    · subst hb0
      go_wp2_with fail
      go_ret
      exact ⟨rfl, b1⟩
    have hdb : ((by' : Int) == 0) = false := by simp; omega
    by_cases h5 : 500 < b.length
    · have hd : decide (500 < (b.length : Int)) = true := by simp; omega
      go_wp2_with fail
      go_ret
      exact ⟨rfl, b1⟩
    have hd5 : decide (500 < (b.length : Int)) = false := by simp; omega
    have htm : (v : Int).tmod (n : Int) = ((v % n : Nat) : Int) := (Int.ofNat_tmod v n).symm
    have hkn : v % n < n := Nat.mod_lt _ (by omega)
    generalize v % n = k at *
    have hk1 : k < ls.length := by omega
    obtain ⟨bm, o, _, _, rfl, hbm, _⟩ := hM1.at_ hk1
    have hM9 : ∀ W, Below w1.heap.size w1 W → ∃ A' c', W.cell? ⟨bm, o + k, none⟩ = some (.slice A' (ls[k]?.getD []).length c') ∧ Sl W W.heap.size A' (bv (ls[k]?.getD [])) ∧ (ls[k]?.getD []).length ≤ c' ∧ c' ≤ maxLen := fun W h => by
      obtain ⟨bm', o', A', c', hA, _, q, s', h1, h2⟩ := (hM1.below h).at_ hk1
      injection hA with hA
      injection hA with e1 e2
      subst e1 e2
      exact ⟨A', c', q, s', h1, h2⟩
    obtain ⟨hP, hPl⟩ := (hF.take k).put
    have hl2 := hF.get k
    have hsp := fun j hj hj' => scan_spoilt (ls.take k) (ls[k]?.getD []) b j (hF.take k).mem (by omega) hj hj' (UInt8.ofNat by') (by intro e; have := congrArg UInt8.toNat e; simp at this; omega)
    have hr5 := rec1_few hl2
    have hrl := rec1_len (ls[k]?.getD [])
    have hel := enc_len (ls[k]?.getD []).length
    have hone := Few.one (l := ls[k]?.getD []) (by omega)
    have hM1k := hM1.tk k
    have hkl : (ls.take k).length = k := by rw [List.length_take]; omega
    have hMk := fun W (h : Below w1.heap.size w1 W) => hM1k.below h
    have hputb : (recs (ls.take k)).length ≤ 1000000 := by omega
    have hputr : (recs [ls[k]?.getD []]).length ≤ 1000000 := by simp [recs]; omega
    have hA0 := Lib.hid (And.intro hP (And.intro hone (And.intro hputb (And.intro hputr (And.intro hsp hkl)))))
    have HM9 := Lib.hid (And.intro hM9 hMk)
    clear hM9 hMk hP hone hputb hputr hsp ht hF hM1 hkl
    generalize ls[k]?.getD [] = l at *
    generalize ls.take k = lk at *
    obtain ⟨R, hR⟩ : ∃ R, recs lk = R := ⟨_, rfl⟩
    rw [hR] at hA0 hPl
    have HR := Lib.hid hR
    clear hR
    obtain ⟨O, hO⟩ : ∃ O, rec1 l = O := ⟨_, rfl⟩
    rw [hO] at hA0 hrl hr5
    obtain ⟨en, hen⟩ : ∃ en, (enc l.length).length = en := ⟨_, rfl⟩
    rw [hen] at hA0 hrl hel
    have HO := Lib.hid (And.intro hrl hel)
    have hO5 : l.length + 5 ≤ O.length := by omega
    clear hO hen hrl hel
    have hkc : (k : Int) ≤ (cl : Int) := by omega
    have HPl := Lib.hid (fun W => Place_any W x (l.length + 4) (by omega) (by omega) hx.1 hx.2)
    go_wp2_with fail
    refine (LPut_lit w1 _ k cl lk R R.length 0 hM1k hA0.out.2.2.2.2.2.symm (by simp only [maxLen]; omega) (by rw [HR.out]; exact hA0.out.2.2.1) hA0.out.1 rfl).mono ?_
    rintro e w3 ⟨A3, c3, rfl, s3, hc3, hm3, hb3⟩
    have b3 := b1.trans (hb3.mono b1.size)
    replace sb := (sb.below hb3).more hb3.size
    obtain ⟨A4, c4, q0, s4, hc4, hm4⟩ := HM9.out.1 w3 hb3
    have hO1 := Mat.one w3 25 (.slice A4 l.length c4) l ⟨_, _, rfl, s4, hc4, hm4⟩
    have d4 := balloc hb3 (.cells #[.slice A4 l.length c4] 25)
    have e4 := balloc (Below.refl w3.heap.size w3) (.cells #[.slice A4 l.length c4] 25)
    replace sb := (sb.below e4).more e4.size
    replace s3 := (s3.below e4).more e4.size
    have b4 := b3.trans (e4.mono b3.size)
    clear hM1k s4 e4 b3 hb3
    go_wp2_with fail
    generalize w3.alloc (.cells #[.slice A4 l.length c4] 25) = w4 at *
    refine (LPut_lit w4 _ 1 1 [l] O O.length 0 hO1 rfl (by simp [maxLen]) hA0.out.2.2.2.1 hA0.out.2.1 rfl).mono ?_
    rintro e w5 ⟨A5, c5, rfl, s5, hc5, hm5, hb5⟩
    replace sb := (sb.below hb5).more hb5.size
    replace s3 := (s3.below hb5).more hb5.size
    have b5 := b4.trans (hb5.mono b4.size)
    have d5 := d4.trans (hb5.mono d4.size)
    clear hb5 b4 d4 hO1 q0
    obtain ⟨A6, c6, q5, _⟩ := HM9.out.1 w5 d5
    have hq5 : decide ((O.length : Int) < (l.length : Int) + 5) = false := by rw [decide_eq_false_iff_not]; omega
    go_wp2_with (at_builtin; go_loud (refine appG (by rfl) rfl (OwnB.nil w5 w5.heap.size) s5 rfl rfl rfl (by simp; omega) (Nat.le_refl _) ?_); intro s7 w7 hown7 hg7 hat7; have d7 : Below w5.heap.size w5 w7 := below_of_grown hg7 (fun k e => by simp [Value.ownBlock] at e) (Nat.le_refl _); rw [List.nil_append] at hown7; obtain ⟨gb, cap, rfl, hgb, hgw, hcap, hcapm⟩ := hown7.head (by omega); have d7' := d5.trans (d7.mono d5.size); obtain ⟨A8, c8, q7, _⟩ := HM9.out.1 w7 d7')
    have b7 := b5.trans (d7.mono b5.size)
    replace sb := sb.below d7
    replace s3 := s3.below d7
    have hz5 := b5.size
    have hz7 := d7.size
    refine (HPl.out w7).mono ?_
    rintro e w' ⟨j, hj, rfl, rfl⟩
    obtain ⟨ix, hix⟩ : ∃ ix : Nat, O.length = ix + 1 + j := ⟨O.length - 1 - j, by omega⟩
    have hixe : en ≤ ix := by have := HO.out.1; omega
    have hixl : ix < O.length := by omega
    have hie : (O.length : Int) - 1 - (j : Int) = (ix : Int) := by omega
    have hck : (ix : Int) ≤ (cap : Int) := by omega
    have hxu : (by' : Int) = ((UInt8.ofNat by').toNat : Int) := by simp only [UInt8.toNat_ofNat']; omega
    have HU := Lib.hid hxu
    have hxor : bits .xor .u8 ((O[ix]?.getD 0).toNat : Int) (by' : Int) = ((O[ix]?.getD 0 ^^^ UInt8.ofNat by').toNat : Int) := by rw [HU.out, xor_u8]
    have hsp := hA0.out.2.2.2.2.1 ix hixe hixl
    obtain ⟨hcell, hfz, hst, hgr⟩ := hown7.store ix (O[ix]?.getD 0 ^^^ UInt8.ofNat by').toNat hixl (UInt8.toNat_lt _)
    rw [UInt8.ofNat_toNat] at hst
    have HSP := Lib.hid hsp
    clear hxu hsp hix
    generalize O[ix]?.getD 0 ^^^ UInt8.ofNat by' = z at *
    generalize O[ix]?.getD 0 = y at *
    have hbst := below_of_grown hgr (B := w5.heap.size) (fun g' e => by cases e; exact hgb) (by omega)
    have d9 := d7'.trans (hbst.mono d5.size)
    have b9 := b7.trans (hbst.mono hz5)
    have hTl : (O.set ix z).length = O.length := by simp
    have hso := (OwnB.sl (l := O.set ix z) (by rw [hTl]; exact hst)).1
    have hz9 : w5.heap.size ≤ (w'.setCell ⟨gb, ix, none⟩ (.int .u8 (z.toNat : Int))).heap.size := Nat.le_trans hz7 hbst.size
    have s9 := (s3.below hbst).more hz9
    have sb9 := (sb.below hbst).more hz9
    have HT := Lib.hid hTl
    clear hTl hst hgr hbst hown7 s3 sb
    generalize O.set ix z = O' at *
    obtain ⟨F, hFq⟩ : ∃ F, R ++ (O' ++ b) = F := ⟨_, rfl⟩
    have hFl : F.length = R.length + (O.length + b.length) := by rw [← hFq, List.length_append, List.length_append, HT.out]
    have HFQ := Lib.hid hFq
    have HFL := Lib.hid hFl
    have hF3 : F.length ≤ 300000 := by omega
    clear hFq hFl
    go_wp2_with (at_builtin; first
      | (refine appG (by rfl) rfl (OwnB.nil _ (w'.setCell ⟨gb, ix, none⟩ (.int .u8 (z.toNat : Int))).heap.size) s9 rfl rfl rfl (by simp; omega) (Nat.le_refl _) ?_; intro s10 w10 hown10 hg10 hat10; rw [List.nil_append] at hown10; have d10 := below_of_grown hg10 (fun k e => by simp [Value.ownBlock] at e) (Nat.le_refl _); have so10 := (hso.below d10).more d10.size; have sb10 := (sb9.below d10).more d10.size)
      | (refine appG (by rfl) rfl hown10 so10 HT.out.symm rfl rfl (by rw [HT.out]; omega) d10.size ?_; intro s11 w11 hown11 hg11 hat11; have d11 := own_below d10 d10.size hown10 hg11; have sb11 := (sb9.below d11).more d11.size)
      | (refine appG (by rfl) rfl hown11 sb11 rfl rfl rfl (by rw [List.length_append, HT.out]; omega) d11.size ?_; intro s12 w12 hown12 hg12 hat12))
    have d12 := own_below d11 d11.size hown11 hg12
    rw [List.append_assoc, HFQ.out] at hown12
    obtain ⟨A12, c12, rfl, hc12, hm12, s12, _, _⟩ := hown12.form
    have b12 := b9.trans (d12.mono b9.size)
    have d13 := d9.trans (d12.mono d9.size)
    have hMk := HM9.out.2 _ d13
    have hsc := HSP.out
    rw [HFQ.out] at hsc
    clear hown10 hown11 hown12 hg10 hg11 hg12 so10 sb10 sb11 sb9 s9 hso
    refine (Scan_lit w12 A12 F.length c12 F lk k R.length s12 rfl hc12 hm12 hF3 hsc hA0.out.2.2.2.2.2).mono ?_
    rintro e w13 ⟨A13, c13, rfl, hM13, hc13, hm13, hb13⟩
    have hMk13 := hMk.below hb13
    have b13 := b12.trans (hb13.mono b12.size)
    go_wp2_with fail
    refine (Bytes_eq w13 A13 _ k k c13 cl lk hM13 hMk13 hA0.out.2.2.2.2.2.symm hA0.out.2.2.2.2.2.symm (by omega)).mono ?_
    rintro e w14 ⟨rfl, hb14⟩
    go_wp2_with fail
    go_ret
    exact ⟨rfl, b13.trans (hb14.mono b13.size)⟩
end Go.Proofs.Ytkgmbpbbgkjidaa

