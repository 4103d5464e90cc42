/- Records: Put; the document's Record and Put. -/
import Derived.Test.YtkgmbpbbgkjidaaLo
import Derived.Test.YtkgmbpbbgkjidaaCrcS
namespace Go.Proofs.Ytkgmbpbbgkjidaa
open Go.RowKit Go.Proofs.Ytkgmbpbbgkjidaa.Pl Go.Proofs.Ytkgmbpbbgkjidaa.Pc Go.Proofs.Ytkgmbpbbgkjidaa.Lg

def putR (ls : List (List UInt8)) : List UInt8 × Int := if ls.all (fun x => decide (x.length ≤ 65536)) = true then (recs ls, 0) else ([], 23)
theorem putR_ok {ls : List (List UInt8)} (h : ∀ i, i < ls.length → (ls[i]?.getD []).length ≤ 65536) : putR ls = (recs ls, 0) := by
  unfold putR
  rw [if_pos]
  rw [List.all_eq_true]
  intro x hx
  obtain ⟨i, hi, rfl⟩ := List.mem_iff_getElem.1 hx
  have := h i hi
  rw [List.getElem?_eq_getElem hi] at this
  simpa using this
theorem putR_no {ls : List (List UInt8)} {i : Nat} (hi : i < ls.length) (h : 65536 < (ls[i]?.getD []).length) : putR ls = ([], 23) := by
  unfold putR
  rw [if_neg]
  rw [List.all_eq_true]
  intro h'
  have := h' _ (List.getElem_mem hi)
  rw [List.getElem?_eq_getElem hi] at h
  simp at this h
  omega
theorem recs_take {ls : List (List UInt8)} {i : Nat} (hi : i < ls.length) : recs (ls.take (i + 1)) = recs (ls.take i) ++ rec1 (ls[i]?.getD []) ∧ (recs (ls.take (i + 1))).length ≤ (recs ls).length := by
  constructor
  · rw [List.take_succ_eq_append_getElem hi, recs_snoc, List.getElem?_eq_getElem hi]
    rfl
  · conv => rhs; rw [← List.take_append_drop (i + 1) ls, recs_append, List.length_append]
    omega
set_option maxRecDepth 100000 in
set_option maxHeartbeats 3200000 in
theorem LPut_any (w : World) (A : Option Addr) (n c : Nat) (ls : List (List UInt8)) (hb : Mat w A ls) (h0 : n = ls.length) (hm : n ≤ maxLen) (hR : (recs ls).length ≤ 1000000) :
    Calls Try.prog 16 #[.slice A n c] w (PutPost w (putR ls)) := by
  have hn63 : n ≤ 9223372036854775807 := by simpa [maxLen] using hm
  have H0 := Lib.hid h0
  clear h0
  go_enter Try.func16, Try.ntmps16
  go_wp2_with fail
  go_loopw [4, 9] (fun x4 x9 wr => ∃ i : Nat, i ≤ n ∧ x9 = .int .i64 (i : Int) ∧ OwnB wr w.heap.size x4 (recs (ls.take i)) ∧ Below w.heap.size w wr ∧ ∀ j, j < i → (ls[j]?.getD []).length ≤ 65536) (fun _ x9 _ => n - (intOf x9).toNat)
  case atStart => exact ⟨0, Nat.zero_le _, rfl, OwnB.nil _ _, Below.refl _ _, fun j hj => by omega⟩
  case round =>
    obtain ⟨i, hi, rfl, hown, hbel, hall⟩ := hrel
    by_cases hlt : i < n
    · have hlt' : i < ls.length := by have := H0.out; omega
      obtain ⟨bm, om, Ai, ci, eA, hbm, hcell, sl, hlc, hcm⟩ := (hb.below hbel).at_ hlt'
      subst eA
      obtain ⟨hrt, hrl⟩ := recs_take hlt'
      by_cases hbig : 65536 < (ls[i]?.getD []).length
      · have hno := putR_no hlt' hbig
        rw [hno]
        generalize ls[i]?.getD [] = l at *
        have q1 : decide (65536 < (l.length : Int)) = true := by rw [decide_eq_true_eq]; omega
        clear hrt hrl hno
        go_wp2_with fail
        go_ret2
        exact ⟨none, 0, rfl, .inl rfl, Nat.le_refl _, by simp [maxLen], hbel⟩
      · have hall' : ∀ j, j < i + 1 → (ls[j]?.getD []).length ≤ 65536 := fun j hj => by
          rcases Nat.lt_or_ge j i with h | h
          · exact hall j h
          · obtain rfl : j = i := by omega
            omega
        obtain ⟨l, hl⟩ : ∃ l, ls[i]?.getD [] = l := ⟨_, rfl⟩
        rw [hl] at hcell sl hlc hrt hbig
        have HA := Lib.hid (And.intro hall' hrt)
        rw [hrt, List.length_append, rec1_len] at hrl
        clear hall hall' hrt hl
        have q1 : decide (65536 < (l.length : Int)) = false := by rw [decide_eq_false_iff_not]; omega
        have kw : IntKind.u64.wrap (l.length : Int) = (l.length : Int) := by rw [IntKind.wrap_u64]; omega
        have hel := enc_len l.length
        have bU := balloc (Below.refl wr.heap.size wr) (.cells #[.int .u64 (l.length : Int)] 33)
        have sU := (Sl.new wr 33 #[.int .u64 (l.length : Int)] (0, 0)).more (Nat.le_of_eq (World.size_alloc wr (.cells #[.int .u64 (l.length : Int)] 33)).symm)
        have sl2 := (sl.below bU).more bU.size
        have hown2 := hown.below bU
        have d2 := hbel.trans (bU.mono hbel.size)
        have HP := Lib.hid (Put_one (wr.alloc (.cells #[.int .u64 (l.length : Int)] 33)) none (some ⟨wr.heap.size, 0, none⟩) 0 0 1 [] l.length rfl Sl.nil sU (by unfold U64; omega) (by simp))
        rw [List.nil_append] at HP
        generalize recs (ls.take i) = cur at *
        obtain ⟨R1, hR1⟩ : ∃ R1, rec1 l = R1 := ⟨_, rfl⟩
        rw [hR1] at HA
        unfold rec1 at hR1
        obtain ⟨E, hE⟩ : ∃ E, enc l.length = E := ⟨_, rfl⟩
        rw [hE] at HP hel hrl hR1
        obtain ⟨P, hP⟩ : ∃ P, E ++ l = P := ⟨_, rfl⟩
        rw [hP] at hR1
        have hPl : P.length ≤ 70000 := by rw [← hP, List.length_append]; omega
        have hRl : R1.length ≤ 70004 := by rw [← hR1, sealS_len]; omega
        have HE := Lib.hid (And.intro hP hR1)
        clear sU hown hbel hE hP hR1 bU
        go_wp2_with fail
        generalize wr.alloc (.cells #[.int .u64 (l.length : Int)] 33) = w2 at *
        refine HP.out.mono ?_
        rintro e w3 ⟨A3, c3, rfl, hown3, hb3⟩
        have sl3 := sl2.below hb3
        have hs3 := hb3.size
        go_wp2_with (at_builtin; go_loud (refine appG (by rfl) rfl hown3 sl3 rfl rfl rfl (by omega) hs3 ?_); intro s4 w4 hown4 hg4 hat4; have d4 := own_below hb3 hs3 hown3 hg4; rw [HE.out.1] at hown4; obtain ⟨A4, c4, rfl, hc4, hm4, s4, _, _⟩ := hown4.form)
        have HS := Lib.hid (Seal_any w4 A4 P.length c4 P s4 rfl hc4 hm4 (by omega))
        rw [HE.out.2] at HS
        have hown4c := hown2.below d4
        have d4' := d2.trans (d4.mono d2.size)
        clear hown3 hown4 hg4 hat4 hb3 hs3 sl2 sl3 s4 HP hown2
        refine HS.out.mono ?_
        rintro e w5 ⟨A5, c5, rfl, hown5, hb5⟩
        have s5 := (OwnB.sl hown5).1
        have hown5c := hown4c.below hb5
        have d5 := d4'.trans (hb5.mono d4'.size)
        have hs5 := d5.size
        clear hown5 hb5 hown4c d4 d4' HS
        go_wp2_with (at_builtin; go_loud (refine appG (by rfl) rfl hown5c s5 rfl rfl rfl (by omega) hs5 ?_); intro s6 w6 hown6 hg6 hat6)
        have d6 := own_below d5 hs5 hown5c hg6
        rw [← HA.out.2] at hown6
        go_roundw
        case rel => exact ⟨i + 1, hlt, by go_num, hown6, d6, HA.out.1⟩
        case measure => simp [intOf]; omega
    · obtain rfl : i = n := by omega
      have hT : recs (ls.take i) = recs ls := by rw [List.take_of_length_le (by have := H0.out; omega)]
      rw [hT] at hown
      have hpr := Lib.hid (putR_ok (fun j hj => hall j (by have := H0.out; omega)))
      obtain ⟨A5, c5, rfl, hc5, hm5, s5, _, _⟩ := hown.form
      clear hT hall
      go_wp2_with fail
      go_ret2
      rw [hpr.out]
      exact ⟨A5, c5, rfl, s5, hc5, hm5, hbel⟩
set_option maxRecDepth 100000 in
set_option maxHeartbeats 3200000 in
theorem Record_any (w : World) (A : Option Addr) (n c : Nat) (l : List UInt8) (hb : Sl w w.heap.size A (bv l)) (h0 : n = l.length) (hc : n ≤ c) (hm : c ≤ maxLen) (hl : l.length ≤ 1000000) :
    Calls Try.prog 36 #[.slice A n c] w (Fresh w (rec1 l)) := by
  have hlc : l.length ≤ c := by omega
  subst h0
  have kw : IntKind.u64.wrap (l.length : Int) = (l.length : Int) := by rw [IntKind.wrap_u64]; omega
  have hel := enc_len l.length
  have bU := balloc (Below.refl w.heap.size w) (.cells #[.int .u64 (l.length : Int)] 33)
  have sU := (Sl.new w 33 #[.int .u64 (l.length : Int)] (0, 0)).more (Nat.le_of_eq (World.size_alloc w (.cells #[.int .u64 (l.length : Int)] 33)).symm)
  have sl2 := (hb.below bU).more bU.size
  have HP := Lib.hid (RefPut_one (w.alloc (.cells #[.int .u64 (l.length : Int)] 33)) none (some ⟨w.heap.size, 0, none⟩) 0 0 1 [] l.length rfl Sl.nil sU (by unfold U64; omega) (by simp))
  rw [List.nil_append] at HP
  obtain ⟨R1, hR1⟩ : ∃ R1, rec1 l = R1 := ⟨_, rfl⟩
  rw [hR1]
  unfold rec1 at hR1
  obtain ⟨E, hE⟩ : ∃ E, enc l.length = E := ⟨_, rfl⟩
  rw [hE] at HP hel hR1
  obtain ⟨P, hP⟩ : ∃ P, E ++ l = P := ⟨_, rfl⟩
  rw [hP] at hR1
  have hPl : P.length ≤ 1000010 := by rw [← hP, List.length_append]; omega
  have hsum : sum [E, l].flatten = sum P := by rw [← hP]; simp
  have HE := Lib.hid (And.intro hP (And.intro hR1 hsum))
  clear sU hE hP hR1 hsum
  go_enter Try.func36, Try.ntmps36
  go_wp2_with fail
  generalize w.alloc (.cells #[.int .u64 (l.length : Int)] 33) = w2 at *
  refine HP.out.mono ?_
  rintro e w3 ⟨A3, c3, rfl, hown3, hb3⟩
  have sl3 := (sl2.below hb3).more hb3.size
  obtain ⟨sE, hcE, hmE⟩ := OwnB.sl hown3
  have b3 := bU.trans (hb3.mono bU.size)
  clear HP hown3 bU hb3 sl2 hb
  go_wp2_with (at_builtin; first | (refine appG (by rfl) rfl (OwnB.nil w3 w3.heap.size) sE rfl rfl rfl (by simp; omega) (Nat.le_refl _) ?_; intro s4 w4 hown4 hg4 hat4; rw [List.nil_append] at hown4; have d4 : Below w3.heap.size w3 w4 := (below_of_grown hg4 (fun k e => by simp [Value.ownBlock] at e) (Nat.le_refl _)); have sl4 := sl3.below d4) | (refine appG (by rfl) rfl hown4 sl4 rfl rfl rfl (by omega) d4.size ?_; intro s5 w5 hown5 hg5 hat5; have d5 := own_below d4 d4.size hown4 hg5; rw [HE.out.1] at hown5; obtain ⟨A5, c5, rfl, hc5, hm5, _, _, _⟩ := hown5.form))
  have sE5 := (sE.below d5).more d5.size
  have sl5 := (sl3.below d5).more d5.size
  have bV := balloc (Below.refl w5.heap.size w5) (.cells #[.slice A3 E.length c3, .slice A l.length c] 25)
  have hM := Mat.two w5 25 (.slice A3 E.length c3) (.slice A l.length c) E l ⟨A3, c3, rfl, sE5, hcE, hmE⟩ ⟨A, c, rfl, sl5, hlc, hm⟩
  have hown5c := hown5.below bV
  have b5 := b3.trans (d5.mono b3.size)
  have b6 := b5.trans (bV.mono b5.size)
  have hsz : w.heap.size ≤ w3.heap.size := b3.size
  have HS := Lib.hid (RefSum_any (w5.alloc (.cells #[.slice A3 E.length c3, .slice A l.length c] 25)) (some ⟨w5.heap.size, 0, none⟩) 2 2 [E, l] hM rfl (by simp [maxLen]))
  rw [HE.out.2.2] at HS
  have hN := bv_lt (sum P)
  have hR1 := HE.out.2.1
  unfold sealS at hR1
  generalize (sum P).toNat = N at *
  have kw2 : IntKind.u64.wrap (N : Int) = (N : Int) := by rw [IntKind.wrap_u64]; omega
  have hF4 := fixF_len N 4
  have HF := Lib.hid (fun W => RefFixed_lit W N 4 (fixF N 4) (by omega) rfl)
  generalize fixF N 4 = F at *
  have HR := Lib.hid hR1
  clear hR1 sE5 sl5 sE sl3 hM hown4 hg4 hat4 d4 sl4 hown5 hg5 hat5 d5 b3 b5 kw HE hel
  refine HS.out.mono ?_
  rintro e w7 ⟨rfl, hb7⟩
  have hown7 := hown5c.below hb7
  have b7 := b6.trans (hb7.mono b6.size)
  have hs7 := (bV.mono (Nat.le_refl _)).size
  clear hown5c hb7 b6 HS
  go_wp2_with fail
  refine (HF.out _).mono ?_
  rintro e w8 ⟨A8, c8, rfl, hown8, hb8⟩
  have s8 := (OwnB.sl hown8).1
  have hown8c := hown7.below hb8
  have b8 := b7.trans (hb8.mono b7.size)
  clear hown7 hown8 b7 HF hb8
  have hs8 : w.heap.size ≤ w8.heap.size := b8.size
  have hown8d := hown8c.base_le hsz
  go_wp2_with (at_builtin; go_loud (refine appG (by rfl) rfl hown8d s8 hF4.symm rfl rfl (by omega) hs8 ?_); intro s9 w9 hown9 hg9 hat9)
  have b9 := own_below b8 hs8 hown8d hg9
  rw [HR.out] at hown9
  obtain ⟨A9, c9, rfl, _, _, _, _, _⟩ := id hown9.form
  go_ret
  exact ⟨A9, c9, rfl, hown9, b9⟩
set_option maxRecDepth 100000 in
set_option maxHeartbeats 3200000 in
theorem RPutL_any (w : World) (A : Option Addr) (n c : Nat) (ls : List (List UInt8)) (hb : Mat w A ls) (h0 : n = ls.length) (hm : n ≤ maxLen) (hR : (recs ls).length ≤ 1000000) :
    Calls Try.prog 17 #[.slice A n c] w (PutPost w (putR ls)) := by
  have hn63 : n ≤ 9223372036854775807 := by simpa [maxLen] using hm
  have H0 := Lib.hid h0
  clear h0
  go_enter Try.func17, Try.ntmps17
  go_wp2_with fail
  go_loopw [4, 5] (fun x4 x9 wr => ∃ i : Nat, i ≤ n ∧ x9 = .int .i64 (i : Int) ∧ OwnB wr w.heap.size x4 (recs (ls.take i)) ∧ Below w.heap.size w wr ∧ ∀ j, j < i → (ls[j]?.getD []).length ≤ 65536) (fun _ x9 _ => n - (intOf x9).toNat)
  case atStart => exact ⟨0, Nat.zero_le _, rfl, OwnB.nil _ _, Below.refl _ _, fun j hj => by omega⟩
  case round =>
    obtain ⟨i, hi, rfl, hown, hbel, hall⟩ := hrel
    by_cases hlt : i < n
    · have hlt' : i < ls.length := by have := H0.out; omega
      obtain ⟨bm, om, Ai, ci, eA, hbm, hcell, sl, hlc, hcm⟩ := (hb.below hbel).at_ hlt'
      subst eA
      obtain ⟨hrt, hrl⟩ := recs_take hlt'
      by_cases hbig : 65536 < (ls[i]?.getD []).length
      · have hno := Lib.hid (putR_no hlt' hbig)
        generalize ls[i]?.getD [] = l at *
        have q1 : decide (65536 < (l.length : Int)) = true := by rw [decide_eq_true_eq]; omega
        clear hrt hrl
        go_wp2_with fail
        go_ret2
        rw [hno.out]
        exact ⟨none, 0, rfl, .inl rfl, Nat.le_refl _, by simp [maxLen], hbel⟩
      · have hall' : ∀ j, j < i + 1 → (ls[j]?.getD []).length ≤ 65536 := fun j hj => by
          rcases Nat.lt_or_ge j i with h | h
          · exact hall j h
          · obtain rfl : j = i := by omega
            omega
        obtain ⟨l, hl⟩ : ∃ l, ls[i]?.getD [] = l := ⟨_, rfl⟩
        rw [hl] at hcell sl hlc hrt hbig
        have HA := Lib.hid (And.intro hall' hrt)
        rw [hrt, List.length_append, rec1_len] at hrl
        have hRl := Lib.hid (rec1_len l)
        have hel := enc_len l.length
        clear hall hall' hrt hl
        have q1 : decide (65536 < (l.length : Int)) = false := by rw [decide_eq_false_iff_not]; omega
        have HP := Lib.hid (Record_any wr Ai l.length ci l sl rfl hlc hcm (by omega))
        generalize recs (ls.take i) = cur at *
        generalize rec1 l = R1 at *
        go_wp2_with fail
        refine HP.out.mono ?_
        rintro e w5 ⟨A5, c5, rfl, hown5, hb5⟩
        have s5 := (OwnB.sl hown5).1
        have hown5c := hown.below hb5
        have d5 := hbel.trans (hb5.mono hbel.size)
        have hs5 := d5.size
        clear hown5 hb5 hown hbel HP
        go_wp2_with (at_builtin; go_loud (refine appG (by rfl) rfl hown5c s5 rfl rfl rfl (by have := hRl.out; omega) hs5 ?_); intro s6 w6 hown6 hg6 hat6)
        have d6 := own_below d5 hs5 hown5c hg6
        rw [← HA.out.2] at hown6
        go_roundw
        case rel => exact ⟨i + 1, hlt, by go_num, hown6, d6, HA.out.1⟩
        case measure => simp [intOf]; omega
    · obtain rfl : i = n := by omega
      have hT : recs (ls.take i) = recs ls := by rw [List.take_of_length_le (by have := H0.out; omega)]
      rw [hT] at hown
      have hpr := Lib.hid (putR_ok (fun j hj => hall j (by have := H0.out; omega)))
      obtain ⟨A5, c5, rfl, hc5, hm5, s5, _, _⟩ := hown.form
      clear hT hall
      go_wp2_with fail
      go_ret2
      rw [hpr.out]
      exact ⟨A5, c5, rfl, s5, hc5, hm5, hbel⟩
end Go.Proofs.Ytkgmbpbbgkjidaa

