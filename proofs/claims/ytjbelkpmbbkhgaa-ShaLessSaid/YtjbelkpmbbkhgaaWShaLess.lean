/- ShaLess, walked. -/
import Derived.Test.YtjbelkpmbbkhgaaShD
import Derived.Test.YtjbelkpmbbkhgaaShO
import Derived.Test.YtjbelkpmbbkhgaaPShc
namespace Go.Proofs.Ytjbelkpmbbkhgaa
open Go.RowKit Go.Proofs.Ytjbelkpmbbkhgaa.Sh

def LsS (gp : Nat) (p q : List UInt8) (gA gB gC gl : Nat) (a b c : List UInt8) (L : List Value) (w W : World) : Prop := At W gp (bv p ++ bv q) ∧ At W gA (bv a) ∧ At W gB (bv b) ∧ At W gC (bv c) ∧ At W gl L ∧ Below w.heap.size w W
theorem LsS.below {gp : Nat} {p q : List UInt8} {gA gB gC gl : Nat} {a b c : List UInt8} {L : List Value} {w W W' : World} (h : LsS gp p q gA gB gC gl a b c L w W) (hb : Below W.heap.size W W') : LsS gp p q gA gB gC gl a b c L w W' := ⟨h.1.below hb, h.2.1.below hb, h.2.2.1.below hb, h.2.2.2.1.below hb, h.2.2.2.2.1.below hb, h.2.2.2.2.2.trans (hb.mono h.2.2.2.2.2.size)⟩
theorem At.fst {w : World} {g : Nat} {p q : List Value} (h : At w g (p ++ q)) : ∀ (j : Nat) (u : Value), p[j]? = some u → w.cell? ⟨g, 0 + j, none⟩ = some u := fun j u hu => by
  rw [Nat.zero_add]
  exact h.c j (by rw [List.getElem?_append_left (List.getElem?_eq_some_iff.1 hu).1]; exact hu)
theorem At.snd {w : World} {g : Nat} {p q : List Value} (h : At w g (p ++ q)) {n : Nat} (hn : p.length = n) : ∀ (j : Nat) (u : Value), q[j]? = some u → w.cell? ⟨g, n + j, none⟩ = some u := fun j u hu => by
  refine h.c (n + j) ?_
  rw [List.getElem?_append_right (by omega), hn, Nat.add_sub_cancel_left]
  exact hu
set_option maxRecDepth 100000 in
set_option maxHeartbeats 6400000 in
theorem ShaLess_walk (w : World) (a : List UInt8) (ha : a.length = 32) (b : List UInt8) (hb : b.length = 32) (c : List UInt8) (hc : c.length = 32) (at0 : Nat) (hat : at0 < 256) (by0 : Nat) (hby : by0 < 256) :
    Calls Try.prog 4 #[.agg (bv a).toArray, .agg (bv b).toArray, .agg (bv c).toArray, .int .u8 (at0 : Int), .int .u8 (by0 : Int)] w fun e w' => e = .returned (.bool true) ∧ Below w.heap.size w w' := by
  have hA := At.new w 23 (bv a).toArray
  have hb1 := balloc (Below.refl w.heap.size w) (.cells (bv a).toArray 23)
  have HL := Lib.hid (And.intro ha (And.intro hb hc))
  have HB := Lib.hid (And.intro (show (bv a).length = 32 by rw [bv_len, ha]) (And.intro (show (bv b).length = 32 by rw [bv_len, hb]) (show (bv c).length = 32 by rw [bv_len, hc])))
  clear ha hb hc
  replace hA : At (w.alloc (.cells (bv a).toArray 23)) w.heap.size (bv a) := hA
  go_enter Try.func4, Try.ntmps4
  go_wp2_with (refine opVal rfl (ex_box32 rfl rfl) ?_)
  generalize hw1 : w.alloc (.cells (bv a).toArray 23) = w1 at *
  have hs1 : w1.heap.size = w.heap.size + 1 := by rw [← hw1]; simp
  have hB := At.new w1 23 (bv b).toArray
  have hA2 := hA.alloc (.cells (bv b).toArray 23)
  have hb2 := balloc hb1 (.cells (bv b).toArray 23)
  replace hB : At (w1.alloc (.cells (bv b).toArray 23)) w1.heap.size (bv b) := hB
  generalize hw2 : w1.alloc (.cells (bv b).toArray 23) = w2 at *
  have hs2 : w2.heap.size = w1.heap.size + 1 := by rw [← hw2]; simp
  have hC := At.new w2 23 (bv c).toArray
  have hA3 := hA2.alloc (.cells (bv c).toArray 23)
  have hB3 := hB.alloc (.cells (bv c).toArray 23)
  have hb3 := balloc hb2 (.cells (bv c).toArray 23)
  replace hC : At (w2.alloc (.cells (bv c).toArray 23)) w2.heap.size (bv c) := hC
  generalize w2.alloc (.cells (bv c).toArray 23) = w3 at *
  clear hA hA2 hB hb1 hb2 hw1 hw2
  rw [hs2, hs1] at hC
  rw [hs1] at hB3
  clear hs1 hs2
  have hA3' : At w3 w.heap.size (bv a) := hA3
  generalize hgc : w.heap.size + 1 + 1 = gC at *
  generalize hgb : w.heap.size + 1 = gB at *
  generalize hga : w.heap.size = gA at hA3 ⊢
  clear hA3'
  refine (shknown_any w3).mono ?_
  rintro e w4 ⟨rfl, hb4⟩
  have hA := hA3.below hb4
  have hB := hB3.below hb4
  have hC := hC.below hb4
  have hbel := hb3.trans (hb4.mono hb3.size)
  clear hA3 hB3 hb3 hb4
  have hD0 := At.new w4 23 (bv z32).toArray
  have hD1 := hD0.putL (bv a) (by rw [HB.out.1]; rfl)
  have hA4 := (hA.alloc (.cells (bv z32).toArray 23)).putL_other (bv a) 0 (g' := w4.heap.size) _ (by have := hA.1; omega)
  have hB4 := (hB.alloc (.cells (bv z32).toArray 23)).putL_other (bv a) 0 (g' := w4.heap.size) _ (by have := hB.1; omega)
  have hC4 := (hC.alloc (.cells (bv z32).toArray 23)).putL_other (bv a) 0 (g' := w4.heap.size) _ (by have := hC.1; omega)
  have hb4 := below_putL (bv a) 0 (balloc hbel (.cells (bv z32).toArray 23)) hbel.size
  have dA : w4.heap.size ≠ gA := by have := hA.1; omega
  have dB : w4.heap.size ≠ gB := by have := hB.1; omega
  have dC : w4.heap.size ≠ gC := by have := hC.1; omega
  have hgd : w.heap.size ≤ w4.heap.size := hbel.size
  have HX := Lib.hid (And.intro hD0 hA)
  clear hD0 hB hC hbel hA
  obtain ⟨i, hi⟩ : ∃ i, i = at0 % 32 := ⟨_, rfl⟩
  have hi32 : i < 32 := by omega
  have qi : (at0 : Int) % 32 = (i : Int) := by omega
  have qt : (at0 : Int).tmod 32 = (i : Int) := by rw [Int.tmod_eq_emod_of_nonneg (by omega)]; exact qi
  have hst := hD1.set i (.int .u8 (by0 : Int)) (by rw [HB.out.1]; exact hi32)
  rw [bv_set _ _ _ hby] at hst
  have e5 := hD1.c i (bv_get a i (by rw [HL.out.1]; exact hi32))
  have f5 := hD1.f i (bv_get a i (by rw [HL.out.1]; exact hi32))
  have hA5 := hA4.set_other i (.int .u8 (by0 : Int)) dA
  have hB5 := hB4.set_other i (.int .u8 (by0 : Int)) dB
  have hC5 := hC4.set_other i (.int .u8 (by0 : Int)) dC
  have hb5 := hb4.setCell (p := ⟨w4.heap.size, i, none⟩) hgd (.int .u8 (by0 : Int))
  obtain ⟨d, hd⟩ : ∃ d, d = a.set i (UInt8.ofNat by0) := ⟨_, rfl⟩
  rw [← hd] at hst
  have hdl : d.length = 32 := by rw [hd, List.length_set, HL.out.1]
  have HD := Lib.hid (And.intro hdl (show (bv d).length = 32 by rw [bv_len, hdl]))
  clear hi hd hdl hD1 hA4 hB4 hC4 hb4 dA dB dC
  obtain ⟨VA, hVA⟩ : ∃ VA, VA = bv a := ⟨_, rfl⟩
  obtain ⟨VB, hVB⟩ : ∃ VB, VB = bv b := ⟨_, rfl⟩
  obtain ⟨VD, hVD⟩ : ∃ VD, VD = bv d := ⟨_, rfl⟩
  have lA : VA.length = 32 := by rw [hVA]; exact HB.out.1
  have lB : VB.length = 32 := by rw [hVB]; exact HB.out.2.1
  have lD : VD.length = 32 := by rw [hVD]; exact HD.out.2
  have hpr : (∀ u ∈ [VA ++ VB, VB ++ VA, VA ++ VA, VA ++ VD, VD ++ VA], u.length = 64) ∧ ∀ u ∈ [VA ++ VB, VB ++ VA, VA ++ VA, VA ++ VD, VD ++ VA], ∃ p q : List UInt8, p.length = 32 ∧ q.length = 32 ∧ u = bv p ++ bv q := by
    refine ⟨fun u hu => ?_, fun u hu => ?_⟩
    · simp only [List.mem_cons, List.not_mem_nil, or_false] at hu
      rcases hu with rfl | rfl | rfl | rfl | rfl <;> rw [List.length_append] <;> omega
    · simp only [List.mem_cons, List.not_mem_nil, or_false] at hu
      rw [hVA, hVB, hVD] at hu
      rcases hu with rfl | rfl | rfl | rfl | rfl
      · exact ⟨a, b, HL.out.1, HL.out.2.1, rfl⟩
      · exact ⟨b, a, HL.out.2.1, HL.out.1, rfl⟩
      · exact ⟨a, a, HL.out.1, HL.out.1, rfl⟩
      · exact ⟨a, d, HL.out.1, HD.out.1, rfl⟩
      · exact ⟨d, a, HD.out.1, HL.out.1, rfl⟩
  obtain ⟨PS, hPS⟩ : ∃ PS, PS = [VA ++ VB, VB ++ VA, VA ++ VA, VA ++ VD, VD ++ VA] := ⟨_, rfl⟩
  have HV := Lib.hid (And.intro hpr (And.intro lA (And.intro lB lD)))
  have HPS := Lib.hid hPS
  have HP := Lib.hid (And.intro (show PS.length = 5 by rw [hPS]; rfl) (show (∀ u ∈ PS, u.length = 64) ∧ ∀ u ∈ PS, ∃ p q : List UInt8, p.length = 32 ∧ q.length = 32 ∧ u = bv p ++ bv q by rw [hPS]; exact hpr))
  clear hpr hPS lA lB lD
  generalize hw5 : putL (w4.alloc (.cells (bv z32).toArray 23)) w4.heap.size 0 (bv a) = w5 at *
  generalize hw6 : w5.setCell ⟨w4.heap.size, i, none⟩ (.int .u8 (by0 : Int)) = w6 at *
  rw [← hVA] at hA5 HX hw5 ⊢
  rw [← hVB] at hB5 ⊢
  rw [← hVD] at hst
  obtain ⟨X1, hX1⟩ : ∃ X, X = Value.agg (VA ++ VB).toArray := ⟨_, rfl⟩
  obtain ⟨X2, hX2⟩ : ∃ X, X = Value.agg (VB ++ VA).toArray := ⟨_, rfl⟩
  obtain ⟨X3, hX3⟩ : ∃ X, X = Value.agg (VA ++ VA).toArray := ⟨_, rfl⟩
  obtain ⟨X4, hX4⟩ : ∃ X, X = Value.agg (VA ++ VD).toArray := ⟨_, rfl⟩
  obtain ⟨X5, hX5⟩ : ∃ X, X = Value.agg (VD ++ VA).toArray := ⟨_, rfl⟩
  have HX1 := Lib.hid hX1
  have HX2 := Lib.hid hX2
  have HX3 := Lib.hid hX3
  have HX4 := Lib.hid hX4
  have HX5 := Lib.hid hX5
  clear hX1 hX2 hX3 hX4 hX5
  have HQ := Lib.hid (And.intro hVA (And.intro hVB hVD))
  have H1 := Lib.hid (bv_one a)
  rw [← hVA] at H1
  clear hVA hVB hVD
  go_wp2_with (first
    | (rw [hw6]; fail)
    | (refine opVal rfl (ex_al32 rfl) ?_)
    | (refine opSkip rfl (ex_st32 rfl rfl rfl HX.out.1 rfl HV.out.2.1 H1.out) ?_; rw [hw5])
    | (refine opVal rfl (ex_ld32 rfl rfl hA5 HV.out.2.1) ?_; simp only [Act.put, List.setIfInBounds_toArray, List.set_cons_zero, List.set_cons_succ])
    | (refine opVal rfl (ex_ld32 rfl rfl hB5 HV.out.2.2.1) ?_; simp only [Act.put, List.setIfInBounds_toArray, List.set_cons_zero, List.set_cons_succ])
    | (refine opVal rfl (ex_ld32 rfl rfl hst HV.out.2.2.2) ?_; simp only [Act.put, List.setIfInBounds_toArray, List.set_cons_zero, List.set_cons_succ])
    | (refine opVal rfl (ex_ld32 rfl rfl HX.out.2 HV.out.2.1) ?_; simp only [Act.put, List.setIfInBounds_toArray, List.set_cons_zero, List.set_cons_succ])
    | (refine opVal rfl (ex_bld2v rfl rfl rfl HV.out.2.1 HV.out.2.2.1) ?_; simp only [Act.put, List.setIfInBounds_toArray, List.set_cons_zero, List.set_cons_succ]; rw [← HX1.out])
    | (refine opVal rfl (ex_bld2v rfl rfl rfl HV.out.2.2.1 HV.out.2.1) ?_; simp only [Act.put, List.setIfInBounds_toArray, List.set_cons_zero, List.set_cons_succ]; rw [← HX2.out])
    | (refine opVal rfl (ex_bld2v rfl rfl rfl HV.out.2.1 HV.out.2.1) ?_; simp only [Act.put, List.setIfInBounds_toArray, List.set_cons_zero, List.set_cons_succ]; rw [← HX3.out])
    | (refine opVal rfl (ex_bld2v rfl rfl rfl HV.out.2.1 HV.out.2.2.2) ?_; simp only [Act.put, List.setIfInBounds_toArray, List.set_cons_zero, List.set_cons_succ]; rw [← HX4.out])
    | (refine opVal rfl (ex_bld2v rfl rfl rfl HV.out.2.2.2 HV.out.2.1) ?_; simp only [Act.put, List.setIfInBounds_toArray, List.set_cons_zero, List.set_cons_succ]; rw [← HX5.out]))
  refine wpVal (ex_bsl (u0 := VA ++ VB) (u1 := VB ++ VA) (u2 := VA ++ VA) (u3 := VA ++ VD) (u4 := VD ++ VA) (by rfl) (by exact HX1.out) (by exact HX2.out) (by exact HX3.out) (by exact HX4.out) (by exact HX5.out) HV.out.1.1) ?_
  rw [← HPS.out]
  go_wp2_with fail
  rw [HQ.out.1] at hA5
  rw [HQ.out.2.1] at hB5
  clear HX hw5 hw6 e5 f5 hgd qi qt
  have hV := At.new w6 31 PS.flatten.toArray
  replace hV : At (w6.alloc (.cells PS.flatten.toArray 31)) w6.heap.size PS.flatten := hV
  have hA6 := hA5.alloc (.cells PS.flatten.toArray 31)
  have hB6 := hB5.alloc (.cells PS.flatten.toArray 31)
  have hC6 := hC5.alloc (.cells PS.flatten.toArray 31)
  have hb6 := balloc hb5 (.cells PS.flatten.toArray 31)
  clear HV HPS hA5 hB5 hC5 hb5 hst
  generalize w6.alloc _ = w7 at *
  generalize w6.heap.size = gl at *
  go_loopw [38] (fun z38 wr => ∃ k : Nat, k ≤ 5 ∧ z38 = .int .i64 (k : Int) ∧ At wr gA (bv a) ∧ At wr gB (bv b) ∧ At wr gC (bv c) ∧ At wr gl PS.flatten ∧ Below w.heap.size w wr) (fun z38 _ => 5 - (intOf z38).toNat)
  case atStart => exact ⟨0, by omega, rfl, hA6, hB6, hC6, hV, hb6⟩
  case round =>
    clear hA6 hB6 hC6 hV hb6
    obtain ⟨k, hk, rfl, hA, hB, hC, hV, hbel⟩ := hrel
    by_cases hlt : k < 5
    · obtain ⟨u, hu⟩ : ∃ u, PS[k]? = some u := ⟨_, List.getElem?_eq_getElem (by rw [HP.out.1]; exact hlt)⟩
      obtain ⟨p, q, hpl, hql, rfl⟩ := HP.out.2.2 u (List.mem_of_getElem? hu)
      have hul : (bv p ++ bv q).length = 64 := by rw [List.length_append, bv_len, bv_len, hpl, hql]
      have hcell : ∀ (j : Nat) (v : Value), (bv p ++ bv q)[j]? = some v → wr.cell? ⟨gl, k * 64 + j, none⟩ = some v := fun j v hv => hV.c (k * 64 + j) (by
        rw [Nat.mul_comm, flat_get 64 PS k j HP.out.2.1 hu (by rw [← hul]; exact (List.getElem?_eq_some_iff.1 hv).1)]
        exact hv)
      have HU := Lib.hid (And.intro hpl (And.intro hql (And.intro hul hcell)))
      have hk0 : (0 : Int) ≤ (k : Int) := by omega
      have hk5 : (k : Int) < 5 := by omega
      clear hpl hql hul hcell hu
      have hP0 := At.new wr 31 (bv z64b).toArray
      have hP1 := hP0.putL (bv p ++ bv q) (by rw [HU.out.2.2.1]; simp [z64b, bv])
      have hA1 := (hA.alloc (.cells (bv z64b).toArray 31)).putL_other (bv p ++ bv q) 0 (g' := wr.heap.size) _ (by have := hA.1; omega)
      have hB1 := (hB.alloc (.cells (bv z64b).toArray 31)).putL_other (bv p ++ bv q) 0 (g' := wr.heap.size) _ (by have := hB.1; omega)
      have hC1 := (hC.alloc (.cells (bv z64b).toArray 31)).putL_other (bv p ++ bv q) 0 (g' := wr.heap.size) _ (by have := hC.1; omega)
      have hV1 := (hV.alloc (.cells (bv z64b).toArray 31)).putL_other (bv p ++ bv q) 0 (g' := wr.heap.size) _ (by have := hV.1; omega)
      have hb1 := below_putL (bv p ++ bv q) 0 (balloc hbel (.cells (bv z64b).toArray 31)) hbel.size
      have HX := Lib.hid hP0
      have H64 := Lib.hid (show (bv z64b).toArray.toList.length = 64 by simp [z64b, bv])
      have H1 := Lib.hid (show ∀ u ∈ bv p ++ bv q, u.oneCell' = true from fun u hu => (List.mem_append.1 hu).elim (bv_one p u) (bv_one q u))
      have HU2 := Lib.hid (And.intro (show (bv p).length = 32 by rw [bv_len, HU.out.1]) (show (bv q).length = 32 by rw [bv_len, HU.out.2.1]))
      clear hP0 hA hB hC hV hbel
      generalize hQ : bv p ++ bv q = Q at *
      go_wp2_with (first
        | (refine opVal rfl (ex_ld2i rfl rfl HU.out.2.2.2 HU.out.2.2.1) ?_; simp only [Act.put, List.setIfInBounds_toArray, List.set_cons_zero, List.set_cons_succ])
        | (refine opVal rfl (ex_al2i rfl) ?_; simp only [Act.put, List.setIfInBounds_toArray, List.set_cons_zero, List.set_cons_succ])
        | (refine opSkip rfl (ex_st2i rfl rfl rfl HX.out H64.out HU.out.2.2.1 H1.out) ?_))
      clear HX H64 H1
      generalize putL _ wr.heap.size 0 Q = wz at *
      generalize wr.heap.size = gp at *
      subst hQ
      have hkb : LsS gp p q gA gB gC gl a b c PS.flatten w wz.drew := ⟨hP1, hA1, hB1, hC1, hV1, hb1.drew⟩
      have HLP := Lib.hid (And.intro HU.out.1 HU.out.2.1)
      clear hP1 hA1 hB1 hC1 hV1 hb1 HU
      obtain ⟨t, ht⟩ : ∃ t, t = ltB p q := ⟨_, rfl⟩
      have HT := Lib.hid ht
      clear ht
      refine bstartS (LsS gp p q gA gB gC gl a b c PS.flatten w) (by kernel_rfl) ?_
      refine btakeS 0 (oi := _) (v := ?_) (by simp only [List.getElem?_toArray, List.getElem?_cons_zero]; rfl) (by kernel_rfl) (by exact fun _ _ _ h => h) (by first | assumption | exact KB.refl _) (.inl ⟨by rfl, fun W hW => ?_⟩) ?_; rotate_left
      · (go_simp; first | done | with_reducible rfl)
      try simp only [Act.put, List.setIfInBounds_toArray, List.set_cons_zero, List.set_cons_succ]
      refine btakeS 1 (oi := _) (v := ?_) (by simp only [List.getElem?_toArray, List.getElem?_cons_succ, List.getElem?_cons_zero]; rfl) (by kernel_rfl) (by exact fun _ _ _ h => h) (by first | assumption | exact KB.refl _) (.inl ⟨by rfl, fun W hW => ?_⟩) ?_; rotate_left
      · refine Eq.trans (ex_ld32o (by rfl) (by rfl) (At.fst hW.1) HU2.out.1) ?_
        with_reducible rfl
      try simp only [Act.put, List.setIfInBounds_toArray, List.set_cons_zero, List.set_cons_succ]
      refine btakeS 2 (oi := _) (v := ?_) (by simp only [List.getElem?_toArray, List.getElem?_cons_succ, List.getElem?_cons_zero]; rfl) (by kernel_rfl) (by exact fun _ _ _ h => h) (by first | assumption | exact KB.refl _) (.inl ⟨by rfl, fun W hW => ?_⟩) ?_; rotate_left
      · (go_simp; first | done | with_reducible rfl)
      try simp only [Act.put, List.setIfInBounds_toArray, List.set_cons_zero, List.set_cons_succ]
      refine btakeS 3 (oi := _) (v := ?_) (by simp only [List.getElem?_toArray, List.getElem?_cons_succ, List.getElem?_cons_zero]; rfl) (by kernel_rfl) (by exact fun _ _ _ h => h) (by first | assumption | exact KB.refl _) (.inl ⟨by rfl, fun W hW => ?_⟩) ?_; rotate_left
      · refine Eq.trans (ex_ld32o (by rfl) (by rfl) (At.snd hW.1 HU2.out.1) HU2.out.2) ?_
        with_reducible rfl
      try simp only [Act.put, List.setIfInBounds_toArray, List.set_cons_zero, List.set_cons_succ]
      refine btakeS 5 (oi := _) (v := ?_) (by simp only [List.getElem?_toArray, List.getElem?_cons_succ, List.getElem?_cons_zero]; rfl) (by kernel_rfl) (by exact fun _ _ _ h => h) (by first | assumption | exact KB.refl _) (.inl ⟨by rfl, fun W hW => ?_⟩) ?_; rotate_left
      · (go_simp; first | done | with_reducible rfl)
      try simp only [Act.put, List.setIfInBounds_toArray, List.set_cons_zero, List.set_cons_succ]
      refine btakeS 6 (oi := _) (v := ?_) (by simp only [List.getElem?_toArray, List.getElem?_cons_succ, List.getElem?_cons_zero]; rfl) (by kernel_rfl) (by exact fun _ _ _ h => h) (by first | assumption | exact KB.refl _) (.inl ⟨by rfl, fun W hW => ?_⟩) ?_; rotate_left
      · refine Eq.trans (ex_ld32o (by rfl) (by rfl) (At.fst hW.1) HU2.out.1) ?_
        with_reducible rfl
      try simp only [Act.put, List.setIfInBounds_toArray, List.set_cons_zero, List.set_cons_succ]
      refine btakeS 7 (oi := _) (v := ?_) (by simp only [List.getElem?_toArray, List.getElem?_cons_succ, List.getElem?_cons_zero]; rfl) (by kernel_rfl) (by exact fun _ _ _ h => h) (by first | assumption | exact KB.refl _) (.inl ⟨by rfl, fun W hW => ?_⟩) ?_; rotate_left
      · (go_simp; first | done | with_reducible rfl)
      try simp only [Act.put, List.setIfInBounds_toArray, List.set_cons_zero, List.set_cons_succ]
      refine btakeS 8 (oi := _) (v := ?_) (by simp only [List.getElem?_toArray, List.getElem?_cons_succ, List.getElem?_cons_zero]; rfl) (by kernel_rfl) (by exact fun _ _ _ h => h) (by first | assumption | exact KB.refl _) (.inl ⟨by rfl, fun W hW => ?_⟩) ?_; rotate_left
      · refine Eq.trans (ex_ld32o (by rfl) (by rfl) (At.snd hW.1 HU2.out.1) HU2.out.2) ?_
        with_reducible rfl
      try simp only [Act.put, List.setIfInBounds_toArray, List.set_cons_zero, List.set_cons_succ]
      -- 4: newsreel/sha.Less
      refine bopS 4 (o := _) (by simp only [List.getElem?_toArray, List.getElem?_cons_succ, List.getElem?_cons_zero]; rfl) (by kernel_rfl) (by rfl) (fun K hK => ?_)
      go_simp
      refine (Less_any _ p q HLP.out.1 HLP.out.2).mono ?_
      rintro e w5 ⟨rfl, hb9⟩
      rw [← HT.out]
      replace hkb := hkb.below hb9
      clear hb9
      refine hK.out _ _ hkb ?_; clear hK K
      try simp only [Act.put, List.setIfInBounds_toArray, List.set_cons_zero, List.set_cons_succ]
      -- 9: newsreel/newsreelref1.IdLess
      refine bopS 9 (o := _) (by simp only [List.getElem?_toArray, List.getElem?_cons_succ, List.getElem?_cons_zero]; rfl) (by kernel_rfl) (by rfl) (fun K hK => ?_)
      go_simp
      refine (IdLess_any _ p q HLP.out.1 HLP.out.2).mono ?_
      rintro e w5 ⟨rfl, hb9⟩
      rw [← HT.out]
      replace hkb := hkb.below hb9
      clear hb9
      refine hK.out _ _ hkb ?_; clear hK K
      try simp only [Act.put, List.setIfInBounds_toArray, List.set_cons_zero, List.set_cons_succ]
      refine btakeS 10 (oi := _) (v := ?_) (by simp only [List.getElem?_toArray, List.getElem?_cons_succ, List.getElem?_cons_zero]; rfl) (by kernel_rfl) (by exact fun _ _ _ h => h) (by first | assumption | exact KB.refl _) (.inl ⟨by rfl, fun W hW => ?_⟩) ?_; rotate_left
      · (go_simp; first | done | with_reducible rfl)
      try simp only [Act.put, List.setIfInBounds_toArray, List.set_cons_zero, List.set_cons_succ]
      refine btakeS 11 (oi := _) (v := ?_) (by simp only [List.getElem?_toArray, List.getElem?_cons_succ, List.getElem?_cons_zero]; rfl) (by kernel_rfl) (by exact fun _ _ _ h => h) (by first | assumption | exact KB.refl _) (.inl ⟨by rfl, fun W hW => ?_⟩) ?_; rotate_left
      · (go_simp; first | done | with_reducible rfl)
      try simp only [Act.put, List.setIfInBounds_toArray, List.set_cons_zero, List.set_cons_succ]
      refine btakeS 12 (oi := _) (v := ?_) (by simp only [List.getElem?_toArray, List.getElem?_cons_succ, List.getElem?_cons_zero]; rfl) (by kernel_rfl) (by exact fun _ _ _ h => h) (by first | assumption | exact KB.refl _) (.inl ⟨by rfl, fun W hW => ?_⟩) ?_; rotate_left
      · (go_simp; first | done | with_reducible rfl)
      try simp only [Act.put, List.setIfInBounds_toArray, List.set_cons_zero, List.set_cons_succ]
      refine btakeS 13 (oi := _) (v := ?_) (by simp only [List.getElem?_toArray, List.getElem?_cons_succ, List.getElem?_cons_zero]; rfl) (by kernel_rfl) (by exact fun _ _ _ h => h) (by first | assumption | exact KB.refl _) (.inl ⟨by rfl, fun W hW => ?_⟩) ?_; rotate_left
      · refine Eq.trans (ex_ld32o (by rfl) (by rfl) (At.fst hW.1) HU2.out.1) ?_
        with_reducible rfl
      try simp only [Act.put, List.setIfInBounds_toArray, List.set_cons_zero, List.set_cons_succ]
      refine btakeS 14 (oi := _) (v := ?_) (by simp only [List.getElem?_toArray, List.getElem?_cons_succ, List.getElem?_cons_zero]; rfl) (by kernel_rfl) (by exact fun _ _ _ h => h) (by first | assumption | exact KB.refl _) (.inl ⟨by rfl, fun W hW => ?_⟩) ?_; rotate_left
      · (go_simp; first | done | with_reducible rfl)
      try simp only [Act.put, List.setIfInBounds_toArray, List.set_cons_zero, List.set_cons_succ]
      refine btakeS 15 (oi := _) (v := ?_) (by simp only [List.getElem?_toArray, List.getElem?_cons_succ, List.getElem?_cons_zero]; rfl) (by kernel_rfl) (by exact fun _ _ _ h => h) (by first | assumption | exact KB.refl _) (.inl ⟨by rfl, fun W hW => ?_⟩) ?_; rotate_left
      · refine Eq.trans (ex_ld32o (by rfl) (by rfl) (At.snd hW.1 HU2.out.1) HU2.out.2) ?_
        with_reducible rfl
      try simp only [Act.put, List.setIfInBounds_toArray, List.set_cons_zero, List.set_cons_succ]
      refine btakeS 17 (oi := _) (v := ?_) (by simp only [List.getElem?_toArray, List.getElem?_cons_succ, List.getElem?_cons_zero]; rfl) (by kernel_rfl) (by exact fun _ _ _ h => h) (by first | assumption | exact KB.refl _) (.inl ⟨by rfl, fun W hW => ?_⟩) ?_; rotate_left
      · (go_simp; first | done | with_reducible rfl)
      try simp only [Act.put, List.setIfInBounds_toArray, List.set_cons_zero, List.set_cons_succ]
      refine btakeS 18 (oi := _) (v := ?_) (by simp only [List.getElem?_toArray, List.getElem?_cons_succ, List.getElem?_cons_zero]; rfl) (by kernel_rfl) (by exact fun _ _ _ h => h) (by first | assumption | exact KB.refl _) (.inl ⟨by rfl, fun W hW => ?_⟩) ?_; rotate_left
      · refine Eq.trans (ex_ld32o (by rfl) (by rfl) (At.fst hW.1) HU2.out.1) ?_
        with_reducible rfl
      try simp only [Act.put, List.setIfInBounds_toArray, List.set_cons_zero, List.set_cons_succ]
      refine btakeS 20 (oi := _) (v := ?_) (by simp only [List.getElem?_toArray, List.getElem?_cons_succ, List.getElem?_cons_zero]; rfl) (by kernel_rfl) (by exact fun _ _ _ h => h) (by first | assumption | exact KB.refl _) (.inl ⟨by rfl, fun W hW => ?_⟩) ?_; rotate_left
      · (go_simp; first | done | with_reducible rfl)
      try simp only [Act.put, List.setIfInBounds_toArray, List.set_cons_zero, List.set_cons_succ]
      refine btakeS 21 (oi := _) (v := ?_) (by simp only [List.getElem?_toArray, List.getElem?_cons_succ, List.getElem?_cons_zero]; rfl) (by kernel_rfl) (by exact fun _ _ _ h => h) (by first | assumption | exact KB.refl _) (.inl ⟨by rfl, fun W hW => ?_⟩) ?_; rotate_left
      · refine Eq.trans (ex_ld32o (by rfl) (by rfl) (At.snd hW.1 HU2.out.1) HU2.out.2) ?_
        with_reducible rfl
      try simp only [Act.put, List.setIfInBounds_toArray, List.set_cons_zero, List.set_cons_succ]
      -- 16: newsreel/sha.Less
      refine bopS 16 (o := _) (by simp only [List.getElem?_toArray, List.getElem?_cons_succ, List.getElem?_cons_zero]; rfl) (by kernel_rfl) (by rfl) (fun K hK => ?_)
      go_simp
      refine (Less_any _ p q HLP.out.1 HLP.out.2).mono ?_
      rintro e w5 ⟨rfl, hb9⟩
      rw [← HT.out]
      replace hkb := hkb.below hb9
      clear hb9
      refine hK.out _ _ hkb ?_; clear hK K
      try simp only [Act.put, List.setIfInBounds_toArray, List.set_cons_zero, List.set_cons_succ]
      -- 19: newsreel/sha.Text
      refine bopS 19 (o := _) (by simp only [List.getElem?_toArray, List.getElem?_cons_succ, List.getElem?_cons_zero]; rfl) (by kernel_rfl) (by rfl) (fun K hK => ?_)
      go_simp
      refine (Text_any _ p HLP.out.1).mono ?_
      rintro e w5 ⟨rfl, hb9⟩
      replace hkb := hkb.below hb9
      clear hb9
      refine hK.out _ _ hkb ?_; clear hK K
      try simp only [Act.put, List.setIfInBounds_toArray, List.set_cons_zero, List.set_cons_succ]
      -- 22: newsreel/sha.Text
      refine bopS 22 (o := _) (by simp only [List.getElem?_toArray, List.getElem?_cons_succ, List.getElem?_cons_zero]; rfl) (by kernel_rfl) (by rfl) (fun K hK => ?_)
      go_simp
      refine (Text_any _ q HLP.out.2).mono ?_
      rintro e w5 ⟨rfl, hb9⟩
      replace hkb := hkb.below hb9
      clear hb9
      refine hK.out _ _ hkb ?_; clear hK K
      try simp only [Act.put, List.setIfInBounds_toArray, List.set_cons_zero, List.set_cons_succ]
      refine btakeS 23 (oi := _) (v := ?_) (by simp only [List.getElem?_toArray, List.getElem?_cons_succ, List.getElem?_cons_zero]; rfl) (by kernel_rfl) (by exact fun _ _ _ h => h) (by first | assumption | exact KB.refl _) (.inl ⟨by rfl, fun W hW => ?_⟩) ?_; rotate_left
      · refine Eq.trans (ex_lss (by rfl) (by rfl) (by rfl) (HLP.out.1.trans HLP.out.2.symm)) ?_
        rw [← HT.out]
      try simp only [Act.put, List.setIfInBounds_toArray, List.set_cons_zero, List.set_cons_succ]
      refine btakeS 24 (oi := _) (v := ?_) (by simp only [List.getElem?_toArray, List.getElem?_cons_succ, List.getElem?_cons_zero]; rfl) (by kernel_rfl) (by exact fun _ _ _ h => h) (by first | assumption | exact KB.refl _) (.inl ⟨by rfl, fun W hW => ?_⟩) ?_; rotate_left
      · (go_simp; first | done | with_reducible rfl)
      try simp only [Act.put, List.setIfInBounds_toArray, List.set_cons_zero, List.set_cons_succ]
      refine btakeS 25 (oi := _) (v := ?_) (by simp only [List.getElem?_toArray, List.getElem?_cons_succ, List.getElem?_cons_zero]; rfl) (by kernel_rfl) (by exact fun _ _ _ h => h) (by first | assumption | exact KB.refl _) (.inl ⟨by rfl, fun W hW => ?_⟩) ?_; rotate_left
      · (go_simp; first | done | with_reducible rfl)
      try simp only [Act.put, List.setIfInBounds_toArray, List.set_cons_zero, List.set_cons_succ]
      refine bdoneS (by kernel_rfl) ?_
      clear HT
      obtain ⟨_, hA, hB, hC, hV, hbel⟩ := hkb
      go_wp2_with fail
      go_roundw
      case rel => exact ⟨k + 1, by omega, by go_num, hA, hB, hC, hV, hbel⟩
      case measure => simp [intOf] <;> omega
    · obtain rfl : k = 5 := by omega
      rw [show (((5 : Nat)) : Int) = (5 : Int) from rfl]
      have htr := ltB_trans a b c (HL.out.1.trans HL.out.2.1.symm) (HL.out.2.1.trans HL.out.2.2.symm)
      have hl1 := fun w => Less_any w a b HL.out.1 HL.out.2.1
      have hl2 := fun w => Less_any w b c HL.out.2.1 HL.out.2.2
      have hl3 := fun w => Less_any w a c HL.out.1 HL.out.2.2
      generalize ltB a b = t1 at *
      generalize ltB b c = t2 at *
      generalize ltB a c = t3 at *
      clear hV HQ
      go_wp2_with (first
        | (refine opVal rfl (ex_ld32 rfl rfl hA HB.out.1) ?_; simp only [Act.put, List.setIfInBounds_toArray, List.set_cons_zero, List.set_cons_succ])
        | (refine opVal rfl (ex_ld32 rfl rfl hB HB.out.2.1) ?_; simp only [Act.put, List.setIfInBounds_toArray, List.set_cons_zero, List.set_cons_succ]))
      refine (hl1 wr).mono ?_
      rintro e w8 ⟨rfl, hb8⟩
      have hA8 := hA.below hb8
      have hB8 := hB.below hb8
      have hC8 := hC.below hb8
      have hb8' := hbel.trans (hb8.mono hbel.size)
      clear hl1 hA hB hC hbel hb8
      cases t1 with
      | false =>
        go_wp2_with fail
        go_ret
        exact ⟨rfl, hb8'⟩
      | true =>
        go_wp2_with (first
          | (refine opValG rfl (ex_ld32 rfl rfl hB8 HB.out.2.1) ?_; simp only [Act.put, List.setIfInBounds_toArray, List.set_cons_zero, List.set_cons_succ])
          | (refine opValG rfl (ex_ld32 rfl rfl hC8 HB.out.2.2) ?_; simp only [Act.put, List.setIfInBounds_toArray, List.set_cons_zero, List.set_cons_succ]))
        refine (hl2 w8).mono ?_
        rintro e w9 ⟨rfl, hb9⟩
        have hA9 := hA8.below hb9
        have hC9 := hC8.below hb9
        have hb9' := hb8'.trans (hb9.mono hb8'.size)
        clear hl2 hA8 hB8 hC8 hb8' hb9
        cases t2 with
        | false =>
          go_wp2_with fail
          go_ret
          exact ⟨rfl, hb9'⟩
        | true =>
          obtain rfl : t3 = true := by simpa using htr
          go_wp2_with (first
            | (refine opValG rfl (ex_ld32 rfl rfl hA9 HB.out.1) ?_; simp only [Act.put, List.setIfInBounds_toArray, List.set_cons_zero, List.set_cons_succ])
            | (refine opValG rfl (ex_ld32 rfl rfl hC9 HB.out.2.2) ?_; simp only [Act.put, List.setIfInBounds_toArray, List.set_cons_zero, List.set_cons_succ]))
          refine (hl3 w9).mono ?_
          rintro e w10 ⟨rfl, hb10⟩
          have hb10' := hb9'.trans (hb10.mono hb9'.size)
          clear hl3 hA9 hC9 hb9' hb10
          go_wp2_with fail
          go_ret
          exact ⟨rfl, hb10'⟩
end Go.Proofs.Ytjbelkpmbbkhgaa

