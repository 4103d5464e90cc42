/- Vectors: the document's VecJoin and VecMinus. -/
import Derived.Test.YtaflikgdlkaefaaGreatA05
import Derived.Test.YtaflikgdlkaefaaGreatA06
import Derived.Test.YtaflikgdlkaefaaGreatA07
import Derived.Test.YtaflikgdlkaefaaGreatA11
import Derived.Test.YtaflikgdlkaefaaGreatA18
import Derived.Test.YtaflikgdlkaefaaGreatA19
open List (getElem?_toArray getElem?_cons_succ getElem?_cons_zero)
namespace Go.Proofs.YtaflikgdlkaefaaGreat
open Go.RowKit Go.Maps Go.Proofs.YtaflikgdlkaefaaGreat.Pl Go.Proofs.YtaflikgdlkaefaaGreat.Sp Go.Proofs.YtaflikgdlkaefaaGreat.Ve
set_option maxRecDepth 20000

theorem vecOf_nil' : vecOf (fun _ => []) = [] := by kernel_rfl
set_option maxRecDepth 100000 in
set_option maxHeartbeats 6400000 in
theorem RVJoin_own (w : World) (A A' : Option Addr) (n n' c c' : Nat) (R R' : List RA) (V V' : VL) (hv : VS w A n c R V) (hv' : VS w A' n' c' R' V') (hl : n ≤ 1000000) (hl' : n' ≤ 1000000) (hm : Lim 10000 V) (hm' : Lim 10000 V') :
  Calls Tryz.prog 22 #[.agg #[.slice A n c], .agg #[.slice A' n' c']] w (PAns w (joinV V V')) := by
 obtain ⟨p, hp⟩ : ∃ p, rightV V = p := ⟨_, rfl⟩
 obtain ⟨q, hq⟩ : ∃ q, rightV V' = q := ⟨_, rfl⟩
 have HP := Lib.hid (And.intro hp hq)
 have hb0 : Below w.heap.size w ((((w.alloc (.cells #[.slice A n c] 24)).alloc (.cells #[(.slice A' n' c')] 24)).alloc (.cells #[.slice none 0 0] 24)).alloc (.cells (XA.us z64S).toArray 70)) := balloc (balloc (balloc (balloc (Below.refl _ _) _) _) _) _
 have a0 : At ((((w.alloc (.cells #[.slice A n c] 24)).alloc (.cells #[(.slice A' n' c')] 24)).alloc (.cells #[.slice none 0 0] 24)).alloc (.cells (XA.us z64S).toArray 70)) w.heap.size [.slice A n c] := (((At.new w 24 #[.slice A n c]).alloc _).alloc _).alloc _
 have a1 : At ((((w.alloc (.cells #[.slice A n c] 24)).alloc (.cells #[(.slice A' n' c')] 24)).alloc (.cells #[.slice none 0 0] 24)).alloc (.cells (XA.us z64S).toArray 70)) (w.heap.size + 1) [.slice A' n' c'] := by
  have := ((At.new (w.alloc (.cells #[.slice A n c] 24)) 24 #[.slice A' n' c']).alloc (.cells #[.slice none 0 0] 24)).alloc (.cells (XA.us z64S).toArray 70)
  rw [World.size_alloc] at this
  exact this
 have a2 : At ((((w.alloc (.cells #[.slice A n c] 24)).alloc (.cells #[(.slice A' n' c')] 24)).alloc (.cells #[.slice none 0 0] 24)).alloc (.cells (XA.us z64S).toArray 70)) (w.heap.size + 2) [.slice none 0 0] := by
  have := (At.new ((w.alloc (.cells #[.slice A n c] 24)).alloc (.cells #[(.slice A' n' c')] 24)) 24 #[.slice none 0 0]).alloc (.cells (XA.us z64S).toArray 70)
  rw [World.size_alloc, World.size_alloc] at this
  exact this
 have a3 : Ar ((((w.alloc (.cells #[.slice A n c] 24)).alloc (.cells #[(.slice A' n' c')] 24)).alloc (.cells #[.slice none 0 0] 24)).alloc (.cells (XA.us z64S).toArray 70)) (w.heap.size + 3) (XA.us z64S) := by
  have := Ar.new (((w.alloc (.cells #[.slice A n c] 24)).alloc (.cells #[(.slice A' n' c')] 24)).alloc (.cells #[.slice none 0 0] 24)) (XA.us z64S)
  rw [World.size_alloc, World.size_alloc, World.size_alloc] at this
  exact this
 have hsz : ((((w.alloc (.cells #[.slice A n c] 24)).alloc (.cells #[(.slice A' n' c')] 24)).alloc (.cells #[.slice none 0 0] 24)).alloc (.cells (XA.us z64S).toArray 70)).heap.size = w.heap.size + 4 := by simp
 have hxa : XA ((((w.alloc (.cells #[.slice A n c] 24)).alloc (.cells #[(.slice A' n' c')] 24)).alloc (.cells #[.slice none 0 0] 24)).alloc (.cells (XA.us z64S).toArray 70)) z64S (fun _ => []) := XA.zero _
 have hzz := zeroA
 generalize z64S = Z at *
 have HV := Lib.hid (And.intro hv (And.intro hv' (And.intro hm hm')))
 clear hv hv' hm hm' hp hq
 go_enter Tryz.func22, Tryz.ntmps22
 go_wp2_with (refine opVal rfl (ex_alT hzz rfl) ?_)
 generalize ((((w.alloc (.cells #[.slice A n c] 24)).alloc (.cells #[(.slice A' n' c')] 24)).alloc (.cells #[.slice none 0 0] 24)).alloc (.cells (XA.us Z).toArray 70)) = W at *
 go_loopw [6] (fun x6 wr => ∃ (k : Nat) (X : List RSl), k ≤ 64 ∧ x6 = .int .i64 (k : Int) ∧ (k = 0 ∨ (p = true ∧ q = true)) ∧ XA wr X (fun i => if i < (k : Int) then joinS (partV V i) (partV V' i) else []) ∧ Ar wr (w.heap.size + 3) (XA.us X) ∧ At wr w.heap.size [.slice A n c] ∧ At wr (w.heap.size + 1) [.slice A' n' c'] ∧ At wr (w.heap.size + 2) [.slice none 0 0] ∧ w.heap.size + 4 ≤ wr.heap.size ∧ Below w.heap.size w wr) (fun x6 _ => 64 - (intOf x6).toNat)
 case atStart => exact ⟨0, Z, by omega, rfl, .inl rfl, ⟨hxa.1, fun i hi => by have := hxa.2 i hi; (try dsimp only); rw [if_neg (by omega)]; exact this⟩, a3, a0, a1, a2, by omega, hb0⟩
 case round =>
  clear hxa a0 a1 a2 a3 hb0 hzz hsz
  obtain ⟨k, X, hk, rfl, hkr, hX, hA, h0, h1, h2, hs4, hbel⟩ := hrel
  have y0 := h0.c 0 rfl
  have HB := Lib.hid (And.intro hX (And.intro hA (And.intro h0 (And.intro h1 (And.intro h2 hbel)))))
  clear hX hA h0 h1 h2
  by_cases hlt : k < 64
  ·have hd1 : decide ((k : Int) < 64) = true := by rw [decide_eq_true_eq]; omega
   go_wp2_with fail
   refine (RVRight_any wr A n c R V (HV.out.1.below HB.out.2.2.2.2.2) hl (HV.out.2.2.1.mono (by omega))).mono ?_
   rintro e w1 ⟨rfl, hb1⟩
   rw [HP.out.1]
   have hs1 : w.heap.size + 4 ≤ w1.heap.size := Nat.le_trans hs4 hb1.size
   have HB1 := Lib.hid (And.intro (HB.out.1.below hb1) (And.intro (HB.out.2.1.below hb1) (And.intro (HB.out.2.2.1.below hb1) (And.intro (HB.out.2.2.2.1.below hb1) (And.intro (HB.out.2.2.2.2.1.below hb1) (HB.out.2.2.2.2.2.trans (hb1.mono HB.out.2.2.2.2.2.size)))))))
   clear y0 HB hb1 hbel hs4
   cases p with
   | false =>
    obtain rfl : k = 0 := by rcases hkr with h | ⟨h, _⟩; exact h; exact absurd h (by simp)
    have HF := Lib.hid (show joinV V V' = vecOf (fun _ => []) by rw [vecOf_nil', joinV, if_neg (by rw [HP.out.1]; simp)])
    clear hkr
    have HXA := Lib.hid (show XA w1 X (fun _ => []) from ⟨HB1.out.1.1, fun i hi => by have := HB1.out.1.2 i hi; (try dsimp only at this); rw [if_neg (by omega)] at this; exact this⟩)
    have H02 := Lib.hid (HB1.out.2.2.2.2.1)
    have HAT := Lib.hid (HB1.out.2.1.at_)
    have HBEL := Lib.hid (HB1.out.2.2.2.2.2)
    have hsw : w.heap.size + 4 ≤ w1.heap.size := hs1
    have HPT := Lib.hid (parts_own w1 X _ HXA.out (fun r => by simp))
    have hXL : (XA.us X).length = 64 := by rw [XA.us, List.length_map]; exact HXA.out.1
    go_wp2_with (refine opVal rfl (ex_ldT aggA sizeA rfl rfl HAT.out hXL) ?_)
    refine HPT.out.mono ?_
    rintro e u1 ⟨A1, c1, R1, rfl, hv1, hR1, hb1⟩
    have h01 := H02.out.below hb1
    have q0 := h01.c 0 rfl
    have q1 := h01.f 0 rfl
    have hbz := HBEL.out.trans (hb1.mono HBEL.out.size)
    have hb3 : Below w.heap.size w (u1.setCell ⟨w.heap.size + 2, 0, none⟩ (.slice A1 R1.length c1)) := hbz.setCell (show w.heap.size ≤ w.heap.size + 2 by omega) _
    have HZ := Lib.hid (And.intro (hv1.kept (grownS u1 (w.heap.size + 2) 0 (.slice A1 R1.length c1)) (by omega)) (And.intro (h01.set 0 (.slice A1 R1.length c1) (by simp)) hb3))
    clear hv1 h01 hb3
    go_wp2_with fail
    exact bodyPost_ret (results_vec rfl _ rfl HZ.out.2.1) rfl ⟨A1, c1, R1, rfl, HZ.out.1.lower (by omega), hR1.trans HF.out.symm, HZ.out.2.2⟩
   | true =>
    have y1 := HB1.out.2.2.2.1.c 0 rfl
    go_wp2_with fail
    refine (RVRight_any w1 A' n' c' R' V' (HV.out.2.1.below HB1.out.2.2.2.2.2) hl' (HV.out.2.2.2.mono (by omega))).mono ?_
    rintro e w2 ⟨rfl, hb2⟩
    rw [HP.out.2]
    have hs2 : w.heap.size + 4 ≤ w2.heap.size := Nat.le_trans hs1 hb2.size
    have HB2 := Lib.hid (And.intro (HB1.out.1.below hb2) (And.intro (HB1.out.2.1.below hb2) (And.intro (HB1.out.2.2.1.below hb2) (And.intro (HB1.out.2.2.2.1.below hb2) (And.intro (HB1.out.2.2.2.2.1.below hb2) (HB1.out.2.2.2.2.2.trans (hb2.mono HB1.out.2.2.2.2.2.size)))))))
    clear y1 HB1 hb2 hs1
    cases q with
    | false =>
     obtain rfl : k = 0 := by rcases hkr with h | ⟨_, h⟩; exact h; exact absurd h (by simp)
     have HF := Lib.hid (show joinV V V' = vecOf (fun _ => []) by rw [vecOf_nil', joinV, if_neg (by rw [HP.out.2]; simp)])
     clear hkr
     have HXA := Lib.hid (show XA w2 X (fun _ => []) from ⟨HB2.out.1.1, fun i hi => by have := HB2.out.1.2 i hi; (try dsimp only at this); rw [if_neg (by omega)] at this; exact this⟩)
     have H02 := Lib.hid (HB2.out.2.2.2.2.1)
     have HAT := Lib.hid (HB2.out.2.1.at_)
     have HBEL := Lib.hid (HB2.out.2.2.2.2.2)
     have hsw : w.heap.size + 4 ≤ w2.heap.size := hs2
     have HPT := Lib.hid (parts_own w2 X _ HXA.out (fun r => by simp))
     have hXL : (XA.us X).length = 64 := by rw [XA.us, List.length_map]; exact HXA.out.1
     go_wp2_with (refine opVal rfl (ex_ldT aggA sizeA rfl rfl HAT.out hXL) ?_)
     refine HPT.out.mono ?_
     rintro e u1 ⟨A1, c1, R1, rfl, hv1, hR1, hb1⟩
     have h01 := H02.out.below hb1
     have q0 := h01.c 0 rfl
     have q1 := h01.f 0 rfl
     have hbz := HBEL.out.trans (hb1.mono HBEL.out.size)
     have hb3 : Below w.heap.size w (u1.setCell ⟨w.heap.size + 2, 0, none⟩ (.slice A1 R1.length c1)) := hbz.setCell (show w.heap.size ≤ w.heap.size + 2 by omega) _
     have HZ := Lib.hid (And.intro (hv1.kept (grownS u1 (w.heap.size + 2) 0 (.slice A1 R1.length c1)) (by omega)) (And.intro (h01.set 0 (.slice A1 R1.length c1) (by simp)) hb3))
     clear hv1 h01 hb3
     go_wp2_with fail
     exact bodyPost_ret (results_vec rfl _ rfl HZ.out.2.1) rfl ⟨A1, c1, R1, rfl, HZ.out.1.lower (by omega), hR1.trans HF.out.symm, HZ.out.2.2⟩
    | true =>
     clear hkr
     obtain ⟨s, hs, _⟩ := HB2.out.1.2 k hlt
     have HS := Lib.hid hs
     have hg3 : ∀ x, (XA.us X)[k]? = some x → x = s.v := fun x hx => by rw [XA.us, List.getElem?_map, hs] at hx; exact (Option.some.inj hx).symm
     have y3 : w2.cell? ⟨w.heap.size + 3, k, none⟩ = some s.v := by rw [HB2.out.2.1.cell, XA.us, List.getElem?_map, hs]; rfl
     have r0 : (0 : Int) ≤ (k : Int) := by omega
     have r1 : (k : Int) < 64 := by omega
     have y0 := HB2.out.2.2.1.c 0 rfl
     have y1 := HB2.out.2.2.2.1.c 0 rfl
     have zc := y3
     clear hs hg3
     go_wp2_with fail
     have e0 := cellB y0
     have e1 := cellB y1
     have e3 := cellB y3
     have hb0 : Below w2.heap.size w2 w2.drew := (Below.refl _ w2).drew
     refine bstartE (KB w2.heap) 9 (by kernel_rfl) ?_
     refine btakeE 0 [] (oi := _) (v := ?_) (by simp only [getElem?_toArray, getElem?_cons_succ, getElem?_cons_zero]; rfl) (by kernel_rfl) (by exact fun _ _ _ h => h) (by first | assumption | exact KB.refl _) (.inl ⟨by rfl, fun W hW => ?_⟩) ?_; rotate_left
     ·(go_simp; first | done | with_reducible rfl)
     try simp only [Act.put, List.setIfInBounds_toArray, List.set_cons_zero, List.set_cons_succ]
     refine btakeE 1 [] (oi := _) (v := ?_) (by simp only [getElem?_toArray, getElem?_cons_succ, getElem?_cons_zero]; rfl) (by kernel_rfl) (by exact fun _ _ _ h => h) (by first | assumption | exact KB.refl _) (.inl ⟨by rfl, fun W hW => ?_⟩) ?_; rotate_left
     ·(go_simp; first | done | with_reducible rfl)
     try simp only [Act.put, List.setIfInBounds_toArray, List.set_cons_zero, List.set_cons_succ]
     refine btakeE 2 [] (oi := _) (v := ?_) (by simp only [getElem?_toArray, getElem?_cons_succ, getElem?_cons_zero]; rfl) (by kernel_rfl) (by exact fun _ _ _ h => h) (by first | assumption | exact KB.refl _) (.inl ⟨by rfl, fun W hW => ?_⟩) ?_; rotate_left
     ·(go_simp; first | done | with_reducible rfl)
     try simp only [Act.put, List.setIfInBounds_toArray, List.set_cons_zero, List.set_cons_succ]
     refine btakeE 4 [] (oi := _) (v := ?_) (by simp only [getElem?_toArray, getElem?_cons_succ, getElem?_cons_zero]; rfl) (by kernel_rfl) (by exact fun _ _ _ h => h) (by first | assumption | exact KB.refl _) (.inl ⟨by rfl, fun W hW => ?_⟩) ?_; rotate_left
     ·(go_simp; first | done | with_reducible rfl)
     try simp only [Act.put, List.setIfInBounds_toArray, List.set_cons_zero, List.set_cons_succ]
     refine btakeE 5 [] (oi := _) (v := ?_) (by simp only [getElem?_toArray, getElem?_cons_succ, getElem?_cons_zero]; rfl) (by kernel_rfl) (by exact fun _ _ _ h => h) (by first | assumption | exact KB.refl _) (.inl ⟨by rfl, fun W hW => ?_⟩) ?_; rotate_left
     ·(go_simp; first | done | with_reducible rfl)
     try simp only [Act.put, List.setIfInBounds_toArray, List.set_cons_zero, List.set_cons_succ]
     refine bopE 3 (o := _) (by simp only [getElem?_toArray, getElem?_cons_succ, getElem?_cons_zero]; rfl) (by kernel_rfl) (by rfl) (fun K hK => ?_)
     go_simp
     refine (Part_any w2.drew A n c R V (HV.out.1.below (HB2.out.2.2.2.2.2.trans (hb0.mono HB2.out.2.2.2.2.2.size))) hl (k : Int)).mono ?_
     rintro e u3 ⟨A3, c3, rfl, hs3, hn3, hc3, h3⟩
     have B3 := Lib.hid (hb0.trans (h3.mono hb0.size))
     have hkb : KB w2.heap u3 := KB.of B3.out
     have S3 := Lib.hid hs3
     clear h3 hs3 hn3 hc3
     refine hK.out _ _ hkb ?_; clear hK K
     try simp only [Act.put, List.setIfInBounds_toArray, List.set_cons_zero, List.set_cons_succ]
     refine bopE 6 (o := _) (by simp only [getElem?_toArray, getElem?_cons_succ, getElem?_cons_zero]; rfl) (by kernel_rfl) (by rfl) (fun K hK => ?_)
     go_simp
     refine (Part_any u3 A' n' c' R' V' (HV.out.2.1.below (HB2.out.2.2.2.2.2.trans (B3.out.mono HB2.out.2.2.2.2.2.size))) hl' (k : Int)).mono ?_
     rintro e u6 ⟨A6, c6, rfl, hs6, hn6, hc6, h6⟩
     have B6 := Lib.hid (B3.out.trans (h6.mono B3.out.size))
     have hkb : KB w2.heap u6 := KB.of B6.out
     have S6 := Lib.hid (And.intro ((S3.out.below h6).more h6.size) hs6)
     clear h6 hs6 hn6 hc6
     refine hK.out _ _ hkb ?_; clear hK K
     try simp only [Act.put, List.setIfInBounds_toArray, List.set_cons_zero, List.set_cons_succ]
     refine bopE 7 (o := _) (by simp only [getElem?_toArray, getElem?_cons_succ, getElem?_cons_zero]; rfl) (by kernel_rfl) (by rfl) (fun K hK => ?_)
     go_simp
     refine (RRJoin_any u6 A3 A6 _ _ c3 c6 (partV V (k : Int)) (partV V' (k : Int)) S6.out.1 S6.out.2 rfl rfl (Nat.le_trans (HV.out.2.2.1.part _) (by omega)) (Nat.le_trans (HV.out.2.2.2.part _) (by omega))).mono ?_
     rintro e u7 ⟨A7, c7, rfl, hs7, hn7, hc7, h7⟩
     have B7 := Lib.hid (B6.out.trans (h7.mono B6.out.size))
     have hkb : KB w2.heap u7 := KB.of B7.out
     have HZ := Lib.hid (And.intro hs7 (And.intro hn7 hc7))
     have zf : u7.frozen? ⟨w.heap.size + 3, k, none⟩ = false := ((HB2.out.2.1.below B7.out).at_.f k (v := s.v) (by rw [XA.us, List.getElem?_map, HS.out]; rfl))
     clear h7 hs7 hn7 hc7
     refine hK.out _ _ hkb ?_; clear hK K
     try simp only [Act.put, List.setIfInBounds_toArray, List.set_cons_zero, List.set_cons_succ]
     refine btakeE 8 [] (oi := _) (v := ?_) (by simp only [getElem?_toArray, getElem?_cons_succ, getElem?_cons_zero]; rfl) (by kernel_rfl) (by exact fun _ _ _ h => h) (by first | assumption | exact KB.refl _) (.inl ⟨by rfl, fun W hW => ?_⟩) ?_; rotate_left
     ·(go_simp; first | done | with_reducible rfl)
     try simp only [Act.put, List.setIfInBounds_toArray, List.set_cons_zero, List.set_cons_succ]
     refine blastE 9 (o := _) (by simp only [getElem?_toArray, getElem?_cons_succ, getElem?_cons_zero]; rfl) (by kernel_rfl) (by rfl) (by rfl) (fun K hK => ?_)
     go_simp
     skip
     refine hK.out _ _ ?_; clear hK K
     try simp only [Act.put, List.setIfInBounds_toArray, List.set_cons_zero, List.set_cons_succ]
     refine bdoneE (by kernel_rfl) ?_
     have hA2 := HB2.out.2.1.below B7.out
     have hX2 := HB2.out.1.below B7.out
     have h3 := XA.store (f' := fun i => if i < ((k + 1 : Nat) : Int) then joinS (partV V i) (partV V' i) else []) hX2 hA2 (r := k) hlt (s := ⟨A7, (joinS (partV V (k : Int)) (partV V' (k : Int))).length, c7⟩) (by (try dsimp only); rw [if_pos (by omega)]) (by (try dsimp only); rw [if_pos (by omega)]; exact HZ.out) (fun i _ hne => by
      (try dsimp only)
      by_cases h : i < k
      ·rw [if_pos (by omega), if_pos (by omega)]
      ·rw [if_neg (by omega), if_neg (by omega)])
     have hb9 : Below w.heap.size w (u7.setCell ⟨w.heap.size + 3, k, none⟩ (.slice A7 (joinS (partV V (k : Int)) (partV V' (k : Int))).length c7)) := (HB2.out.2.2.2.2.2.trans (B7.out.mono HB2.out.2.2.2.2.2.size)).setCell (show w.heap.size ≤ w.heap.size + 3 by omega) _
     have h00 := (HB2.out.2.2.1.below B7.out).set_other (g' := w.heap.size + 3) k (.slice A7 (joinS (partV V (k : Int)) (partV V' (k : Int))).length c7) (by omega)
     have h01 := (HB2.out.2.2.2.1.below B7.out).set_other (g' := w.heap.size + 3) k (.slice A7 (joinS (partV V (k : Int)) (partV V' (k : Int))).length c7) (by omega)
     have h02 := (HB2.out.2.2.2.2.1.below B7.out).set_other (g' := w.heap.size + 3) k (.slice A7 (joinS (partV V (k : Int)) (partV V' (k : Int))).length c7) (by omega)
     have HW := Lib.hid (And.intro h3 (And.intro h00 (And.intro h01 (And.intro h02 hb9))))
     have hs3 : w.heap.size + 4 ≤ u7.heap.size := Nat.le_trans hs2 B7.out.size
     clear h3 h00 h01 h02 hb9 hA2 hX2
     go_wp2_with fail
     go_roundw
     case rel => exact ⟨k + 1, _, by omega, by go_num, .inr (by simp), HW.out.1.1, HW.out.1.2, HW.out.2.1, HW.out.2.2.1, HW.out.2.2.2.1, by simpa using hs3, HW.out.2.2.2.2⟩
     case measure => simp [intOf]; omega
  ·obtain rfl : k = 64 := by omega
   obtain ⟨rfl, rfl⟩ : p = true ∧ q = true := by rcases hkr with h | h; exact absurd h (by omega); exact h
   have hd1 : decide (((64 : Nat) : Int) < 64) = false := by rw [decide_eq_false_iff_not]; omega
   have HF := Lib.hid (show joinV V V' = vecOf (fun i => joinS (partV V i) (partV V' i)) by rw [joinV, if_pos HP.out])
   have HXA := Lib.hid (show XA wr X (fun i => joinS (partV V i) (partV V' i)) from ⟨HB.out.1.1, fun i hi => by have := HB.out.1.2 i hi; (try dsimp only at this); rw [if_pos (by omega)] at this; exact this⟩)
   have H02 := Lib.hid (HB.out.2.2.2.2.1)
   have HAT := Lib.hid (HB.out.2.1.at_)
   have HBEL := Lib.hid (HB.out.2.2.2.2.2)
   have hsw : w.heap.size + 4 ≤ wr.heap.size := hs4
   have HPT := Lib.hid (parts_own wr X _ HXA.out (fun r => by have h1 := joinS_len (partV V r) (partV V' r); have h2 := HV.out.2.2.1.part r; have h3 := HV.out.2.2.2.part r; omega))
   have hXL : (XA.us X).length = 64 := by rw [XA.us, List.length_map]; exact HXA.out.1
   go_wp2_with (refine opVal rfl (ex_ldT aggA sizeA rfl rfl HAT.out hXL) ?_)
   refine HPT.out.mono ?_
   rintro e u1 ⟨A1, c1, R1, rfl, hv1, hR1, hb1⟩
   have h01 := H02.out.below hb1
   have q0 := h01.c 0 rfl
   have q1 := h01.f 0 rfl
   have hbz := HBEL.out.trans (hb1.mono HBEL.out.size)
   have hb3 : Below w.heap.size w (u1.setCell ⟨w.heap.size + 2, 0, none⟩ (.slice A1 R1.length c1)) := hbz.setCell (show w.heap.size ≤ w.heap.size + 2 by omega) _
   have HZ := Lib.hid (And.intro (hv1.kept (grownS u1 (w.heap.size + 2) 0 (.slice A1 R1.length c1)) (by omega)) (And.intro (h01.set 0 (.slice A1 R1.length c1) (by simp)) hb3))
   clear hv1 h01 hb3
   go_wp2_with fail
   exact bodyPost_ret (results_vec rfl _ rfl HZ.out.2.1) rfl ⟨A1, c1, R1, rfl, HZ.out.1.lower (by omega), hR1.trans HF.out.symm, HZ.out.2.2⟩
set_option maxRecDepth 100000 in
set_option maxHeartbeats 6400000 in
theorem RVMinus_own (w : World) (A A' : Option Addr) (n n' c c' : Nat) (R R' : List RA) (V V' : VL) (hv : VS w A n c R V) (hv' : VS w A' n' c' R' V') (hl : n ≤ 1000000) (hl' : n' ≤ 1000000) (hm : Lim 10000 V) (hm' : Lim 10000 V') :
  Calls Tryz.prog 24 #[.agg #[.slice A n c], .agg #[.slice A' n' c']] w (PAns w (minusV V V')) := by
 obtain ⟨p, hp⟩ : ∃ p, rightV V = p := ⟨_, rfl⟩
 obtain ⟨q, hq⟩ : ∃ q, rightV V' = q := ⟨_, rfl⟩
 have HP := Lib.hid (And.intro hp hq)
 have hb0 : Below w.heap.size w ((((w.alloc (.cells #[.slice A n c] 24)).alloc (.cells #[(.slice A' n' c')] 24)).alloc (.cells #[.slice none 0 0] 24)).alloc (.cells (XA.us z64S).toArray 70)) := balloc (balloc (balloc (balloc (Below.refl _ _) _) _) _) _
 have a0 : At ((((w.alloc (.cells #[.slice A n c] 24)).alloc (.cells #[(.slice A' n' c')] 24)).alloc (.cells #[.slice none 0 0] 24)).alloc (.cells (XA.us z64S).toArray 70)) w.heap.size [.slice A n c] := (((At.new w 24 #[.slice A n c]).alloc _).alloc _).alloc _
 have a1 : At ((((w.alloc (.cells #[.slice A n c] 24)).alloc (.cells #[(.slice A' n' c')] 24)).alloc (.cells #[.slice none 0 0] 24)).alloc (.cells (XA.us z64S).toArray 70)) (w.heap.size + 1) [.slice A' n' c'] := by
  have := ((At.new (w.alloc (.cells #[.slice A n c] 24)) 24 #[.slice A' n' c']).alloc (.cells #[.slice none 0 0] 24)).alloc (.cells (XA.us z64S).toArray 70)
  rw [World.size_alloc] at this
  exact this
 have a2 : At ((((w.alloc (.cells #[.slice A n c] 24)).alloc (.cells #[(.slice A' n' c')] 24)).alloc (.cells #[.slice none 0 0] 24)).alloc (.cells (XA.us z64S).toArray 70)) (w.heap.size + 2) [.slice none 0 0] := by
  have := (At.new ((w.alloc (.cells #[.slice A n c] 24)).alloc (.cells #[(.slice A' n' c')] 24)) 24 #[.slice none 0 0]).alloc (.cells (XA.us z64S).toArray 70)
  rw [World.size_alloc, World.size_alloc] at this
  exact this
 have a3 : Ar ((((w.alloc (.cells #[.slice A n c] 24)).alloc (.cells #[(.slice A' n' c')] 24)).alloc (.cells #[.slice none 0 0] 24)).alloc (.cells (XA.us z64S).toArray 70)) (w.heap.size + 3) (XA.us z64S) := by
  have := Ar.new (((w.alloc (.cells #[.slice A n c] 24)).alloc (.cells #[(.slice A' n' c')] 24)).alloc (.cells #[.slice none 0 0] 24)) (XA.us z64S)
  rw [World.size_alloc, World.size_alloc, World.size_alloc] at this
  exact this
 have hsz : ((((w.alloc (.cells #[.slice A n c] 24)).alloc (.cells #[(.slice A' n' c')] 24)).alloc (.cells #[.slice none 0 0] 24)).alloc (.cells (XA.us z64S).toArray 70)).heap.size = w.heap.size + 4 := by simp
 have hxa : XA ((((w.alloc (.cells #[.slice A n c] 24)).alloc (.cells #[(.slice A' n' c')] 24)).alloc (.cells #[.slice none 0 0] 24)).alloc (.cells (XA.us z64S).toArray 70)) z64S (fun _ => []) := XA.zero _
 have hzz := zeroA
 generalize z64S = Z at *
 have HV := Lib.hid (And.intro hv (And.intro hv' (And.intro hm hm')))
 clear hv hv' hm hm' hp hq
 go_enter Tryz.func24, Tryz.ntmps24
 go_wp2_with (refine opVal rfl (ex_alT hzz rfl) ?_)
 generalize ((((w.alloc (.cells #[.slice A n c] 24)).alloc (.cells #[(.slice A' n' c')] 24)).alloc (.cells #[.slice none 0 0] 24)).alloc (.cells (XA.us Z).toArray 70)) = W at *
 go_loopw [6] (fun x6 wr => ∃ (k : Nat) (X : List RSl), k ≤ 64 ∧ x6 = .int .i64 (k : Int) ∧ (k = 0 ∨ (p = true ∧ q = true)) ∧ XA wr X (fun i => if i < (k : Int) then minusS (partV V i) (partV V' i) else []) ∧ Ar wr (w.heap.size + 3) (XA.us X) ∧ At wr w.heap.size [.slice A n c] ∧ At wr (w.heap.size + 1) [.slice A' n' c'] ∧ At wr (w.heap.size + 2) [.slice none 0 0] ∧ w.heap.size + 4 ≤ wr.heap.size ∧ Below w.heap.size w wr) (fun x6 _ => 64 - (intOf x6).toNat)
 case atStart => exact ⟨0, Z, by omega, rfl, .inl rfl, ⟨hxa.1, fun i hi => by have := hxa.2 i hi; (try dsimp only); rw [if_neg (by omega)]; exact this⟩, a3, a0, a1, a2, by omega, hb0⟩
 case round =>
  clear hxa a0 a1 a2 a3 hb0 hzz hsz
  obtain ⟨k, X, hk, rfl, hkr, hX, hA, h0, h1, h2, hs4, hbel⟩ := hrel
  have y0 := h0.c 0 rfl
  have HB := Lib.hid (And.intro hX (And.intro hA (And.intro h0 (And.intro h1 (And.intro h2 hbel)))))
  clear hX hA h0 h1 h2
  by_cases hlt : k < 64
  ·have hd1 : decide ((k : Int) < 64) = true := by rw [decide_eq_true_eq]; omega
   go_wp2_with fail
   refine (RVRight_any wr A n c R V (HV.out.1.below HB.out.2.2.2.2.2) hl (HV.out.2.2.1.mono (by omega))).mono ?_
   rintro e w1 ⟨rfl, hb1⟩
   rw [HP.out.1]
   have hs1 : w.heap.size + 4 ≤ w1.heap.size := Nat.le_trans hs4 hb1.size
   have HB1 := Lib.hid (And.intro (HB.out.1.below hb1) (And.intro (HB.out.2.1.below hb1) (And.intro (HB.out.2.2.1.below hb1) (And.intro (HB.out.2.2.2.1.below hb1) (And.intro (HB.out.2.2.2.2.1.below hb1) (HB.out.2.2.2.2.2.trans (hb1.mono HB.out.2.2.2.2.2.size)))))))
   clear y0 HB hb1 hbel hs4
   cases p with
   | false =>
    obtain rfl : k = 0 := by rcases hkr with h | ⟨h, _⟩; exact h; exact absurd h (by simp)
    have HF := Lib.hid (show minusV V V' = vecOf (fun _ => []) by rw [vecOf_nil', minusV, if_neg (by rw [HP.out.1]; simp)])
    clear hkr
    have HXA := Lib.hid (show XA w1 X (fun _ => []) from ⟨HB1.out.1.1, fun i hi => by have := HB1.out.1.2 i hi; (try dsimp only at this); rw [if_neg (by omega)] at this; exact this⟩)
    have H02 := Lib.hid (HB1.out.2.2.2.2.1)
    have HAT := Lib.hid (HB1.out.2.1.at_)
    have HBEL := Lib.hid (HB1.out.2.2.2.2.2)
    have hsw : w.heap.size + 4 ≤ w1.heap.size := hs1
    have HPT := Lib.hid (parts_own w1 X _ HXA.out (fun r => by simp))
    have hXL : (XA.us X).length = 64 := by rw [XA.us, List.length_map]; exact HXA.out.1
    go_wp2_with (refine opVal rfl (ex_ldT aggA sizeA rfl rfl HAT.out hXL) ?_)
    refine HPT.out.mono ?_
    rintro e u1 ⟨A1, c1, R1, rfl, hv1, hR1, hb1⟩
    have h01 := H02.out.below hb1
    have q0 := h01.c 0 rfl
    have q1 := h01.f 0 rfl
    have hbz := HBEL.out.trans (hb1.mono HBEL.out.size)
    have hb3 : Below w.heap.size w (u1.setCell ⟨w.heap.size + 2, 0, none⟩ (.slice A1 R1.length c1)) := hbz.setCell (show w.heap.size ≤ w.heap.size + 2 by omega) _
    have HZ := Lib.hid (And.intro (hv1.kept (grownS u1 (w.heap.size + 2) 0 (.slice A1 R1.length c1)) (by omega)) (And.intro (h01.set 0 (.slice A1 R1.length c1) (by simp)) hb3))
    clear hv1 h01 hb3
    go_wp2_with fail
    exact bodyPost_ret (results_vec rfl _ rfl HZ.out.2.1) rfl ⟨A1, c1, R1, rfl, HZ.out.1.lower (by omega), hR1.trans HF.out.symm, HZ.out.2.2⟩
   | true =>
    have y1 := HB1.out.2.2.2.1.c 0 rfl
    go_wp2_with fail
    refine (RVRight_any w1 A' n' c' R' V' (HV.out.2.1.below HB1.out.2.2.2.2.2) hl' (HV.out.2.2.2.mono (by omega))).mono ?_
    rintro e w2 ⟨rfl, hb2⟩
    rw [HP.out.2]
    have hs2 : w.heap.size + 4 ≤ w2.heap.size := Nat.le_trans hs1 hb2.size
    have HB2 := Lib.hid (And.intro (HB1.out.1.below hb2) (And.intro (HB1.out.2.1.below hb2) (And.intro (HB1.out.2.2.1.below hb2) (And.intro (HB1.out.2.2.2.1.below hb2) (And.intro (HB1.out.2.2.2.2.1.below hb2) (HB1.out.2.2.2.2.2.trans (hb2.mono HB1.out.2.2.2.2.2.size)))))))
    clear y1 HB1 hb2 hs1
    cases q with
    | false =>
     obtain rfl : k = 0 := by rcases hkr with h | ⟨_, h⟩; exact h; exact absurd h (by simp)
     have HF := Lib.hid (show minusV V V' = vecOf (fun _ => []) by rw [vecOf_nil', minusV, if_neg (by rw [HP.out.2]; simp)])
     clear hkr
     have HXA := Lib.hid (show XA w2 X (fun _ => []) from ⟨HB2.out.1.1, fun i hi => by have := HB2.out.1.2 i hi; (try dsimp only at this); rw [if_neg (by omega)] at this; exact this⟩)
     have H02 := Lib.hid (HB2.out.2.2.2.2.1)
     have HAT := Lib.hid (HB2.out.2.1.at_)
     have HBEL := Lib.hid (HB2.out.2.2.2.2.2)
     have hsw : w.heap.size + 4 ≤ w2.heap.size := hs2
     have HPT := Lib.hid (parts_own w2 X _ HXA.out (fun r => by simp))
     have hXL : (XA.us X).length = 64 := by rw [XA.us, List.length_map]; exact HXA.out.1
     go_wp2_with (refine opVal rfl (ex_ldT aggA sizeA rfl rfl HAT.out hXL) ?_)
     refine HPT.out.mono ?_
     rintro e u1 ⟨A1, c1, R1, rfl, hv1, hR1, hb1⟩
     have h01 := H02.out.below hb1
     have q0 := h01.c 0 rfl
     have q1 := h01.f 0 rfl
     have hbz := HBEL.out.trans (hb1.mono HBEL.out.size)
     have hb3 : Below w.heap.size w (u1.setCell ⟨w.heap.size + 2, 0, none⟩ (.slice A1 R1.length c1)) := hbz.setCell (show w.heap.size ≤ w.heap.size + 2 by omega) _
     have HZ := Lib.hid (And.intro (hv1.kept (grownS u1 (w.heap.size + 2) 0 (.slice A1 R1.length c1)) (by omega)) (And.intro (h01.set 0 (.slice A1 R1.length c1) (by simp)) hb3))
     clear hv1 h01 hb3
     go_wp2_with fail
     exact bodyPost_ret (results_vec rfl _ rfl HZ.out.2.1) rfl ⟨A1, c1, R1, rfl, HZ.out.1.lower (by omega), hR1.trans HF.out.symm, HZ.out.2.2⟩
    | true =>
     clear hkr
     obtain ⟨s, hs, _⟩ := HB2.out.1.2 k hlt
     have HS := Lib.hid hs
     have hg3 : ∀ x, (XA.us X)[k]? = some x → x = s.v := fun x hx => by rw [XA.us, List.getElem?_map, hs] at hx; exact (Option.some.inj hx).symm
     have y3 : w2.cell? ⟨w.heap.size + 3, k, none⟩ = some s.v := by rw [HB2.out.2.1.cell, XA.us, List.getElem?_map, hs]; rfl
     have r0 : (0 : Int) ≤ (k : Int) := by omega
     have r1 : (k : Int) < 64 := by omega
     have y0 := HB2.out.2.2.1.c 0 rfl
     have y1 := HB2.out.2.2.2.1.c 0 rfl
     have zc := y3
     clear hs hg3
     go_wp2_with fail
     have e0 := cellB y0
     have e1 := cellB y1
     have e3 := cellB y3
     have hb0 : Below w2.heap.size w2 w2.drew := (Below.refl _ w2).drew
     refine bstartE (KB w2.heap) 9 (by kernel_rfl) ?_
     refine btakeE 0 [] (oi := _) (v := ?_) (by simp only [getElem?_toArray, getElem?_cons_succ, getElem?_cons_zero]; rfl) (by kernel_rfl) (by exact fun _ _ _ h => h) (by first | assumption | exact KB.refl _) (.inl ⟨by rfl, fun W hW => ?_⟩) ?_; rotate_left
     ·(go_simp; first | done | with_reducible rfl)
     try simp only [Act.put, List.setIfInBounds_toArray, List.set_cons_zero, List.set_cons_succ]
     refine btakeE 1 [] (oi := _) (v := ?_) (by simp only [getElem?_toArray, getElem?_cons_succ, getElem?_cons_zero]; rfl) (by kernel_rfl) (by exact fun _ _ _ h => h) (by first | assumption | exact KB.refl _) (.inl ⟨by rfl, fun W hW => ?_⟩) ?_; rotate_left
     ·(go_simp; first | done | with_reducible rfl)
     try simp only [Act.put, List.setIfInBounds_toArray, List.set_cons_zero, List.set_cons_succ]
     refine btakeE 2 [] (oi := _) (v := ?_) (by simp only [getElem?_toArray, getElem?_cons_succ, getElem?_cons_zero]; rfl) (by kernel_rfl) (by exact fun _ _ _ h => h) (by first | assumption | exact KB.refl _) (.inl ⟨by rfl, fun W hW => ?_⟩) ?_; rotate_left
     ·(go_simp; first | done | with_reducible rfl)
     try simp only [Act.put, List.setIfInBounds_toArray, List.set_cons_zero, List.set_cons_succ]
     refine btakeE 4 [] (oi := _) (v := ?_) (by simp only [getElem?_toArray, getElem?_cons_succ, getElem?_cons_zero]; rfl) (by kernel_rfl) (by exact fun _ _ _ h => h) (by first | assumption | exact KB.refl _) (.inl ⟨by rfl, fun W hW => ?_⟩) ?_; rotate_left
     ·(go_simp; first | done | with_reducible rfl)
     try simp only [Act.put, List.setIfInBounds_toArray, List.set_cons_zero, List.set_cons_succ]
     refine btakeE 5 [] (oi := _) (v := ?_) (by simp only [getElem?_toArray, getElem?_cons_succ, getElem?_cons_zero]; rfl) (by kernel_rfl) (by exact fun _ _ _ h => h) (by first | assumption | exact KB.refl _) (.inl ⟨by rfl, fun W hW => ?_⟩) ?_; rotate_left
     ·(go_simp; first | done | with_reducible rfl)
     try simp only [Act.put, List.setIfInBounds_toArray, List.set_cons_zero, List.set_cons_succ]
     refine bopE 3 (o := _) (by simp only [getElem?_toArray, getElem?_cons_succ, getElem?_cons_zero]; rfl) (by kernel_rfl) (by rfl) (fun K hK => ?_)
     go_simp
     refine (Part_any w2.drew A n c R V (HV.out.1.below (HB2.out.2.2.2.2.2.trans (hb0.mono HB2.out.2.2.2.2.2.size))) hl (k : Int)).mono ?_
     rintro e u3 ⟨A3, c3, rfl, hs3, hn3, hc3, h3⟩
     have B3 := Lib.hid (hb0.trans (h3.mono hb0.size))
     have hkb : KB w2.heap u3 := KB.of B3.out
     have S3 := Lib.hid hs3
     clear h3 hs3 hn3 hc3
     refine hK.out _ _ hkb ?_; clear hK K
     try simp only [Act.put, List.setIfInBounds_toArray, List.set_cons_zero, List.set_cons_succ]
     refine bopE 6 (o := _) (by simp only [getElem?_toArray, getElem?_cons_succ, getElem?_cons_zero]; rfl) (by kernel_rfl) (by rfl) (fun K hK => ?_)
     go_simp
     refine (Part_any u3 A' n' c' R' V' (HV.out.2.1.below (HB2.out.2.2.2.2.2.trans (B3.out.mono HB2.out.2.2.2.2.2.size))) hl' (k : Int)).mono ?_
     rintro e u6 ⟨A6, c6, rfl, hs6, hn6, hc6, h6⟩
     have B6 := Lib.hid (B3.out.trans (h6.mono B3.out.size))
     have hkb : KB w2.heap u6 := KB.of B6.out
     have S6 := Lib.hid (And.intro ((S3.out.below h6).more h6.size) hs6)
     clear h6 hs6 hn6 hc6
     refine hK.out _ _ hkb ?_; clear hK K
     try simp only [Act.put, List.setIfInBounds_toArray, List.set_cons_zero, List.set_cons_succ]
     refine bopE 7 (o := _) (by simp only [getElem?_toArray, getElem?_cons_succ, getElem?_cons_zero]; rfl) (by kernel_rfl) (by rfl) (fun K hK => ?_)
     go_simp
     refine (RRMinus_any u6 A3 A6 _ _ c3 c6 (partV V (k : Int)) (partV V' (k : Int)) S6.out.1 S6.out.2 rfl rfl (Nat.le_trans (HV.out.2.2.1.part _) (by omega)) (Nat.le_trans (HV.out.2.2.2.part _) (by omega))).mono ?_
     rintro e u7 ⟨A7, c7, rfl, hs7, hn7, hc7, h7⟩
     have B7 := Lib.hid (B6.out.trans (h7.mono B6.out.size))
     have hkb : KB w2.heap u7 := KB.of B7.out
     have HZ := Lib.hid (And.intro hs7 (And.intro hn7 hc7))
     have zf : u7.frozen? ⟨w.heap.size + 3, k, none⟩ = false := ((HB2.out.2.1.below B7.out).at_.f k (v := s.v) (by rw [XA.us, List.getElem?_map, HS.out]; rfl))
     clear h7 hs7 hn7 hc7
     refine hK.out _ _ hkb ?_; clear hK K
     try simp only [Act.put, List.setIfInBounds_toArray, List.set_cons_zero, List.set_cons_succ]
     refine btakeE 8 [] (oi := _) (v := ?_) (by simp only [getElem?_toArray, getElem?_cons_succ, getElem?_cons_zero]; rfl) (by kernel_rfl) (by exact fun _ _ _ h => h) (by first | assumption | exact KB.refl _) (.inl ⟨by rfl, fun W hW => ?_⟩) ?_; rotate_left
     ·(go_simp; first | done | with_reducible rfl)
     try simp only [Act.put, List.setIfInBounds_toArray, List.set_cons_zero, List.set_cons_succ]
     refine blastE 9 (o := _) (by simp only [getElem?_toArray, getElem?_cons_succ, getElem?_cons_zero]; rfl) (by kernel_rfl) (by rfl) (by rfl) (fun K hK => ?_)
     go_simp
     skip
     refine hK.out _ _ ?_; clear hK K
     try simp only [Act.put, List.setIfInBounds_toArray, List.set_cons_zero, List.set_cons_succ]
     refine bdoneE (by kernel_rfl) ?_
     have hA2 := HB2.out.2.1.below B7.out
     have hX2 := HB2.out.1.below B7.out
     have h3 := XA.store (f' := fun i => if i < ((k + 1 : Nat) : Int) then minusS (partV V i) (partV V' i) else []) hX2 hA2 (r := k) hlt (s := ⟨A7, (minusS (partV V (k : Int)) (partV V' (k : Int))).length, c7⟩) (by (try dsimp only); rw [if_pos (by omega)]) (by (try dsimp only); rw [if_pos (by omega)]; exact HZ.out) (fun i _ hne => by
      (try dsimp only)
      by_cases h : i < k
      ·rw [if_pos (by omega), if_pos (by omega)]
      ·rw [if_neg (by omega), if_neg (by omega)])
     have hb9 : Below w.heap.size w (u7.setCell ⟨w.heap.size + 3, k, none⟩ (.slice A7 (minusS (partV V (k : Int)) (partV V' (k : Int))).length c7)) := (HB2.out.2.2.2.2.2.trans (B7.out.mono HB2.out.2.2.2.2.2.size)).setCell (show w.heap.size ≤ w.heap.size + 3 by omega) _
     have h00 := (HB2.out.2.2.1.below B7.out).set_other (g' := w.heap.size + 3) k (.slice A7 (minusS (partV V (k : Int)) (partV V' (k : Int))).length c7) (by omega)
     have h01 := (HB2.out.2.2.2.1.below B7.out).set_other (g' := w.heap.size + 3) k (.slice A7 (minusS (partV V (k : Int)) (partV V' (k : Int))).length c7) (by omega)
     have h02 := (HB2.out.2.2.2.2.1.below B7.out).set_other (g' := w.heap.size + 3) k (.slice A7 (minusS (partV V (k : Int)) (partV V' (k : Int))).length c7) (by omega)
     have HW := Lib.hid (And.intro h3 (And.intro h00 (And.intro h01 (And.intro h02 hb9))))
     have hs3 : w.heap.size + 4 ≤ u7.heap.size := Nat.le_trans hs2 B7.out.size
     clear h3 h00 h01 h02 hb9 hA2 hX2
     go_wp2_with fail
     go_roundw
     case rel => exact ⟨k + 1, _, by omega, by go_num, .inr (by simp), HW.out.1.1, HW.out.1.2, HW.out.2.1, HW.out.2.2.1, HW.out.2.2.2.1, by simpa using hs3, HW.out.2.2.2.2⟩
     case measure => simp [intOf]; omega
  ·obtain rfl : k = 64 := by omega
   obtain ⟨rfl, rfl⟩ : p = true ∧ q = true := by rcases hkr with h | h; exact absurd h (by omega); exact h
   have hd1 : decide (((64 : Nat) : Int) < 64) = false := by rw [decide_eq_false_iff_not]; omega
   have HF := Lib.hid (show minusV V V' = vecOf (fun i => minusS (partV V i) (partV V' i)) by rw [minusV, if_pos HP.out])
   have HXA := Lib.hid (show XA wr X (fun i => minusS (partV V i) (partV V' i)) from ⟨HB.out.1.1, fun i hi => by have := HB.out.1.2 i hi; (try dsimp only at this); rw [if_pos (by omega)] at this; exact this⟩)
   have H02 := Lib.hid (HB.out.2.2.2.2.1)
   have HAT := Lib.hid (HB.out.2.1.at_)
   have HBEL := Lib.hid (HB.out.2.2.2.2.2)
   have hsw : w.heap.size + 4 ≤ wr.heap.size := hs4
   have HPT := Lib.hid (parts_own wr X _ HXA.out (fun r => by have h1 := minusS_len (partV V r) (partV V' r); have h2 := HV.out.2.2.1.part r; have h3 := HV.out.2.2.2.part r; omega))
   have hXL : (XA.us X).length = 64 := by rw [XA.us, List.length_map]; exact HXA.out.1
   go_wp2_with (refine opVal rfl (ex_ldT aggA sizeA rfl rfl HAT.out hXL) ?_)
   refine HPT.out.mono ?_
   rintro e u1 ⟨A1, c1, R1, rfl, hv1, hR1, hb1⟩
   have h01 := H02.out.below hb1
   have q0 := h01.c 0 rfl
   have q1 := h01.f 0 rfl
   have hbz := HBEL.out.trans (hb1.mono HBEL.out.size)
   have hb3 : Below w.heap.size w (u1.setCell ⟨w.heap.size + 2, 0, none⟩ (.slice A1 R1.length c1)) := hbz.setCell (show w.heap.size ≤ w.heap.size + 2 by omega) _
   have HZ := Lib.hid (And.intro (hv1.kept (grownS u1 (w.heap.size + 2) 0 (.slice A1 R1.length c1)) (by omega)) (And.intro (h01.set 0 (.slice A1 R1.length c1) (by simp)) hb3))
   clear hv1 h01 hb3
   go_wp2_with fail
   exact bodyPost_ret (results_vec rfl _ rfl HZ.out.2.1) rfl ⟨A1, c1, R1, rfl, HZ.out.1.lower (by omega), hR1.trans HF.out.symm, HZ.out.2.2⟩
end Go.Proofs.YtaflikgdlkaefaaGreat
/- Vectors: the document's VecOf. -/
namespace Go.Proofs.YtaflikgdlkaefaaGreat
open Go.RowKit Go.Maps Go.Proofs.YtaflikgdlkaefaaGreat.Pl Go.Proofs.YtaflikgdlkaefaaGreat.Sp Go.Proofs.YtaflikgdlkaefaaGreat.Ve
set_option maxRecDepth 20000

set_option maxRecDepth 100000 in
set_option maxHeartbeats 6400000 in
theorem RVOf_own (w : World) (A : Option Addr) (n c : Nat) (l : List Dt.D2) (hs : Sl w w.heap.size A (dv l)) (h0 : n = l.length) (hl : n ≤ 100000) :
  Calls Tryz.prog 48 #[.slice A n c] w (PAns w (ofV l)) := by
 have HN := Lib.hid h0
 clear h0
 go_enter Tryz.func48, Tryz.ntmps48
 have hb0 : Below w.heap.size w ((w.alloc (.cells #[.slice none 0 0] 24)).alloc (.cells (XA.us z64S).toArray 70)) := balloc (balloc (Below.refl _ _) _) _
 have a0 : At ((w.alloc (.cells #[.slice none 0 0] 24)).alloc (.cells (XA.us z64S).toArray 70)) w.heap.size [.slice none 0 0] := (At.new w 24 #[.slice none 0 0]).alloc _
 have a1 : Ar ((w.alloc (.cells #[.slice none 0 0] 24)).alloc (.cells (XA.us z64S).toArray 70)) (w.heap.size + 1) (XA.us z64S) := by
  have := Ar.new (w.alloc (.cells #[.slice none 0 0] 24)) (XA.us z64S)
  rw [World.size_alloc] at this
  exact this
 have hsz : ((w.alloc (.cells #[.slice none 0 0] 24)).alloc (.cells (XA.us z64S).toArray 70)).heap.size = w.heap.size + 2 := by simp
 have hxa : XA ((w.alloc (.cells #[.slice none 0 0] 24)).alloc (.cells (XA.us z64S).toArray 70)) z64S (fun _ => []) := XA.zero _
 have hzz := zeroA
 generalize z64S = Z at *
 go_wp2_with (refine opVal rfl (ex_alT hzz rfl) ?_)
 generalize (w.alloc (.cells #[.slice none 0 0] 24)).alloc (.cells (XA.us Z).toArray 70) = W at *
 go_loopw [4] (fun x4 wr => ∃ (k : Nat) (X : List RSl), k ≤ n ∧ x4 = .int .i64 (k : Int) ∧ XA wr X (fun r => ofS (seqsOf (l.take k) r)) ∧ Ar wr (w.heap.size + 1) (XA.us X) ∧ At wr w.heap.size [.slice none 0 0] ∧ w.heap.size + 2 ≤ wr.heap.size ∧ Below w.heap.size w wr) (fun x4 _ => n - (intOf x4).toNat)
 case atStart => exact ⟨0, Z, by omega, rfl, by simpa [seqsOf, ofS] using hxa, a1, a0, by omega, hb0⟩
 case round =>
  clear hxa a1 a0 hb0 hzz hsz
  obtain ⟨k, X, hk, rfl, hX, hA, h0, hs2, hbel⟩ := hrel
  by_cases hlt : k < n
  ·have hkl : k < l.length := by have := HN.out; omega
   obtain ⟨b, o, rfl, hbB, hbW, c0, c1⟩ := dotAt hs hkl
   have hd : l[k]? = some (l[k]?.getD ⟨0, 0⟩) := by rw [List.getElem?_eq_getElem hkl]; rfl
   generalize l[k]?.getD ⟨0, 0⟩ = d at *
   replace c0 := (hbel.cell hbW).trans c0
   replace c1 := (hbel.cell hbW).trans c1
   have hd1 : decide ((k : Int) < (n : Int)) = true := by rw [decide_eq_true_eq]; omega
   have hn0 : (0 : Int) ≤ (k : Int) := by omega
   have hn1 : (k : Int) < (n : Int) := by omega
   have hdr := RDRight_any wr d
   unfold Dt.D2.v at hdr
   have HD := Lib.hid hdr
   have HX := Lib.hid (And.intro hX (And.intro hA (And.intro h0 (And.intro hs2 (And.intro hbel hd)))))
   clear hdr hX hA h0 hs hd
   go_wp2_with fail
   refine HD.out.mono ?_
   rintro e w1 ⟨rfl, h1⟩
   obtain ⟨p, hp⟩ : ∃ p, d.right = p := ⟨_, rfl⟩
   rw [hp]
   have HP := Lib.hid hp
   have hb1 := hbel.trans (h1.mono hbel.size)
   have H1 := Lib.hid (And.intro h1 hb1)
   replace c0 := (h1.cell (by dsimp only; omega)).trans c0
   replace c1 := (h1.cell (by dsimp only; omega)).trans c1
   clear hp h1
   cases p with
   | false =>
    have hX1 := HX.out.1.below H1.out.1
    have HZ := Lib.hid (show XA w1 X (fun r => ofS (seqsOf (l.take (k + 1)) r)) from ⟨hX1.1, fun i hi => by dsimp only; rw [ofS_skip HX.out.2.2.2.2.2 HP.out]; exact hX1.2 i hi⟩)
    have HY := Lib.hid (And.intro (HX.out.2.1.below H1.out.1) (And.intro (HX.out.2.2.1.below H1.out.1) (show w.heap.size + 2 ≤ w1.heap.size from Nat.le_trans HX.out.2.2.2.1 H1.out.1.size)))
    clear hX1
    go_wp2_with fail
    go_roundw
    case rel => exact ⟨k + 1, X, by omega, by go_num, HZ.out, HY.out.1, HY.out.2.1, HY.out.2.2, hb1⟩
    case measure => simp [intOf]; omega
   | true =>
    obtain ⟨q1, q2, q3, q4⟩ := Dt.right_iff.1 HP.out
    obtain ⟨r, hr⟩ : ∃ r : Nat, d.r = (r : Int) := ⟨d.r.toNat, by omega⟩
    obtain ⟨s, hs, hsn, hst⟩ := HX.out.1.2 r (by omega)
    obtain ⟨As, ns, cs⟩ := s
    dsimp only at hsn hst
    have hA1 := HX.out.2.1.below H1.out.1
    have y0 : w1.cell? ⟨w.heap.size + 1, r, none⟩ = some (.slice As ns cs) := by rw [hA1.cell, XA.us, List.getElem?_map, hs]; rfl
    rw [hr] at c0
    have HS := Lib.hid (And.intro hsn (And.intro (hst.below H1.out.1) (And.intro hr hs)))
    have HSZ := Lib.hid (And.intro q1 q2)
    have r0 : (0 : Int) ≤ (r : Int) := by omega
    have r1 : (r : Int) < 64 := by omega
    clear hs hsn hst hA1 hr q1 q2 q3 q4
    go_wp2_with fail
    have e0 := cellB c0
    have e1 := cellB c1
    have e2 := cellB y0
    have zc := y0
    refine bstartE (KB w1.heap) 25 (by kernel_rfl) ?_
    refine btakeE 0 [] (oi := _) (v := ?_) (by simp only [getElem?_toArray, getElem?_cons_succ, getElem?_cons_zero]; rfl) (by kernel_rfl) (by exact fun _ _ _ h => h) (by first | assumption | exact KB.refl _) (.inl ⟨by rfl, fun W hW => ?_⟩) ?_; rotate_left
    ·(go_simp; first | done | with_reducible rfl)
    try simp only [Act.put, List.setIfInBounds_toArray, List.set_cons_zero, List.set_cons_succ]
    refine btakeE 1 [] (oi := _) (v := ?_) (by simp only [getElem?_toArray, getElem?_cons_succ, getElem?_cons_zero]; rfl) (by kernel_rfl) (by exact fun _ _ _ h => h) (by first | assumption | exact KB.refl _) (.inl ⟨by rfl, fun W hW => ?_⟩) ?_; rotate_left
    ·(go_simp; first | done | with_reducible rfl)
    try simp only [Act.put, List.setIfInBounds_toArray, List.set_cons_zero, List.set_cons_succ]
    refine btakeE 2 [] (oi := _) (v := ?_) (by simp only [getElem?_toArray, getElem?_cons_succ, getElem?_cons_zero]; rfl) (by kernel_rfl) (by exact fun _ _ _ h => h) (by first | assumption | exact KB.refl _) (.inl ⟨by rfl, fun W hW => ?_⟩) ?_; rotate_left
    ·(go_simp; first | done | with_reducible rfl)
    try simp only [Act.put, List.setIfInBounds_toArray, List.set_cons_zero, List.set_cons_succ]
    refine btakeE 3 [] (oi := _) (v := ?_) (by simp only [getElem?_toArray, getElem?_cons_succ, getElem?_cons_zero]; rfl) (by kernel_rfl) (by exact fun _ _ _ h => h) (by first | assumption | exact KB.refl _) (.inl ⟨by rfl, fun W hW => ?_⟩) ?_; rotate_left
    ·(go_simp; first | done | with_reducible rfl)
    try simp only [Act.put, List.setIfInBounds_toArray, List.set_cons_zero, List.set_cons_succ]
    refine btakeE 4 [] (oi := _) (v := ?_) (by simp only [getElem?_toArray, getElem?_cons_succ, getElem?_cons_zero]; rfl) (by kernel_rfl) (by exact fun _ _ _ h => h) (by first | assumption | exact KB.refl _) (.inl ⟨by rfl, fun W hW => ?_⟩) ?_; rotate_left
    ·(go_simp; first | done | with_reducible rfl)
    try simp only [Act.put, List.setIfInBounds_toArray, List.set_cons_zero, List.set_cons_succ]
    refine btakeE 5 [] (oi := _) (v := ?_) (by simp only [getElem?_toArray, getElem?_cons_succ, getElem?_cons_zero]; rfl) (by kernel_rfl) (by exact fun _ _ _ h => h) (by first | assumption | exact KB.refl _) (.inl ⟨by rfl, fun W hW => ?_⟩) ?_; rotate_left
    ·(go_simp; first | done | with_reducible rfl)
    try simp only [Act.put, List.setIfInBounds_toArray, List.set_cons_zero, List.set_cons_succ]
    refine btakeE 6 [] (oi := _) (v := ?_) (by simp only [getElem?_toArray, getElem?_cons_succ, getElem?_cons_zero]; rfl) (by kernel_rfl) (by exact fun _ _ _ h => h) (by first | assumption | exact KB.refl _) (.inl ⟨by rfl, fun W hW => ?_⟩) ?_; rotate_left
    ·(go_simp; first | done | with_reducible rfl)
    try simp only [Act.put, List.setIfInBounds_toArray, List.set_cons_zero, List.set_cons_succ]
    refine btakeE 7 [] (oi := _) (v := ?_) (by simp only [getElem?_toArray, getElem?_cons_succ, getElem?_cons_zero]; rfl) (by kernel_rfl) (by exact fun _ _ _ h => h) (by first | assumption | exact KB.refl _) (.inl ⟨by rfl, fun W hW => ?_⟩) ?_; rotate_left
    ·(go_simp; first | done | with_reducible rfl)
    try simp only [Act.put, List.setIfInBounds_toArray, List.set_cons_zero, List.set_cons_succ]
    refine btakeE 8 [] (oi := _) (v := ?_) (by simp only [getElem?_toArray, getElem?_cons_succ, getElem?_cons_zero]; rfl) (by kernel_rfl) (by exact fun _ _ _ h => h) (by first | assumption | exact KB.refl _) (.inl ⟨by rfl, fun W hW => ?_⟩) ?_; rotate_left
    ·(go_simp; first | done | with_reducible rfl)
    try simp only [Act.put, List.setIfInBounds_toArray, List.set_cons_zero, List.set_cons_succ]
    refine btakeE 9 [] (oi := _) (v := ?_) (by simp only [getElem?_toArray, getElem?_cons_succ, getElem?_cons_zero]; rfl) (by kernel_rfl) (by exact fun _ _ _ h => h) (by first | assumption | exact KB.refl _) (.inl ⟨by rfl, fun W hW => ?_⟩) ?_; rotate_left
    ·(go_simp; first | done | with_reducible rfl)
    try simp only [Act.put, List.setIfInBounds_toArray, List.set_cons_zero, List.set_cons_succ]
    refine btakeE 10 [] (oi := _) (v := ?_) (by simp only [getElem?_toArray, getElem?_cons_succ, getElem?_cons_zero]; rfl) (by kernel_rfl) (by exact fun _ _ _ h => h) (by first | assumption | exact KB.refl _) (.inl ⟨by rfl, fun W hW => ?_⟩) ?_; rotate_left
    ·(go_simp; first | done | with_reducible rfl)
    try simp only [Act.put, List.setIfInBounds_toArray, List.set_cons_zero, List.set_cons_succ]
    refine btakeE 11 [] (oi := _) (v := ?_) (by simp only [getElem?_toArray, getElem?_cons_succ, getElem?_cons_zero]; rfl) (by kernel_rfl) (by exact fun _ _ _ h => h) (by first | assumption | exact KB.refl _) (.inl ⟨by rfl, fun W hW => ?_⟩) ?_; rotate_left
    ·(go_simp; first | done | with_reducible rfl)
    try simp only [Act.put, List.setIfInBounds_toArray, List.set_cons_zero, List.set_cons_succ]
    refine btakeE 12 [] (oi := _) (v := ?_) (by simp only [getElem?_toArray, getElem?_cons_succ, getElem?_cons_zero]; rfl) (by kernel_rfl) (by exact fun _ _ _ h => h) (by first | assumption | exact KB.refl _) (.inl ⟨by rfl, fun W hW => ?_⟩) ?_; rotate_left
    ·(go_simp; first | done | with_reducible rfl)
    try simp only [Act.put, List.setIfInBounds_toArray, List.set_cons_zero, List.set_cons_succ]
    refine btakeE 13 [] (oi := _) (v := ?_) (by simp only [getElem?_toArray, getElem?_cons_succ, getElem?_cons_zero]; rfl) (by kernel_rfl) (by exact fun _ _ _ h => h) (by first | assumption | exact KB.refl _) (.inl ⟨by rfl, fun W hW => ?_⟩) ?_; rotate_left
    ·(go_simp; first | done | with_reducible rfl)
    try simp only [Act.put, List.setIfInBounds_toArray, List.set_cons_zero, List.set_cons_succ]
    refine btakeE 14 [] (oi := _) (v := ?_) (by simp only [getElem?_toArray, getElem?_cons_succ, getElem?_cons_zero]; rfl) (by kernel_rfl) (by exact fun _ _ _ h => h) (by first | assumption | exact KB.refl _) (.inl ⟨by rfl, fun W hW => ?_⟩) ?_; rotate_left
    ·(go_simp; first | done | with_reducible rfl)
    try simp only [Act.put, List.setIfInBounds_toArray, List.set_cons_zero, List.set_cons_succ]
    refine btakeE 15 [] (oi := _) (v := ?_) (by simp only [getElem?_toArray, getElem?_cons_succ, getElem?_cons_zero]; rfl) (by kernel_rfl) (by exact fun _ _ _ h => h) (by first | assumption | exact KB.refl _) (.inl ⟨by rfl, fun W hW => ?_⟩) ?_; rotate_left
    ·(go_simp; first | done | with_reducible rfl)
    try simp only [Act.put, List.setIfInBounds_toArray, List.set_cons_zero, List.set_cons_succ]
    refine btakeE 16 [] (oi := _) (v := ?_) (by simp only [getElem?_toArray, getElem?_cons_succ, getElem?_cons_zero]; rfl) (by kernel_rfl) (by exact fun _ _ _ h => h) (by first | assumption | exact KB.refl _) (.inl ⟨by rfl, fun W hW => ?_⟩) ?_; rotate_left
    ·(go_simp; first | done | with_reducible rfl)
    try simp only [Act.put, List.setIfInBounds_toArray, List.set_cons_zero, List.set_cons_succ]
    refine btakeE 17 [] (oi := _) (v := ?_) (by simp only [getElem?_toArray, getElem?_cons_succ, getElem?_cons_zero]; rfl) (by kernel_rfl) (by exact fun _ _ _ h => h) (by first | assumption | exact KB.refl _) (.inl ⟨by rfl, fun W hW => ?_⟩) ?_; rotate_left
    ·(go_simp; first | done | with_reducible rfl)
    try simp only [Act.put, List.setIfInBounds_toArray, List.set_cons_zero, List.set_cons_succ]
    refine btakeE 18 [] (oi := _) (v := ?_) (by simp only [getElem?_toArray, getElem?_cons_succ, getElem?_cons_zero]; rfl) (by kernel_rfl) (by exact fun _ _ _ h => h) (by first | assumption | exact KB.refl _) (.inl ⟨by rfl, fun W hW => ?_⟩) ?_; rotate_left
    ·(go_simp; first | done | with_reducible rfl)
    try simp only [Act.put, List.setIfInBounds_toArray, List.set_cons_zero, List.set_cons_succ]
    refine btakeE 19 [] (oi := _) (v := ?_) (by simp only [getElem?_toArray, getElem?_cons_succ, getElem?_cons_zero]; rfl) (by kernel_rfl) (by exact fun _ _ _ h => h) (by first | assumption | exact KB.refl _) (.inl ⟨by rfl, fun W hW => ?_⟩) ?_; rotate_left
    ·(go_simp; first | done | with_reducible rfl)
    try simp only [Act.put, List.setIfInBounds_toArray, List.set_cons_zero, List.set_cons_succ]
    refine btakeE 20 [] (oi := _) (v := ?_) (by simp only [getElem?_toArray, getElem?_cons_succ, getElem?_cons_zero]; rfl) (by kernel_rfl) (by exact fun _ _ _ h => h) (by first | assumption | exact KB.refl _) (.inl ⟨by rfl, fun W hW => ?_⟩) ?_; rotate_left
    ·(go_simp; first | done | with_reducible rfl)
    try simp only [Act.put, List.setIfInBounds_toArray, List.set_cons_zero, List.set_cons_succ]
    refine btakeE 21 [] (oi := _) (v := ?_) (by simp only [getElem?_toArray, getElem?_cons_succ, getElem?_cons_zero]; rfl) (by kernel_rfl) (by exact fun _ _ _ h => h) (by first | assumption | exact KB.refl _) (.inl ⟨by rfl, fun W hW => ?_⟩) ?_; rotate_left
    ·(go_simp; first | done | with_reducible rfl)
    try simp only [Act.put, List.setIfInBounds_toArray, List.set_cons_zero, List.set_cons_succ]
    refine btakeE 22 [] (oi := _) (v := ?_) (by simp only [getElem?_toArray, getElem?_cons_succ, getElem?_cons_zero]; rfl) (by kernel_rfl) (by exact fun _ _ _ h => h) (by first | assumption | exact KB.refl _) (.inl ⟨by rfl, fun W hW => ?_⟩) ?_; rotate_left
    ·(go_simp; first | done | with_reducible rfl)
    try simp only [Act.put, List.setIfInBounds_toArray, List.set_cons_zero, List.set_cons_succ]
    refine bopE 23 (o := _) (by simp only [getElem?_toArray, getElem?_cons_succ, getElem?_cons_zero]; rfl) (by kernel_rfl) (by rfl) (fun K hK => ?_)
    go_simp
    refine (RRAdd_any w1.drew As ns cs (ofS (seqsOf (l.take k) (r : Int))) ⟨d.q, d.q⟩ HS.out.2.1.1 HS.out.1 (by rw [HS.out.1]; exact Nat.le_trans (ofS_len _) (by have := HN.out; unfold seqsOf; rw [List.length_map]; exact Nat.le_trans (List.length_filter_le _ _) (by rw [List.length_take]; omega))) (by rw [HS.out.1]; exact HS.out.2.1.2.1) HS.out.2.1.2.2).mono ?_
    rintro e w2 ⟨A2, c2, rfl, hs2', hl2, hc2, hb2⟩
    have hkb : KB w1.heap w2 := KB.of ((Below.refl _ w1).drew.trans hb2)
    have HZ := Lib.hid (And.intro hs2' (And.intro hl2 (And.intro hc2 ((Below.refl _ w1).drew.trans hb2))))
    have zf : w2.frozen? ⟨w.heap.size + 1, r, none⟩ = false := (((HX.out.2.1.below H1.out.1).below ((Below.refl _ w1).drew.trans hb2)).at_.f r (v := .slice As ns cs) (by rw [XA.us, List.getElem?_map, HS.out.2.2.2]; rfl))
    clear hs2' hl2 hc2 hb2
    refine hK.out _ _ hkb ?_; clear hK K
    try simp only [Act.put, List.setIfInBounds_toArray, List.set_cons_zero, List.set_cons_succ]
    refine btakeE 24 [] (oi := _) (v := ?_) (by simp only [getElem?_toArray, getElem?_cons_succ, getElem?_cons_zero]; rfl) (by kernel_rfl) (by exact fun _ _ _ h => h) (by first | assumption | exact KB.refl _) (.inl ⟨by rfl, fun W hW => ?_⟩) ?_; rotate_left
    ·(go_simp; first | done | with_reducible rfl)
    try simp only [Act.put, List.setIfInBounds_toArray, List.set_cons_zero, List.set_cons_succ]
    refine blastE 25 (o := _) (by simp only [getElem?_toArray, getElem?_cons_succ, getElem?_cons_zero]; rfl) (by kernel_rfl) (by rfl) (by rfl) (fun K hK => ?_)
    go_simp
    skip
    refine hK.out _ _ ?_; clear hK K
    try simp only [Act.put, List.setIfInBounds_toArray, List.set_cons_zero, List.set_cons_succ]
    refine bdoneE (by kernel_rfl) ?_
    have hA2 := (HX.out.2.1.below H1.out.1).below HZ.out.2.2.2
    have hX2 := (HX.out.1.below H1.out.1).below HZ.out.2.2.2
    have hst2 : RSt w2 ⟨(r : Int), A2, c2, addS (ofS (seqsOf (l.take k) (r : Int))) ⟨d.q, d.q⟩⟩ := ⟨HZ.out.1, HZ.out.2.1, HZ.out.2.2.1⟩
    have hstep : ∀ i : Int, ofS (seqsOf (l.take (k + 1)) i) = if i = (r : Int) then addS (ofS (seqsOf (l.take k) (r : Int))) ⟨d.q, d.q⟩ else ofS (seqsOf (l.take k) i) := fun i => by
     rw [ofS_step HX.out.2.2.2.2.2 HP.out, HS.out.2.2.1]
     by_cases h : i = (r : Int)
     ·rw [if_pos h, if_pos h, h]
     ·rw [if_neg h, if_neg h]
    have h3 := XA.store (f' := fun r => ofS (seqsOf (l.take (k + 1)) r)) hX2 hA2 (r := r) (by omega) (s := ⟨A2, (addS (ofS (seqsOf (l.take k) (r : Int))) ⟨d.q, d.q⟩).length, c2⟩) (by (try dsimp only); rw [hstep, if_pos rfl]) (by (try dsimp only); rw [hstep, if_pos rfl]; exact hst2) (fun i _ hne => by (try dsimp only); rw [hstep, if_neg (by omega)])
    have hb3 : Below w.heap.size w (w2.setCell ⟨w.heap.size + 1, r, none⟩ (.slice A2 (addS (ofS (seqsOf (l.take k) (r : Int))) ⟨d.q, d.q⟩).length c2)) := (hb1.trans (HZ.out.2.2.2.mono hb1.size)).setCell (show w.heap.size ≤ w.heap.size + 1 by omega) _
    have h03 : At (w2.setCell ⟨w.heap.size + 1, r, none⟩ (.slice A2 (addS (ofS (seqsOf (l.take k) (r : Int))) ⟨d.q, d.q⟩).length c2)) w.heap.size [.slice none 0 0] := ((HX.out.2.2.1.below H1.out.1).below HZ.out.2.2.2).set_other _ _ (by omega)
    have HW := Lib.hid (And.intro h3 (And.intro h03 hb3))
    have hs3 : w.heap.size + 2 ≤ w2.heap.size := Nat.le_trans HX.out.2.2.2.1 (Nat.le_trans H1.out.1.size HZ.out.2.2.2.size)
    clear h3 h03 hb3 hA2 hX2 hst2 hstep
    go_wp2_with fail
    go_roundw
    case rel => exact ⟨k + 1, X.set r ⟨A2, (addS (ofS (seqsOf (l.take k) (r : Int))) ⟨d.q, d.q⟩).length, c2⟩, by omega, by go_num, HW.out.1.1, HW.out.1.2, HW.out.2.1, by simpa using hs3, HW.out.2.2⟩
    case measure => simp [intOf]; omega
  ·obtain rfl : k = n := by omega
   have hd1 : decide ((k : Int) < (k : Int)) = false := by rw [decide_eq_false_iff_not]; omega
   have hXf : XA wr X (fun r => ofS (seqsOf l r)) := by
    have e : l.take k = l := by rw [HN.out]; exact List.take_length
    rw [e] at hX
    exact hX
   have hlm : ∀ r, (ofS (seqsOf l r)).length ≤ 1000000 := fun r => by
    have a1 := ofS_len (seqsOf l r)
    have a2 : (seqsOf l r).length ≤ l.length := by unfold seqsOf; rw [List.length_map]; exact List.length_filter_le _ _
    have a3 := HN.out
    omega
   have HP := Lib.hid (parts_own wr X _ hXf hlm)
   have hXL : (XA.us X).length = 64 := by rw [XA.us, List.length_map]; exact hX.1
   have HX := Lib.hid (And.intro h0 (And.intro hA.at_ hXL))
   clear hXf hlm hX h0 hA hXL hs
   go_wp2_with (refine opVal rfl (ex_ldT aggA sizeA rfl rfl HX.out.2.1 HX.out.2.2) ?_)
   refine HP.out.mono ?_
   rintro e w1 ⟨A1, c1, R1, rfl, hv1, hR1, hb1⟩
   have h01 := HX.out.1.below hb1
   have z0 := h01.c 0 rfl
   have z1 := h01.f 0 rfl
   have hbz := hbel.trans (hb1.mono hbel.size)
   have hb3 : Below w.heap.size w (w1.setCell ⟨w.heap.size, 0, none⟩ (.slice A1 R1.length c1)) := hbz.setCell (Nat.le_refl _) _
   have HZ := Lib.hid (And.intro (hv1.kept (grownS w1 w.heap.size 0 (.slice A1 R1.length c1)) (by omega)) (And.intro (h01.set 0 (.slice A1 R1.length c1) (by simp)) hb3))
   clear hv1 h01 hb3
   go_wp2_with fail
   exact bodyPost_ret (results_vec rfl _ rfl HZ.out.2.1) rfl ⟨A1, c1, R1, rfl, HZ.out.1.lower (by omega), hR1, HZ.out.2.2⟩
end Go.Proofs.YtaflikgdlkaefaaGreat
