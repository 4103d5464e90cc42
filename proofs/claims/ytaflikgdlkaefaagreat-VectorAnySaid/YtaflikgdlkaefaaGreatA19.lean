/- Vectors: the document's Part, VecBase, VecHas, VecExtra. -/
import Derived.RangeFuncBox
import Derived.Test.YtaflikgdlkaefaaGreatA09
import Derived.Test.YtaflikgdlkaefaaGreatA10
import Derived.Test.YtaflikgdlkaefaaGreatA11
import Derived.Test.YtaflikgdlkaefaaGreatA13
import Derived.Test.YtaflikgdlkaefaaGreatA16
import Derived.Test.YtaflikgdlkaefaaGreatA18
open List (getElem?_toArray getElem?_cons_succ getElem?_cons_zero)
namespace Go.Proofs.YtaflikgdlkaefaaGreat
open Go.RowKit Go.Maps Go.Proofs.YtaflikgdlkaefaaGreat.Pl Go.Proofs.YtaflikgdlkaefaaGreat.Sp Go.Proofs.YtaflikgdlkaefaaGreat.Ve
set_option maxRecDepth 20000

theorem look_drop {V : VL} {k : Nat} {p : Int × List Rg} (h : V[k]? = some p) (r : Int) : look (V.drop k) r = if p.1 = r then some p.2 else look (V.drop (k + 1)) r := by
 obtain ⟨hk, he⟩ := List.getElem?_eq_some_iff.1 h
 rw [List.drop_eq_getElem_cons hk, he]
 exact look_cons p _ r
set_option maxRecDepth 100000 in
set_option maxHeartbeats 3200000 in
theorem Part_any (w : World) (A : Option Addr) (n c : Nat) (R : List RA) (V : VL) (hv : VS w A n c R V) (hl : n ≤ 1000000) (r : Int) :
  Calls Tryz.prog 41 #[.agg #[.slice A n c], .int .i64 r] w (RAns w (partV V r)) := by
 go_enter Tryz.func41, Tryz.ntmps41
 have hb0 : Below w.heap.size w (w.alloc (.cells #[.slice A n c] 24)) := balloc (Below.refl _ _) _
 have x0 : (w.alloc (.cells #[.slice A n c] 24)).cell? ⟨w.heap.size, 0, none⟩ = some (.slice A n c) := by simp
 have xs : w.heap.size < (w.alloc (.cells #[.slice A n c] 24)).heap.size := by simp
 go_wp2_with fail
 generalize w.alloc (.cells #[.slice A n c] 24) = W at *
 go_loopw [5] (fun x5 wr => ∃ (k : Nat), k ≤ n ∧ x5 = .int .i64 (k : Int) ∧ look V r = look (V.drop k) r ∧ wr = W) (fun x5 _ => n - (intOf x5).toNat)
 case atStart => exact ⟨0, by omega, rfl, by simp, rfl⟩
 case round =>
  obtain ⟨k, hk, rfl, hlk, rfl⟩ := hrel
  by_cases hlt : k < n
  ·obtain ⟨q, b, o, _, hV, hq, rfl, hbW, c0, c1⟩ := hv.at_ hlt
   rw [look_drop hV] at hlk
   replace c0 := (hb0.cell hbW).trans c0
   replace c1 := (hb0.cell hbW).trans c1
   have hd1 : decide ((k : Int) < (n : Int)) = true := by rw [decide_eq_true_eq]; omega
   have hn0 : (0 : Int) ≤ (k : Int) := by omega
   have hn1 : (k : Int) < (n : Int) := by omega
   have hq2 := Lib.hid (hq.below hb0)
   obtain ⟨r', A', c', l⟩ := q
   dsimp only at *
   by_cases g : r' = r
   ·have hd2 : ((r' : Int) == r) = true := by simpa using g
    have HF := Lib.hid (show partV V r = l by rw [partV, hlk, if_pos g]; rfl)
    clear hlk g hv hq hV
    go_wp2_with fail
    go_ret
    rw [HF.out]
    exact ⟨A', c', rfl, hq2.out.1, hq2.out.2.1, hq2.out.2.2, hb0⟩
   ·have hd2 : ((r' : Int) == r) = false := by simpa using g
    rw [if_neg g] at hlk
    have HK := Lib.hid hlk
    clear hlk g hv hq hV
    go_wp2_with fail
    go_roundw
    case rel => exact ⟨k + 1, by omega, by go_num, HK.out, by first | rfl | trivial⟩
    case measure => simp [intOf]; omega
  ·obtain rfl : k = n := by omega
   have hd1 : decide ((k : Int) < (k : Int)) = false := by rw [decide_eq_false_iff_not]; omega
   have HF := Lib.hid (show partV V r = [] by rw [partV, hlk, ← hv.len, List.drop_length]; rfl)
   clear hlk hv
   go_wp2_with fail
   go_ret
   rw [HF.out]
   exact RAns.nil hb0
end Go.Proofs.YtaflikgdlkaefaaGreat
/- Vectors: the document's VecBase, VecExtra. -/
namespace Go.Proofs.YtaflikgdlkaefaaGreat
open Go.RowKit Go.Maps Go.Proofs.YtaflikgdlkaefaaGreat.Pl Go.Proofs.YtaflikgdlkaefaaGreat.Sp Go.Proofs.YtaflikgdlkaefaaGreat.Ve
set_option maxRecDepth 20000

set_option maxRecDepth 100000 in
set_option maxHeartbeats 3200000 in
theorem RVBase_any (w : World) (A : Option Addr) (n c : Nat) (R : List RA) (V : VL) (hv : VS w A n c R V) (hl : n ≤ 1000000) (hm : Lim 1000000 V) (r : Int) :
  Calls Tryz.prog 14 #[.agg #[.slice A n c], .int .i64 r] w fun e w' => e = .returned (.int .i64 (baseV V r)) ∧ Below w.heap.size w w' := by
 have hb0 : Below w.heap.size w (w.alloc (.cells #[.slice A n c] 24)) := balloc (Below.refl _ _) _
 have x0 : (w.alloc (.cells #[.slice A n c] 24)).cell? ⟨w.heap.size, 0, none⟩ = some (.slice A n c) := by simp
 have xs : w.heap.size < (w.alloc (.cells #[.slice A n c] 24)).heap.size := by simp
 have HR := Lib.hid (RVRight_any _ A n c R V (hv.below hb0) hl hm)
 obtain ⟨p, hp⟩ : ∃ p, rightV V = p := ⟨_, rfl⟩
 rw [hp] at HR
 cases p with
 | false =>
  have HF := Lib.hid (show baseV V r = 0 by rw [baseV, if_neg (by rw [hp]; simp)])
  clear hp hv hm
  go_enter Tryz.func14, Tryz.ntmps14
  go_wp2_with fail
  refine HR.out.mono ?_
  rintro e w1 ⟨rfl, h1⟩
  have hbz := hb0.trans (h1.mono hb0.size)
  go_wp2_with fail
  go_ret
  exact ⟨ret_i HF.out.symm, hbz⟩
 | true =>
  have HF := Lib.hid (show baseV V r = firstS (partV V r) by rw [baseV, if_pos hp])
  have HT := Lib.hid (fun W (hW : Below w.heap.size w W) => Part_any W A n c R V (hv.below hW) hl r)
  have HL := Lib.hid (hm.part r)
  clear hp hv hm
  go_enter Tryz.func14, Tryz.ntmps14
  go_wp2_with fail
  refine HR.out.mono ?_
  rintro e w1 ⟨rfl, h1⟩
  have hbz := hb0.trans (h1.mono hb0.size)
  have y0 := (h1.cell xs).trans x0
  clear x0 h1
  go_wp2_with fail
  refine (HT.out _ hbz).mono ?_
  rintro e w2 ⟨A', c', rfl, hs2, hn2, hc2, h2⟩
  have hbv := hbz.trans (h2.mono hbz.size)
  go_wp2_with fail
  refine (RRFirst_any w2 A' _ c' (partV V r) hs2 rfl (by have := HL.out; omega)).mono ?_
  rintro e w3 ⟨rfl, h3⟩
  have hbu := hbv.trans (h3.mono hbv.size)
  go_wp2_with fail
  go_ret
  exact ⟨ret_i HF.out.symm, hbu⟩
set_option maxRecDepth 100000 in
set_option maxHeartbeats 3200000 in
theorem RVExtra_own (w : World) (A : Option Addr) (n c : Nat) (R : List RA) (V : VL) (hv : VS w A n c R V) (hl : n ≤ 1000000) (hm : Lim 1000000 V) (r : Int) :
  Calls Tryz.prog 17 #[.agg #[.slice A n c], .int .i64 r] w fun e w' => ∃ v, e = .returned v ∧ OwnR w' w.heap.size v (extraV V r) ∧ Below w.heap.size w w' := by
 have hb0 : Below w.heap.size w (w.alloc (.cells #[.slice A n c] 24)) := balloc (Below.refl _ _) _
 have x0 : (w.alloc (.cells #[.slice A n c] 24)).cell? ⟨w.heap.size, 0, none⟩ = some (.slice A n c) := by simp
 have xs : w.heap.size < (w.alloc (.cells #[.slice A n c] 24)).heap.size := by simp
 have HR := Lib.hid (RVRight_any _ A n c R V (hv.below hb0) hl hm)
 obtain ⟨p, hp⟩ : ∃ p, rightV V = p := ⟨_, rfl⟩
 rw [hp] at HR
 cases p with
 | false =>
  have HF := Lib.hid (show extraV V r = [] by rw [extraV, if_neg (by rw [hp]; simp)])
  clear hp hv hm
  go_enter Tryz.func17, Tryz.ntmps17
  go_wp2_with fail
  refine HR.out.mono ?_
  rintro e w1 ⟨rfl, h1⟩
  have hbz := hb0.trans (h1.mono hb0.size)
  go_wp2_with fail
  go_ret
  rw [HF.out]
  exact ⟨_, rfl, OwnR.nil _ _, hbz⟩
 | true =>
  have HF := Lib.hid (show extraV V r = extraS (partV V r) by rw [extraV, if_pos hp])
  have HT := Lib.hid (fun W (hW : Below w.heap.size w W) => Part_any W A n c R V (hv.below hW) hl r)
  have HL := Lib.hid (hm.part r)
  clear hp hv hm
  go_enter Tryz.func17, Tryz.ntmps17
  go_wp2_with fail
  refine HR.out.mono ?_
  rintro e w1 ⟨rfl, h1⟩
  have hbz := hb0.trans (h1.mono hb0.size)
  have y0 := (h1.cell xs).trans x0
  clear x0 h1
  go_wp2_with fail
  refine (HT.out _ hbz).mono ?_
  rintro e w2 ⟨A', c', rfl, hs2, hn2, hc2, h2⟩
  have hbv := hbz.trans (h2.mono hbz.size)
  obtain ⟨l, hlE⟩ : ∃ l, partV V r = l := ⟨_, rfl⟩
  rw [hlE] at HF HL hs2 hn2 ⊢
  clear hlE y0 h2
  go_wp2_with fail
  refine (RRFirst_any w2 A' _ c' l hs2 rfl (by have := HL.out; omega)).mono ?_
  rintro e w3 ⟨rfl, h3⟩
  have hbu := hbv.trans (h3.mono hbv.size)
  have hs3 := (hs2.below h3).more h3.size
  have HL3 := HL.out
  clear h3 hs2
  by_cases hf : 0 < firstS l
  ·have hd1 : decide (0 < firstS l) = true := decide_eq_true hf
   have hpos : 1 ≤ l.length := by
    rcases Nat.eq_zero_or_pos l.length with h | h
    ·rw [List.eq_nil_of_length_eq_zero h] at hf
     exact absurd hf (by decide)
    ·exact h
   obtain ⟨A2, hsl, hS2⟩ := sl_postR A' l.length c' 1 hpos hn2
   have HSL := Lib.hid hsl
   have hs4 := hS2 w3 _ l rfl hs3
   have HG := Lib.hid (show extraV V r = l.drop 1 by rw [HF.out, extraS, if_pos hf])
   have hx4 : l.length - 1 = (l.drop 1).length := by rw [List.length_drop]
   have HX4 := Lib.hid hx4
   clear hf hsl hS2 hx4
   go_wp2_with (first | (refine mval rfl (exec_postR rfl rfl rfl HSL.out _) ?_) | (at_builtin; refine appR rfl rfl (OwnR.nil w3 w3.heap.size) hs4 HX4.out rfl rfl (by have := HX4.out; simp; omega) (Nat.le_refl _) ?_; intro v5 w5 hown5 hg5 hat5))
   go_ret
   rw [List.nil_append] at hown5
   have hb5 := below_of_grown hg5 (by simp [Value.ownBlock]) (Nat.le_refl _)
   rw [HG.out]
   exact ⟨_, rfl, hown5.lower hbu.size, hbu.trans (hb5.mono hbu.size)⟩
  ·have hd1 : decide (0 < firstS l) = false := decide_eq_false hf
   have HG := Lib.hid (show extraV V r = l by rw [HF.out, extraS, if_neg hf])
   clear hf
   go_wp2_with (at_builtin; refine appR rfl rfl (OwnR.nil w3 w3.heap.size) hs3 rfl rfl rfl (by simp; omega) (Nat.le_refl _) ?_; intro v5 w5 hown5 hg5 hat5)
   go_ret
   rw [List.nil_append] at hown5
   have hb5 := below_of_grown hg5 (by simp [Value.ownBlock]) (Nat.le_refl _)
   rw [HG.out]
   exact ⟨_, rfl, hown5.lower hbu.size, hbu.trans (hb5.mono hbu.size)⟩
theorem RVExtra_any (w : World) (A : Option Addr) (n c : Nat) (R : List RA) (V : VL) (hv : VS w A n c R V) (hl : n ≤ 1000000) (hm : Lim 1000000 V) (r : Int) :
  Calls Tryz.prog 17 #[.agg #[.slice A n c], .int .i64 r] w (RAns w (extraV V r)) := by
 refine (RVExtra_own w A n c R V hv hl hm r).mono ?_
 rintro e w' ⟨v, rfl, h1, h2⟩
 exact RAns.of h1 h2
end Go.Proofs.YtaflikgdlkaefaaGreat
/- Vectors: the document's VecHas and VecCount. -/
namespace Go.Proofs.YtaflikgdlkaefaaGreat
open Go.RowKit Go.Maps Go.Proofs.YtaflikgdlkaefaaGreat.Pl Go.Proofs.YtaflikgdlkaefaaGreat.Sp Go.Proofs.YtaflikgdlkaefaaGreat.Ve
set_option maxRecDepth 20000

set_option maxRecDepth 100000 in
set_option maxHeartbeats 6400000 in
theorem RVHas_any (w : World) (A : Option Addr) (n c : Nat) (R : List RA) (V : VL) (hv : VS w A n c R V) (hl : n ≤ 1000000) (hm : Lim 1000000 V) (d : Dt.D2) :
  Calls Tryz.prog 10 #[.agg #[.slice A n c], .agg #[.int .i64 d.r, .int .i64 d.q]] w fun e w' => e = .returned (.bool (hasV V d)) ∧ Below w.heap.size w w' := by
 have hb0 : Below w.heap.size w ((w.alloc (.cells #[.slice A n c] 24)).alloc (.cells #[.int .i64 d.r, .int .i64 d.q] 26)) := balloc (balloc (Below.refl _ _) _) _
 have a0 : At ((w.alloc (.cells #[.slice A n c] 24)).alloc (.cells #[.int .i64 d.r, .int .i64 d.q] 26)) w.heap.size [.slice A n c] := (At.new w 24 #[.slice A n c]).alloc _
 have a1 : At ((w.alloc (.cells #[.slice A n c] 24)).alloc (.cells #[.int .i64 d.r, .int .i64 d.q] 26)) (w.heap.size + 1) [.int .i64 d.r, .int .i64 d.q] := by
  have := At.new (w.alloc (.cells #[.slice A n c] 24)) 26 #[.int .i64 d.r, .int .i64 d.q]
  rw [World.size_alloc] at this
  exact this
 have hv0 := hv.below hb0
 have hdr := fun W => RDRight_any W d
 unfold Dt.D2.v at hdr
 clear hv
 go_enter Tryz.func10, Tryz.ntmps10
 go_wp2_with fail
 generalize (w.alloc (.cells #[.slice A n c] 24)).alloc (.cells #[.int .i64 d.r, .int .i64 d.q] 26) = W0 at *
 obtain ⟨p, hp⟩ : ∃ p, rightV V = p := ⟨_, rfl⟩
 obtain ⟨q, hq⟩ : ∃ q, d.right = q := ⟨_, rfl⟩
 have HP := Lib.hid (And.intro hp hq)
 have HV := Lib.hid (And.intro hv0 (And.intro a0 (And.intro a1 (And.intro hm hb0))))
 have HD := Lib.hid hdr
 have e0 := a0.e 0 rfl
 have e1 := a1.e 0 rfl
 have e2 := a1.e 1 rfl
 have hbd : Below W0.heap.size W0 W0.drew := (Below.refl _ W0).drew
 clear hv0 a0 a1 hm hb0 hp hq hdr
 cases p with
 | false =>
  have HF := Lib.hid (show hasV V d = false by rw [hasV, HP.out.1]; simp)
  refine bstartH (W0.heap) (by kernel_rfl) ?_
  refine btake 0 (oi := _) (v := ?_) (by simp only [List.getElem?_toArray, List.getElem?_cons_zero]; rfl) (by kernel_rfl) (by exact fun _ _ _ h => h) (by first | assumption | exact KB.refl _) (.inl ⟨by rfl, fun W hW => ?_⟩) ?_; rotate_left
  ·(go_simp; first | done | with_reducible rfl)
  try simp only [Act.put, List.setIfInBounds_toArray, List.set_cons_zero, List.set_cons_succ]
  refine bopH 1 (o := _) (by simp only [getElem?_toArray, getElem?_cons_succ, getElem?_cons_zero]; rfl) (by kernel_rfl) (by first | assumption | exact KB.refl _) (by rfl) (fun K hK => ?_)
  go_simp
  refine (RVRight_any W0.drew A n c R V HV.out.1.drew hl HV.out.2.2.2.1).mono ?_
  rintro e u1 ⟨rfl, h1⟩
  rw [HP.out.1]
  have B1 := Lib.hid (hbd.trans (h1.mono hbd.size))
  have hkb : KB W0.heap u1 := KB.of B1.out
  clear h1
  refine hK.out _ _ hkb ?_; clear hK K
  try simp only [Act.put, List.setIfInBounds_toArray, List.set_cons_zero, List.set_cons_succ]
  refine btake 2 (oi := _) (v := ?_) (by simp only [getElem?_toArray, getElem?_cons_succ, getElem?_cons_zero]; rfl) (by kernel_rfl) (by exact fun _ _ _ h => h) (by first | assumption | exact KB.refl _) (.inl ⟨by rfl, fun W hW => ?_⟩) ?_; rotate_left
  ·(go_simp; first | done | with_reducible rfl)
  try simp only [Act.put, List.setIfInBounds_toArray, List.set_cons_zero, List.set_cons_succ]
  refine btake 3 (oi := _) (v := undef) (by simp only [getElem?_toArray, getElem?_cons_succ, getElem?_cons_zero]; rfl) (by kernel_rfl) (by exact fun _ _ _ h => h) (by first | assumption | exact KB.refl _) (.inr ⟨by rfl, rfl⟩) ?_
  try simp only [Act.put, List.setIfInBounds_toArray, List.set_cons_zero, List.set_cons_succ]
  refine btake 4 (oi := _) (v := undef) (by simp only [getElem?_toArray, getElem?_cons_succ, getElem?_cons_zero]; rfl) (by kernel_rfl) (by exact fun _ _ _ h => h) (by first | assumption | exact KB.refl _) (.inr ⟨by rfl, rfl⟩) ?_
  try simp only [Act.put, List.setIfInBounds_toArray, List.set_cons_zero, List.set_cons_succ]
  refine btake 5 (oi := _) (v := ?_) (by simp only [getElem?_toArray, getElem?_cons_succ, getElem?_cons_zero]; rfl) (by kernel_rfl) (by exact fun _ _ _ h => h) (by first | assumption | exact KB.refl _) (.inl ⟨by rfl, fun W hW => ?_⟩) ?_; rotate_left
  ·(go_simp; first | done | with_reducible rfl)
  try simp only [Act.put, List.setIfInBounds_toArray, List.set_cons_zero, List.set_cons_succ]
  refine btake 6 (oi := _) (v := ?_) (by simp only [getElem?_toArray, getElem?_cons_succ, getElem?_cons_zero]; rfl) (by kernel_rfl) (by exact fun _ _ _ h => h) (by first | assumption | exact KB.refl _) (.inl ⟨by rfl, fun W hW => ?_⟩) ?_; rotate_left
  ·(go_simp; first | done | with_reducible rfl)
  try simp only [Act.put, List.setIfInBounds_toArray, List.set_cons_zero, List.set_cons_succ]
  refine btake 7 (oi := _) (v := undef) (by simp only [getElem?_toArray, getElem?_cons_succ, getElem?_cons_zero]; rfl) (by kernel_rfl) (by exact fun _ _ _ h => h) (by first | assumption | exact KB.refl _) (.inr ⟨by rfl, rfl⟩) ?_
  try simp only [Act.put, List.setIfInBounds_toArray, List.set_cons_zero, List.set_cons_succ]
  refine btake 8 (oi := _) (v := undef) (by simp only [getElem?_toArray, getElem?_cons_succ, getElem?_cons_zero]; rfl) (by kernel_rfl) (by exact fun _ _ _ h => h) (by first | assumption | exact KB.refl _) (.inr ⟨by rfl, rfl⟩) ?_
  try simp only [Act.put, List.setIfInBounds_toArray, List.set_cons_zero, List.set_cons_succ]
  refine btake 9 (oi := _) (v := undef) (by simp only [getElem?_toArray, getElem?_cons_succ, getElem?_cons_zero]; rfl) (by kernel_rfl) (by exact fun _ _ _ h => h) (by first | assumption | exact KB.refl _) (.inr ⟨by rfl, rfl⟩) ?_
  try simp only [Act.put, List.setIfInBounds_toArray, List.set_cons_zero, List.set_cons_succ]
  refine btake 10 (oi := _) (v := undef) (by simp only [getElem?_toArray, getElem?_cons_succ, getElem?_cons_zero]; rfl) (by kernel_rfl) (by exact fun _ _ _ h => h) (by first | assumption | exact KB.refl _) (.inr ⟨by rfl, rfl⟩) ?_
  try simp only [Act.put, List.setIfInBounds_toArray, List.set_cons_zero, List.set_cons_succ]
  refine btake 11 (oi := _) (v := undef) (by simp only [getElem?_toArray, getElem?_cons_succ, getElem?_cons_zero]; rfl) (by kernel_rfl) (by exact fun _ _ _ h => h) (by first | assumption | exact KB.refl _) (.inr ⟨by rfl, rfl⟩) ?_
  try simp only [Act.put, List.setIfInBounds_toArray, List.set_cons_zero, List.set_cons_succ]
  refine btake 12 (oi := _) (v := undef) (by simp only [getElem?_toArray, getElem?_cons_succ, getElem?_cons_zero]; rfl) (by kernel_rfl) (by exact fun _ _ _ h => h) (by first | assumption | exact KB.refl _) (.inr ⟨by rfl, rfl⟩) ?_
  try simp only [Act.put, List.setIfInBounds_toArray, List.set_cons_zero, List.set_cons_succ]
  refine btake 13 (oi := _) (v := undef) (by simp only [getElem?_toArray, getElem?_cons_succ, getElem?_cons_zero]; rfl) (by kernel_rfl) (by exact fun _ _ _ h => h) (by first | assumption | exact KB.refl _) (.inr ⟨by rfl, rfl⟩) ?_
  try simp only [Act.put, List.setIfInBounds_toArray, List.set_cons_zero, List.set_cons_succ]
  refine btake 14 (oi := _) (v := ?_) (by simp only [getElem?_toArray, getElem?_cons_succ, getElem?_cons_zero]; rfl) (by kernel_rfl) (by exact fun _ _ _ h => h) (by first | assumption | exact KB.refl _) (.inl ⟨by rfl, fun W hW => ?_⟩) ?_; rotate_left
  ·(go_simp; first | done | with_reducible rfl)
  try simp only [Act.put, List.setIfInBounds_toArray, List.set_cons_zero, List.set_cons_succ]
  refine btake 15 (oi := _) (v := ?_) (by simp only [getElem?_toArray, getElem?_cons_succ, getElem?_cons_zero]; rfl) (by kernel_rfl) (by exact fun _ _ _ h => h) (by first | assumption | exact KB.refl _) (.inl ⟨by rfl, fun W hW => ?_⟩) ?_; rotate_left
  ·(go_simp; first | done | with_reducible rfl)
  try simp only [Act.put, List.setIfInBounds_toArray, List.set_cons_zero, List.set_cons_succ]
  refine bdone (by kernel_rfl) ?_
  have hbz := HV.out.2.2.2.2.trans (B1.out.mono HV.out.2.2.2.2.size)
  go_wp2_with fail
  go_ret
  exact ⟨ret_b HF.out.symm, hbz⟩
 | true =>
  cases q with
  | false =>
   have HF := Lib.hid (show hasV V d = false by rw [hasV, HP.out.1, HP.out.2]; simp)
   refine bstartH (W0.heap) (by kernel_rfl) ?_
   refine btake 0 (oi := _) (v := ?_) (by simp only [List.getElem?_toArray, List.getElem?_cons_zero]; rfl) (by kernel_rfl) (by exact fun _ _ _ h => h) (by first | assumption | exact KB.refl _) (.inl ⟨by rfl, fun W hW => ?_⟩) ?_; rotate_left
   ·(go_simp; first | done | with_reducible rfl)
   try simp only [Act.put, List.setIfInBounds_toArray, List.set_cons_zero, List.set_cons_succ]
   refine bopH 1 (o := _) (by simp only [getElem?_toArray, getElem?_cons_succ, getElem?_cons_zero]; rfl) (by kernel_rfl) (by first | assumption | exact KB.refl _) (by rfl) (fun K hK => ?_)
   go_simp
   refine (RVRight_any W0.drew A n c R V HV.out.1.drew hl HV.out.2.2.2.1).mono ?_
   rintro e u1 ⟨rfl, h1⟩
   rw [HP.out.1]
   have B1 := Lib.hid (hbd.trans (h1.mono hbd.size))
   have hkb : KB W0.heap u1 := KB.of B1.out
   clear h1
   refine hK.out _ _ hkb ?_; clear hK K
   try simp only [Act.put, List.setIfInBounds_toArray, List.set_cons_zero, List.set_cons_succ]
   refine btake 2 (oi := _) (v := ?_) (by simp only [getElem?_toArray, getElem?_cons_succ, getElem?_cons_zero]; rfl) (by kernel_rfl) (by exact fun _ _ _ h => h) (by first | assumption | exact KB.refl _) (.inl ⟨by rfl, fun W hW => ?_⟩) ?_; rotate_left
   ·(go_simp; first | done | with_reducible rfl)
   try simp only [Act.put, List.setIfInBounds_toArray, List.set_cons_zero, List.set_cons_succ]
   refine btake 3 (oi := _) (v := ?_) (by simp only [getElem?_toArray, getElem?_cons_succ, getElem?_cons_zero]; rfl) (by kernel_rfl) (by exact fun _ _ _ h => h) (by first | assumption | exact KB.refl _) (.inl ⟨by rfl, fun W hW => ?_⟩) ?_; rotate_left
   ·(go_simp; first | done | with_reducible rfl)
   try simp only [Act.put, List.setIfInBounds_toArray, List.set_cons_zero, List.set_cons_succ]
   refine bopH 4 (o := _) (by simp only [getElem?_toArray, getElem?_cons_succ, getElem?_cons_zero]; rfl) (by kernel_rfl) (by first | assumption | exact KB.refl _) (by rfl) (fun K hK => ?_)
   go_simp
   refine (HD.out u1).mono ?_
   rintro e u4 ⟨rfl, h4⟩
   rw [HP.out.2]
   have B4 := Lib.hid (B1.out.trans (h4.mono B1.out.size))
   have hkb : KB W0.heap u4 := KB.of B4.out
   clear h4
   refine hK.out _ _ hkb ?_; clear hK K
   try simp only [Act.put, List.setIfInBounds_toArray, List.set_cons_zero, List.set_cons_succ]
   refine btake 5 (oi := _) (v := ?_) (by simp only [getElem?_toArray, getElem?_cons_succ, getElem?_cons_zero]; rfl) (by kernel_rfl) (by exact fun _ _ _ h => h) (by first | assumption | exact KB.refl _) (.inl ⟨by rfl, fun W hW => ?_⟩) ?_; rotate_left
   ·(go_simp; first | done | with_reducible rfl)
   try simp only [Act.put, List.setIfInBounds_toArray, List.set_cons_zero, List.set_cons_succ]
   refine btake 6 (oi := _) (v := ?_) (by simp only [getElem?_toArray, getElem?_cons_succ, getElem?_cons_zero]; rfl) (by kernel_rfl) (by exact fun _ _ _ h => h) (by first | assumption | exact KB.refl _) (.inl ⟨by rfl, fun W hW => ?_⟩) ?_; rotate_left
   ·(go_simp; first | done | with_reducible rfl)
   try simp only [Act.put, List.setIfInBounds_toArray, List.set_cons_zero, List.set_cons_succ]
   refine btake 7 (oi := _) (v := undef) (by simp only [getElem?_toArray, getElem?_cons_succ, getElem?_cons_zero]; rfl) (by kernel_rfl) (by exact fun _ _ _ h => h) (by first | assumption | exact KB.refl _) (.inr ⟨by rfl, rfl⟩) ?_
   try simp only [Act.put, List.setIfInBounds_toArray, List.set_cons_zero, List.set_cons_succ]
   refine btake 8 (oi := _) (v := undef) (by simp only [getElem?_toArray, getElem?_cons_succ, getElem?_cons_zero]; rfl) (by kernel_rfl) (by exact fun _ _ _ h => h) (by first | assumption | exact KB.refl _) (.inr ⟨by rfl, rfl⟩) ?_
   try simp only [Act.put, List.setIfInBounds_toArray, List.set_cons_zero, List.set_cons_succ]
   refine btake 9 (oi := _) (v := undef) (by simp only [getElem?_toArray, getElem?_cons_succ, getElem?_cons_zero]; rfl) (by kernel_rfl) (by exact fun _ _ _ h => h) (by first | assumption | exact KB.refl _) (.inr ⟨by rfl, rfl⟩) ?_
   try simp only [Act.put, List.setIfInBounds_toArray, List.set_cons_zero, List.set_cons_succ]
   refine btake 10 (oi := _) (v := undef) (by simp only [getElem?_toArray, getElem?_cons_succ, getElem?_cons_zero]; rfl) (by kernel_rfl) (by exact fun _ _ _ h => h) (by first | assumption | exact KB.refl _) (.inr ⟨by rfl, rfl⟩) ?_
   try simp only [Act.put, List.setIfInBounds_toArray, List.set_cons_zero, List.set_cons_succ]
   refine btake 11 (oi := _) (v := undef) (by simp only [getElem?_toArray, getElem?_cons_succ, getElem?_cons_zero]; rfl) (by kernel_rfl) (by exact fun _ _ _ h => h) (by first | assumption | exact KB.refl _) (.inr ⟨by rfl, rfl⟩) ?_
   try simp only [Act.put, List.setIfInBounds_toArray, List.set_cons_zero, List.set_cons_succ]
   refine btake 12 (oi := _) (v := undef) (by simp only [getElem?_toArray, getElem?_cons_succ, getElem?_cons_zero]; rfl) (by kernel_rfl) (by exact fun _ _ _ h => h) (by first | assumption | exact KB.refl _) (.inr ⟨by rfl, rfl⟩) ?_
   try simp only [Act.put, List.setIfInBounds_toArray, List.set_cons_zero, List.set_cons_succ]
   refine btake 13 (oi := _) (v := undef) (by simp only [getElem?_toArray, getElem?_cons_succ, getElem?_cons_zero]; rfl) (by kernel_rfl) (by exact fun _ _ _ h => h) (by first | assumption | exact KB.refl _) (.inr ⟨by rfl, rfl⟩) ?_
   try simp only [Act.put, List.setIfInBounds_toArray, List.set_cons_zero, List.set_cons_succ]
   refine btake 14 (oi := _) (v := ?_) (by simp only [getElem?_toArray, getElem?_cons_succ, getElem?_cons_zero]; rfl) (by kernel_rfl) (by exact fun _ _ _ h => h) (by first | assumption | exact KB.refl _) (.inl ⟨by rfl, fun W hW => ?_⟩) ?_; rotate_left
   ·(go_simp; first | done | with_reducible rfl)
   try simp only [Act.put, List.setIfInBounds_toArray, List.set_cons_zero, List.set_cons_succ]
   refine btake 15 (oi := _) (v := ?_) (by simp only [getElem?_toArray, getElem?_cons_succ, getElem?_cons_zero]; rfl) (by kernel_rfl) (by exact fun _ _ _ h => h) (by first | assumption | exact KB.refl _) (.inl ⟨by rfl, fun W hW => ?_⟩) ?_; rotate_left
   ·(go_simp; first | done | with_reducible rfl)
   try simp only [Act.put, List.setIfInBounds_toArray, List.set_cons_zero, List.set_cons_succ]
   refine bdone (by kernel_rfl) ?_
   have hbz := HV.out.2.2.2.2.trans (B4.out.mono HV.out.2.2.2.2.size)
   go_wp2_with fail
   go_ret
   exact ⟨ret_b HF.out.symm, hbz⟩
  | true =>
   have HF := Lib.hid (show hasV V d = hasS (partV V d.r) d.q by rw [hasV, HP.out.1, HP.out.2]; simp)
   refine bstartH (W0.heap) (by kernel_rfl) ?_
   refine btake 0 (oi := _) (v := ?_) (by simp only [List.getElem?_toArray, List.getElem?_cons_zero]; rfl) (by kernel_rfl) (by exact fun _ _ _ h => h) (by first | assumption | exact KB.refl _) (.inl ⟨by rfl, fun W hW => ?_⟩) ?_; rotate_left
   ·(go_simp; first | done | with_reducible rfl)
   try simp only [Act.put, List.setIfInBounds_toArray, List.set_cons_zero, List.set_cons_succ]
   refine bopH 1 (o := _) (by simp only [getElem?_toArray, getElem?_cons_succ, getElem?_cons_zero]; rfl) (by kernel_rfl) (by first | assumption | exact KB.refl _) (by rfl) (fun K hK => ?_)
   go_simp
   refine (RVRight_any W0.drew A n c R V HV.out.1.drew hl HV.out.2.2.2.1).mono ?_
   rintro e u1 ⟨rfl, h1⟩
   rw [HP.out.1]
   have B1 := Lib.hid (hbd.trans (h1.mono hbd.size))
   have hkb : KB W0.heap u1 := KB.of B1.out
   clear h1
   refine hK.out _ _ hkb ?_; clear hK K
   try simp only [Act.put, List.setIfInBounds_toArray, List.set_cons_zero, List.set_cons_succ]
   refine btake 2 (oi := _) (v := ?_) (by simp only [getElem?_toArray, getElem?_cons_succ, getElem?_cons_zero]; rfl) (by kernel_rfl) (by exact fun _ _ _ h => h) (by first | assumption | exact KB.refl _) (.inl ⟨by rfl, fun W hW => ?_⟩) ?_; rotate_left
   ·(go_simp; first | done | with_reducible rfl)
   try simp only [Act.put, List.setIfInBounds_toArray, List.set_cons_zero, List.set_cons_succ]
   refine btake 3 (oi := _) (v := ?_) (by simp only [getElem?_toArray, getElem?_cons_succ, getElem?_cons_zero]; rfl) (by kernel_rfl) (by exact fun _ _ _ h => h) (by first | assumption | exact KB.refl _) (.inl ⟨by rfl, fun W hW => ?_⟩) ?_; rotate_left
   ·(go_simp; first | done | with_reducible rfl)
   try simp only [Act.put, List.setIfInBounds_toArray, List.set_cons_zero, List.set_cons_succ]
   refine bopH 4 (o := _) (by simp only [getElem?_toArray, getElem?_cons_succ, getElem?_cons_zero]; rfl) (by kernel_rfl) (by first | assumption | exact KB.refl _) (by rfl) (fun K hK => ?_)
   go_simp
   refine (HD.out u1).mono ?_
   rintro e u4 ⟨rfl, h4⟩
   rw [HP.out.2]
   have B4 := Lib.hid (B1.out.trans (h4.mono B1.out.size))
   have hkb : KB W0.heap u4 := KB.of B4.out
   clear h4
   refine hK.out _ _ hkb ?_; clear hK K
   try simp only [Act.put, List.setIfInBounds_toArray, List.set_cons_zero, List.set_cons_succ]
   refine btake 5 (oi := _) (v := ?_) (by simp only [getElem?_toArray, getElem?_cons_succ, getElem?_cons_zero]; rfl) (by kernel_rfl) (by exact fun _ _ _ h => h) (by first | assumption | exact KB.refl _) (.inl ⟨by rfl, fun W hW => ?_⟩) ?_; rotate_left
   ·(go_simp; first | done | with_reducible rfl)
   try simp only [Act.put, List.setIfInBounds_toArray, List.set_cons_zero, List.set_cons_succ]
   refine btake 6 (oi := _) (v := ?_) (by simp only [getElem?_toArray, getElem?_cons_succ, getElem?_cons_zero]; rfl) (by kernel_rfl) (by exact fun _ _ _ h => h) (by first | assumption | exact KB.refl _) (.inl ⟨by rfl, fun W hW => ?_⟩) ?_; rotate_left
   ·(go_simp; first | done | with_reducible rfl)
   try simp only [Act.put, List.setIfInBounds_toArray, List.set_cons_zero, List.set_cons_succ]
   refine btake 7 (oi := _) (v := ?_) (by simp only [getElem?_toArray, getElem?_cons_succ, getElem?_cons_zero]; rfl) (by kernel_rfl) (by exact fun _ _ _ h => h) (by first | assumption | exact KB.refl _) (.inl ⟨by rfl, fun W hW => ?_⟩) ?_; rotate_left
   ·(go_simp; first | done | with_reducible rfl)
   try simp only [Act.put, List.setIfInBounds_toArray, List.set_cons_zero, List.set_cons_succ]
   refine btake 8 (oi := _) (v := ?_) (by simp only [getElem?_toArray, getElem?_cons_succ, getElem?_cons_zero]; rfl) (by kernel_rfl) (by exact fun _ _ _ h => h) (by first | assumption | exact KB.refl _) (.inl ⟨by rfl, fun W hW => ?_⟩) ?_; rotate_left
   ·(go_simp; first | done | with_reducible rfl)
   try simp only [Act.put, List.setIfInBounds_toArray, List.set_cons_zero, List.set_cons_succ]
   refine btake 9 (oi := _) (v := ?_) (by simp only [getElem?_toArray, getElem?_cons_succ, getElem?_cons_zero]; rfl) (by kernel_rfl) (by exact fun _ _ _ h => h) (by first | assumption | exact KB.refl _) (.inl ⟨by rfl, fun W hW => ?_⟩) ?_; rotate_left
   ·(go_simp; first | done | with_reducible rfl)
   try simp only [Act.put, List.setIfInBounds_toArray, List.set_cons_zero, List.set_cons_succ]
   refine btake 11 (oi := _) (v := ?_) (by simp only [getElem?_toArray, getElem?_cons_succ, getElem?_cons_zero]; rfl) (by kernel_rfl) (by exact fun _ _ _ h => h) (by first | assumption | exact KB.refl _) (.inl ⟨by rfl, fun W hW => ?_⟩) ?_; rotate_left
   ·(go_simp; first | done | with_reducible rfl)
   try simp only [Act.put, List.setIfInBounds_toArray, List.set_cons_zero, List.set_cons_succ]
   refine btake 12 (oi := _) (v := ?_) (by simp only [getElem?_toArray, getElem?_cons_succ, getElem?_cons_zero]; rfl) (by kernel_rfl) (by exact fun _ _ _ h => h) (by first | assumption | exact KB.refl _) (.inl ⟨by rfl, fun W hW => ?_⟩) ?_; rotate_left
   ·(go_simp; first | done | with_reducible rfl)
   try simp only [Act.put, List.setIfInBounds_toArray, List.set_cons_zero, List.set_cons_succ]
   refine bopH 10 (o := _) (by simp only [getElem?_toArray, getElem?_cons_succ, getElem?_cons_zero]; rfl) (by kernel_rfl) (by first | assumption | exact KB.refl _) (by rfl) (fun K hK => ?_)
   go_simp
   refine (Part_any u4 A n c R V (HV.out.1.below B4.out) hl d.r).mono ?_
   rintro e u10 ⟨A10, c10, rfl, hs10, hn10, hc10, h10⟩
   have B10 := Lib.hid (B4.out.trans (h10.mono B4.out.size))
   have hkb : KB W0.heap u10 := KB.of B10.out
   have S10 := Lib.hid hs10
   clear h10 hs10 hn10 hc10
   refine hK.out _ _ hkb ?_; clear hK K
   try simp only [Act.put, List.setIfInBounds_toArray, List.set_cons_zero, List.set_cons_succ]
   refine bopH 13 (o := _) (by simp only [getElem?_toArray, getElem?_cons_succ, getElem?_cons_zero]; rfl) (by kernel_rfl) (by first | assumption | exact KB.refl _) (by rfl) (fun K hK => ?_)
   go_simp
   refine (RRHas_any u10 A10 _ c10 (partV V d.r) S10.out rfl (Nat.le_trans (HV.out.2.2.2.1.part _) (by omega)) d.q).mono ?_
   rintro e u13 ⟨rfl, h13⟩
   have B13 := Lib.hid (B10.out.trans (h13.mono B10.out.size))
   have hkb : KB W0.heap u13 := KB.of B13.out
   clear h13
   refine hK.out _ _ hkb ?_; clear hK K
   try simp only [Act.put, List.setIfInBounds_toArray, List.set_cons_zero, List.set_cons_succ]
   refine btake 14 (oi := _) (v := ?_) (by simp only [getElem?_toArray, getElem?_cons_succ, getElem?_cons_zero]; rfl) (by kernel_rfl) (by exact fun _ _ _ h => h) (by first | assumption | exact KB.refl _) (.inl ⟨by rfl, fun W hW => ?_⟩) ?_; rotate_left
   ·(go_simp; first | done | with_reducible rfl)
   try simp only [Act.put, List.setIfInBounds_toArray, List.set_cons_zero, List.set_cons_succ]
   refine btake 15 (oi := _) (v := ?_) (by simp only [getElem?_toArray, getElem?_cons_succ, getElem?_cons_zero]; rfl) (by kernel_rfl) (by exact fun _ _ _ h => h) (by first | assumption | exact KB.refl _) (.inl ⟨by rfl, fun W hW => ?_⟩) ?_; rotate_left
   ·(go_simp; first | done | with_reducible rfl)
   try simp only [Act.put, List.setIfInBounds_toArray, List.set_cons_zero, List.set_cons_succ]
   refine bdone (by kernel_rfl) ?_
   have hbz := HV.out.2.2.2.2.trans (B13.out.mono HV.out.2.2.2.2.size)
   go_wp2_with fail
   go_ret
   exact ⟨ret_b HF.out.symm, hbz⟩
set_option maxRecDepth 100000 in
set_option maxHeartbeats 6400000 in
theorem RVCount_any (w : World) (A : Option Addr) (n c : Nat) (R : List RA) (V : VL) (hv : VS w A n c R V) (hl : n ≤ 1000000) (hm : Lim 1000000 V) :
  Calls Tryz.prog 12 #[.agg #[.slice A n c]] w fun e w' => e = .returned (.int .i64 (countV V)) ∧ Below w.heap.size w w' := by
 have hb0 : Below w.heap.size w (w.alloc (.cells #[.slice A n c] 24)) := balloc (Below.refl _ _) _
 have a0 : At (w.alloc (.cells #[.slice A n c] 24)) w.heap.size [.slice A n c] := At.new w 24 #[.slice A n c]
 have hv0 := hv.below hb0
 clear hv
 go_enter Tryz.func12, Tryz.ntmps12
 go_wp2_with fail
 generalize w.alloc (.cells #[.slice A n c] 24) = W0 at *
 obtain ⟨p, hp⟩ : ∃ p, rightV V = p := ⟨_, rfl⟩
 have HV := Lib.hid (And.intro hv0 (And.intro a0 (And.intro hm (And.intro hp hb0))))
 cases p with
 | false =>
  have HF := Lib.hid (show countV V = 0 by rw [countV, if_neg (by rw [hp]; simp)])
  have hpos : 0 < n := by
   rw [← hv0.len]
   cases V with
   | nil => exact absurd hp (by simp [rightV, okV])
   | cons a t => simp
  clear hv0 a0 hm hp hb0
  go_loopw [3, 4] (fun x3 x4 wr => x3 = .int .i64 0 ∧ x4 = .int .i64 0 ∧ Below W0.heap.size W0 wr) (fun _ _ _ => 0)
  case atStart => exact ⟨rfl, rfl, Below.refl _ _⟩
  case round =>
   obtain ⟨rfl, rfl, hbel⟩ := hrel
   have y0 := (HV.out.2.1.below hbel).c 0 rfl
   have hd1 : decide ((0 : Int) < (n : Int)) = true := by rw [decide_eq_true_eq]; omega
   go_wp2_with fail
   refine (RVRight_any wr A n c R V (HV.out.1.below hbel) hl HV.out.2.2.1).mono ?_
   rintro e w1 ⟨rfl, h1⟩
   rw [HV.out.2.2.2.1]
   have hbz := HV.out.2.2.2.2.trans ((hbel.trans (h1.mono hbel.size)).mono HV.out.2.2.2.2.size)
   go_wp2_with fail
   go_ret
   exact ⟨ret_i HF.out.symm, hbz⟩
 | true =>
  have hn64 : n ≤ 64 := by rw [← hv0.len]; exact right_length hp
  have HF := Lib.hid (show countV V = sumV V by rw [countV, if_pos hp])
  clear hv0 a0 hm hp hb0
  go_loopw [3, 4] (fun x3 x4 wr => ∃ (k : Nat) (s : Int), k ≤ n ∧ x4 = .int .i64 (k : Int) ∧ x3 = .int .i64 s ∧ 0 ≤ s ∧ sumV V = s + sumV (V.drop k) ∧ Below W0.heap.size W0 wr) (fun _ x4 _ => n - (intOf x4).toNat)
  case atStart => exact ⟨0, 0, by omega, rfl, rfl, by omega, by simp, Below.refl _ _⟩
  case round =>
   obtain ⟨k, s, hk, rfl, rfl, hs0, hs, hbel⟩ := hrel
   have y0 := (HV.out.2.1.below hbel).c 0 rfl
   by_cases hlt : k < n
   ·have hd1 : decide ((k : Int) < (n : Int)) = true := by rw [decide_eq_true_eq]; omega
    have hn0 : (0 : Int) ≤ (k : Int) := by omega
    have hn1 : (k : Int) < (n : Int) := by omega
    go_wp2_with fail
    refine (RVRight_any wr A n c R V (HV.out.1.below hbel) hl HV.out.2.2.1).mono ?_
    rintro e w1 ⟨rfl, h1⟩
    rw [HV.out.2.2.2.1]
    have hb1 := hbel.trans (h1.mono hbel.size)
    obtain ⟨q, b, o, _, hV, hq, rfl, hbW, c0, c1⟩ := (HV.out.1.below hb1).at_ hlt
    have y1 := (HV.out.2.1.below hb1).c 0 rfl
    rw [sumV_drop hV] at hs
    dsimp only at hs
    have hql : q.l.length ≤ 1000000 := HV.out.2.2.1 _ (List.mem_of_getElem? hV)
    obtain ⟨r, A', c', l⟩ := q
    dsimp only at *
    have b1 := countS_bd l
    have b2 := sumV_bd (V.drop (k + 1))
    have b3 := sumV_bd V
    have b4 := HV.out.1.len
    rw [List.length_drop] at b2
    have hwr : IntKind.i64.wrap (s + countS l) = s + countS l := by rw [IntKind.wrap_i64]; omega
    have HQ := Lib.hid (And.intro hq (And.intro hql (show sumV V = s + countS l + sumV (V.drop (k + 1)) by rw [hs]; omega)))
    have HB := Lib.hid hb1
    clear y0 h1 hb1 hq hV hql hs b2 b3 b4 hbel
    go_wp2_with fail
    refine (RRCount_any w1 A' l.length c' l HQ.out.1.1 rfl (by have := HQ.out.2.1; omega)).mono ?_
    rintro e w2 ⟨rfl, h2⟩
    have hb2 := HB.out.trans (h2.mono HB.out.size)
    clear y1 h2 c0 c1
    go_wp2_with fail
    go_roundw
    case rel => exact ⟨k + 1, s + countS l, by omega, by go_num, rfl, by omega, HQ.out.2.2, hb2⟩
    case measure => simp [intOf]; omega
   ·obtain rfl : k = n := by omega
    have hd1 : decide ((k : Int) < (k : Int)) = false := by rw [decide_eq_false_iff_not]; omega
    have hVl := HV.out.1.len
    have HS := Lib.hid (show countV V = s by rw [HF.out, hs, ← hVl, List.drop_length]; simp [sumV])
    have hbz := HV.out.2.2.2.2.trans (hbel.mono HV.out.2.2.2.2.size)
    clear hs
    go_wp2_with fail
    go_ret
    exact ⟨ret_i HS.out.symm, hbz⟩
end Go.Proofs.YtaflikgdlkaefaaGreat
/- Vectors: the block of an array, known whole. -/
namespace Go.Proofs.YtaflikgdlkaefaaGreat
open Go.RowKit Go.Maps Go.Proofs.YtaflikgdlkaefaaGreat.Pl Go.Proofs.YtaflikgdlkaefaaGreat.Sp Go.Proofs.YtaflikgdlkaefaaGreat.Ve
set_option maxRecDepth 20000

/-- the array's block -/
def Ar (w : World) (g : Nat) (us : List Value) : Prop := w.heap[g]? = some (.cells us.toArray 70)
theorem Ar.new (w : World) (us : List Value) : Ar (w.alloc (.cells us.toArray 70)) w.heap.size us := World.alloc_heap_new w _
theorem Ar.lt {w : World} {g : Nat} {us : List Value} (h : Ar w g us) : g < w.heap.size := (Array.getElem?_eq_some_iff.1 h).1
theorem Ar.cell {w : World} {g : Nat} {us : List Value} (h : Ar w g us) (o : Nat) : w.cell? ⟨g, o, none⟩ = us[o]? := by
 unfold Ar at h
 simp [World.cell?, h]
theorem Ar.at_ {w : World} {g : Nat} {us : List Value} (h : Ar w g us) : At w g us := ⟨h.lt, fun i v hv => ⟨(h.cell i).trans hv, by simp [World.frozen?, show w.heap[g]? = _ from h]⟩⟩
theorem Ar.set {w : World} {g : Nat} {us : List Value} (h : Ar w g us) (r : Nat) (v : Value) : Ar (w.setCell ⟨g, r, none⟩ v) g (us.set r v) := by
 obtain ⟨hlt, hk⟩ := Array.getElem?_eq_some_iff.1 h
 show (w.heap.modify g _)[g]? = _
 rw [Array.getElem?_eq_getElem (by rw [Array.size_modify]; exact hlt), Array.getElem_modify_self, hk]
 simp
theorem Ar.grown {w w' : World} {g : Nat} {us : List Value} (h : Ar w g us) {row : Option Nat} (hg : w.grownBy w' row) (hne : row ≠ some g) : Ar w' g us := (hg.block g h.lt (fun e => hne e.symm)).trans h
theorem Ar.below {w w' : World} {g : Nat} {us : List Value} (h : Ar w g us) (hb : Below w.heap.size w w') : Ar w' g us := (hb.block g h.lt).trans h
/-- ranges do not lie in it -/
theorem RSt.apart {w : World} {g : Nat} {X : List RSl} (h : Ar w g (XA.us X)) {q : RA} (hq : RSt w q) (hl : q.l ≠ []) {b o : Nat} {s : Option Nat} (e : q.A = some ⟨b, o, s⟩) : b ≠ g := by
 intro hb
 subst hb
 rcases hq.1 with h1 | ⟨b', o', e', _, _, h3⟩
 ·obtain ⟨x, t, hx⟩ := List.exists_cons_of_ne_nil hl
  rw [hx] at h1
  have := congrArg List.length h1
  rw [rv_len] at this
  simp at this
 ·rw [e] at e'
  injection e' with e'
  injection e' with e1 e2
  subst e1
  obtain ⟨x, t, hx⟩ := List.exists_cons_of_ne_nil hl
  have h4 := h3 0 (.int .i64 x.a) (by rw [hx]; rfl)
  rw [Nat.add_zero, h.cell, XA.us, List.getElem?_map] at h4
  cases hX : X[o']? with
  | none => rw [hX] at h4; cases h4
  | some y => rw [hX] at h4; cases h4
/-- a slice is stored into the array -/
theorem XA.store {w : World} {g : Nat} {X : List RSl} {f f' : Int → List Rg} (hX : XA w X f) (hA : Ar w g (XA.us X)) {r : Nat} (hr : r < 64) {s : RSl} (hs : s.n = (f' r).length) (hst : RSt w ⟨r, s.A, s.c, f' r⟩) (hf : ∀ i : Nat, i < 64 → i ≠ r → f' i = f i) :
  XA (w.setCell ⟨g, r, none⟩ s.v) (X.set r s) f' ∧ Ar (w.setCell ⟨g, r, none⟩ s.v) g (XA.us (X.set r s)) := by
 have key : ∀ q : RA, RSt w q → RSt (w.setCell ⟨g, r, none⟩ s.v) q := fun q hq => hq.grown (grownS w g r s.v) fun hl b o s' e e' => RSt.apart hA hq hl e (Option.some.inj e').symm
 refine ⟨XA.set (f := f) ⟨hX.1, fun i hi => ?_⟩ hr hs (key _ hst) hf, ?_⟩
 ·obtain ⟨s', h1, h2, h3⟩ := hX.2 i hi
  exact ⟨s', h1, h2, key _ h3⟩
 ·have := hA.set r s.v
  rw [XA.us, List.map_set]
  exact this
end Go.Proofs.YtaflikgdlkaefaaGreat
/- A region that draws its order, held by whatever is said of memory till the first of some operations (stores): what reads is waited for by all of them, what does not read may come when it will. -/
namespace Go.Proofs.YtaflikgdlkaefaaGreat
open Go.RowKit

def unl (Z : List Nat) (listed : Array Bool) : Prop := ∀ z ∈ Z, listed.getD z false = false
def wpZ (P : Program) (ops : Array Oper) (Q : Exit → Act → World → Prop) (S : World → Prop) (Z : List Nat) : Nat → Array Bool → Act → World → Prop
 | 0, listed, a, w => Region.ready .any ops listed = [] ∧ Q .normal a w
 | fuel + 1, listed, a, w =>
  (Region.ready .any ops listed = [] → Q .normal a w) ∧
  ∀ i ∈ Region.ready .any ops listed, wpOp P ops Q i (fun a' w' => (unl Z (listed.setIfInBounds i true) → S w') ∧ wpZ P ops Q S Z fuel (listed.setIfInBounds i true) a' w') a w
section
variable {P : Program} {ops : Array Oper} {Q : Exit → Act → World → Prop} {S : World → Prop} {Z : List Nat}
/-- each of Z waits for i: by the paths -/
def waitZ (ops : Array Oper) (Z : List Nat) (i : Nat) : List (List Nat) → Bool := fun pss => Z.length == pss.length && (Z.zip pss).all fun q => chainE ops q.1 q.2 i
def okTakeZ (ops : Array Oper) (listed : Array Bool) (Z : List Nat) (i : Nat) : Bool := okTake ops listed i && closedB ops listed && !Z.contains i
def unlB (Z : List Nat) (listed : Array Bool) : Bool := Z.all fun z => !listed.getD z false
end
end Go.Proofs.YtaflikgdlkaefaaGreat
