/- A region that draws its order, held by whatever is said of memory till the first of some operations (stores): what reads is waited for by all of them, what does not read may come when it will. -/
import Derived.Maps.AppendAt
import Derived.Lib.SliceRun
import Derived.Laws.IdiomCopy
import Derived.Laws.BitsAllLaws
import Derived.Test.YtaflikgdlkaefaaGreatT00
import Derived.Test.YtaflikgdlkaefaaGreatT04
import Derived.Test.YtaflikgdlkaefaaGreatT06
import Derived.Test.YtaflikgdlkaefaaGreatT07
import Derived.Test.YtaflikgdlkaefaaGreatT08
import Derived.Test.YtaflikgdlkaefaaGreatT12
open List (getElem?_toArray getElem?_cons_succ getElem?_cons_zero)
namespace Go.Proofs.YtaflikgdlkaefaaGreat
open Go.RowKit

def unl (Z : List Nat) (listed : Array Bool) : Prop := ∀ z ∈ Z, listed.getD z false = false
def wpZ (P : Program) (ops : Array Oper) (Q : Exit → Act → World → Prop) (S : World → Prop) (Z : List Nat) : Nat → Array Bool → Act → World → Prop
 | 0, listed, a, w => Region.ready .any ops listed = [] ∧ Q .normal a w
 | fuel + 1, listed, a, w =>
  (Region.ready .any ops listed = [] → Q .normal a w) ∧
  ∀ i ∈ Region.ready .any ops listed, wpOp P ops Q i (fun a' w' => (unl Z (listed.setIfInBounds i true) → S w') ∧ wpZ P ops Q S Z fuel (listed.setIfInBounds i true) a' w') a w
section
variable {P : Program} {ops : Array Oper} {Q : Exit → Act → World → Prop} {S : World → Prop} {Z : List Nat}
/-- each of Z waits for i: by the paths -/
def waitZ (ops : Array Oper) (Z : List Nat) (i : Nat) : List (List Nat) → Bool := fun pss => Z.length == pss.length && (Z.zip pss).all fun q => chainE ops q.1 q.2 i
def okTakeZ (ops : Array Oper) (listed : Array Bool) (Z : List Nat) (i : Nat) : Bool := okTake ops listed i && closedB ops listed && !Z.contains i
def unlB (Z : List Nat) (listed : Array Bool) : Bool := Z.all fun z => !listed.getD z false
end
end Go.Proofs.YtaflikgdlkaefaaGreat
/- Vectors: the document's VecOf. -/
namespace Go.Proofs.YtaflikgdlkaefaaGreat
open Go.RowKit Go.Maps Go.Proofs.YtaflikgdlkaefaaGreat.Pl Go.Proofs.YtaflikgdlkaefaaGreat.Sp Go.Proofs.YtaflikgdlkaefaaGreat.Ve
set_option maxRecDepth 20000

set_option maxRecDepth 100000 in
set_option maxHeartbeats 6400000 in
theorem RVOf_own (w : World) (A : Option Addr) (n c : Nat) (l : List Dt.D2) (hs : Sl w w.heap.size A (dv l)) (h0 : n = l.length) (hl : n ≤ 100000) :
  Calls Tryz.prog 48 #[.slice A n c] w (PAns w (ofV l)) := by
 have HN := Lib.hid h0
 clear h0
 go_enter Tryz.func48, Tryz.ntmps48
 have hb0 : Below w.heap.size w ((w.alloc (.cells #[.slice none 0 0] 24)).alloc (.cells (XA.us z64S).toArray 70)) := balloc (balloc (Below.refl _ _) _) _
 have a0 : At ((w.alloc (.cells #[.slice none 0 0] 24)).alloc (.cells (XA.us z64S).toArray 70)) w.heap.size [.slice none 0 0] := (At.new w 24 #[.slice none 0 0]).alloc _
 have a1 : Ar ((w.alloc (.cells #[.slice none 0 0] 24)).alloc (.cells (XA.us z64S).toArray 70)) (w.heap.size + 1) (XA.us z64S) := by
  have := Ar.new (w.alloc (.cells #[.slice none 0 0] 24)) (XA.us z64S)
  rw [World.size_alloc] at this
  exact this
 have hsz : ((w.alloc (.cells #[.slice none 0 0] 24)).alloc (.cells (XA.us z64S).toArray 70)).heap.size = w.heap.size + 2 := by simp
 have hxa : XA ((w.alloc (.cells #[.slice none 0 0] 24)).alloc (.cells (XA.us z64S).toArray 70)) z64S (fun _ => []) := XA.zero _
 have hzz := zeroA
 generalize z64S = Z at *
 go_wp2_with (refine opVal rfl (ex_alT hzz rfl) ?_)
 generalize (w.alloc (.cells #[.slice none 0 0] 24)).alloc (.cells (XA.us Z).toArray 70) = W at *
 go_loopw [4] (fun x4 wr => ∃ (k : Nat) (X : List RSl), k ≤ n ∧ x4 = .int .i64 (k : Int) ∧ XA wr X (fun r => ofS (seqsOf (l.take k) r)) ∧ Ar wr (w.heap.size + 1) (XA.us X) ∧ At wr w.heap.size [.slice none 0 0] ∧ w.heap.size + 2 ≤ wr.heap.size ∧ Below w.heap.size w wr) (fun x4 _ => n - (intOf x4).toNat)
 case atStart => exact ⟨0, Z, by omega, rfl, by simpa [seqsOf, ofS] using hxa, a1, a0, by omega, hb0⟩
 case round =>
  clear hxa a1 a0 hb0 hzz hsz
  obtain ⟨k, X, hk, rfl, hX, hA, h0, hs2, hbel⟩ := hrel
  by_cases hlt : k < n
  ·have hkl : k < l.length := by have := HN.out; omega
   obtain ⟨b, o, rfl, hbB, hbW, c0, c1⟩ := dotAt hs hkl
   have hd : l[k]? = some (l[k]?.getD ⟨0, 0⟩) := by rw [List.getElem?_eq_getElem hkl]; rfl
   generalize l[k]?.getD ⟨0, 0⟩ = d at *
   replace c0 := (hbel.cell hbW).trans c0
   replace c1 := (hbel.cell hbW).trans c1
   have hd1 : decide ((k : Int) < (n : Int)) = true := by rw [decide_eq_true_eq]; omega
   have hn0 : (0 : Int) ≤ (k : Int) := by omega
   have hn1 : (k : Int) < (n : Int) := by omega
   have hdr := RDRight_any wr d
   unfold Dt.D2.v at hdr
   have HD := Lib.hid hdr
   have HX := Lib.hid (And.intro hX (And.intro hA (And.intro h0 (And.intro hs2 (And.intro hbel hd)))))
   clear hdr hX hA h0 hs hd
   go_wp2_with fail
   refine HD.out.mono ?_
   rintro e w1 ⟨rfl, h1⟩
   obtain ⟨p, hp⟩ : ∃ p, d.right = p := ⟨_, rfl⟩
   rw [hp]
   have HP := Lib.hid hp
   have hb1 := hbel.trans (h1.mono hbel.size)
   have H1 := Lib.hid (And.intro h1 hb1)
   replace c0 := (h1.cell (by dsimp only; omega)).trans c0
   replace c1 := (h1.cell (by dsimp only; omega)).trans c1
   clear hp h1
   cases p with
   | false =>
    have hX1 := HX.out.1.below H1.out.1
    have HZ := Lib.hid (show XA w1 X (fun r => ofS (seqsOf (l.take (k + 1)) r)) from ⟨hX1.1, fun i hi => by dsimp only; rw [ofS_skip HX.out.2.2.2.2.2 HP.out]; exact hX1.2 i hi⟩)
    have HY := Lib.hid (And.intro (HX.out.2.1.below H1.out.1) (And.intro (HX.out.2.2.1.below H1.out.1) (show w.heap.size + 2 ≤ w1.heap.size from Nat.le_trans HX.out.2.2.2.1 H1.out.1.size)))
    clear hX1
    go_wp2_with fail
    go_roundw
    case rel => exact ⟨k + 1, X, by omega, by go_num, HZ.out, HY.out.1, HY.out.2.1, HY.out.2.2, hb1⟩
    case measure => simp [intOf]; omega
   | true =>
    obtain ⟨q1, q2, q3, q4⟩ := Dt.right_iff.1 HP.out
    obtain ⟨r, hr⟩ : ∃ r : Nat, d.r = (r : Int) := ⟨d.r.toNat, by omega⟩
    obtain ⟨s, hs, hsn, hst⟩ := HX.out.1.2 r (by omega)
    obtain ⟨As, ns, cs⟩ := s
    dsimp only at hsn hst
    have hA1 := HX.out.2.1.below H1.out.1
    have y0 : w1.cell? ⟨w.heap.size + 1, r, none⟩ = some (.slice As ns cs) := by rw [hA1.cell, XA.us, List.getElem?_map, hs]; rfl
    rw [hr] at c0
    have HS := Lib.hid (And.intro hsn (And.intro (hst.below H1.out.1) (And.intro hr hs)))
    have HSZ := Lib.hid (And.intro q1 q2)
    have r0 : (0 : Int) ≤ (r : Int) := by omega
    have r1 : (r : Int) < 64 := by omega
    clear hs hsn hst hA1 hr q1 q2 q3 q4
    go_wp2_with fail
    have e0 := cellB c0
    have e1 := cellB c1
    have e2 := cellB y0
    have zc := y0
    refine bstartE (KB w1.heap) 25 (by kernel_rfl) ?_
    refine btakeE 0 [] (oi := _) (v := ?_) (by simp only [getElem?_toArray, getElem?_cons_succ, getElem?_cons_zero]; rfl) (by kernel_rfl) (by exact fun _ _ _ h => h) (by first | assumption | exact KB.refl _) (.inl ⟨by rfl, fun W hW => ?_⟩) ?_; rotate_left
    ·(go_simp; first | done | with_reducible rfl)
    try simp only [Act.put, List.setIfInBounds_toArray, List.set_cons_zero, List.set_cons_succ]
    refine btakeE 1 [] (oi := _) (v := ?_) (by simp only [getElem?_toArray, getElem?_cons_succ, getElem?_cons_zero]; rfl) (by kernel_rfl) (by exact fun _ _ _ h => h) (by first | assumption | exact KB.refl _) (.inl ⟨by rfl, fun W hW => ?_⟩) ?_; rotate_left
    ·(go_simp; first | done | with_reducible rfl)
    try simp only [Act.put, List.setIfInBounds_toArray, List.set_cons_zero, List.set_cons_succ]
    refine btakeE 2 [] (oi := _) (v := ?_) (by simp only [getElem?_toArray, getElem?_cons_succ, getElem?_cons_zero]; rfl) (by kernel_rfl) (by exact fun _ _ _ h => h) (by first | assumption | exact KB.refl _) (.inl ⟨by rfl, fun W hW => ?_⟩) ?_; rotate_left
    ·(go_simp; first | done | with_reducible rfl)
    try simp only [Act.put, List.setIfInBounds_toArray, List.set_cons_zero, List.set_cons_succ]
    refine btakeE 3 [] (oi := _) (v := ?_) (by simp only [getElem?_toArray, getElem?_cons_succ, getElem?_cons_zero]; rfl) (by kernel_rfl) (by exact fun _ _ _ h => h) (by first | assumption | exact KB.refl _) (.inl ⟨by rfl, fun W hW => ?_⟩) ?_; rotate_left
    ·(go_simp; first | done | with_reducible rfl)
    try simp only [Act.put, List.setIfInBounds_toArray, List.set_cons_zero, List.set_cons_succ]
    refine btakeE 4 [] (oi := _) (v := ?_) (by simp only [getElem?_toArray, getElem?_cons_succ, getElem?_cons_zero]; rfl) (by kernel_rfl) (by exact fun _ _ _ h => h) (by first | assumption | exact KB.refl _) (.inl ⟨by rfl, fun W hW => ?_⟩) ?_; rotate_left
    ·(go_simp; first | done | with_reducible rfl)
    try simp only [Act.put, List.setIfInBounds_toArray, List.set_cons_zero, List.set_cons_succ]
    refine btakeE 5 [] (oi := _) (v := ?_) (by simp only [getElem?_toArray, getElem?_cons_succ, getElem?_cons_zero]; rfl) (by kernel_rfl) (by exact fun _ _ _ h => h) (by first | assumption | exact KB.refl _) (.inl ⟨by rfl, fun W hW => ?_⟩) ?_; rotate_left
    ·(go_simp; first | done | with_reducible rfl)
    try simp only [Act.put, List.setIfInBounds_toArray, List.set_cons_zero, List.set_cons_succ]
    refine btakeE 6 [] (oi := _) (v := ?_) (by simp only [getElem?_toArray, getElem?_cons_succ, getElem?_cons_zero]; rfl) (by kernel_rfl) (by exact fun _ _ _ h => h) (by first | assumption | exact KB.refl _) (.inl ⟨by rfl, fun W hW => ?_⟩) ?_; rotate_left
    ·(go_simp; first | done | with_reducible rfl)
    try simp only [Act.put, List.setIfInBounds_toArray, List.set_cons_zero, List.set_cons_succ]
    refine btakeE 7 [] (oi := _) (v := ?_) (by simp only [getElem?_toArray, getElem?_cons_succ, getElem?_cons_zero]; rfl) (by kernel_rfl) (by exact fun _ _ _ h => h) (by first | assumption | exact KB.refl _) (.inl ⟨by rfl, fun W hW => ?_⟩) ?_; rotate_left
    ·(go_simp; first | done | with_reducible rfl)
    try simp only [Act.put, List.setIfInBounds_toArray, List.set_cons_zero, List.set_cons_succ]
    refine btakeE 8 [] (oi := _) (v := ?_) (by simp only [getElem?_toArray, getElem?_cons_succ, getElem?_cons_zero]; rfl) (by kernel_rfl) (by exact fun _ _ _ h => h) (by first | assumption | exact KB.refl _) (.inl ⟨by rfl, fun W hW => ?_⟩) ?_; rotate_left
    ·(go_simp; first | done | with_reducible rfl)
    try simp only [Act.put, List.setIfInBounds_toArray, List.set_cons_zero, List.set_cons_succ]
    refine btakeE 9 [] (oi := _) (v := ?_) (by simp only [getElem?_toArray, getElem?_cons_succ, getElem?_cons_zero]; rfl) (by kernel_rfl) (by exact fun _ _ _ h => h) (by first | assumption | exact KB.refl _) (.inl ⟨by rfl, fun W hW => ?_⟩) ?_; rotate_left
    ·(go_simp; first | done | with_reducible rfl)
    try simp only [Act.put, List.setIfInBounds_toArray, List.set_cons_zero, List.set_cons_succ]
    refine btakeE 10 [] (oi := _) (v := ?_) (by simp only [getElem?_toArray, getElem?_cons_succ, getElem?_cons_zero]; rfl) (by kernel_rfl) (by exact fun _ _ _ h => h) (by first | assumption | exact KB.refl _) (.inl ⟨by rfl, fun W hW => ?_⟩) ?_; rotate_left
    ·(go_simp; first | done | with_reducible rfl)
    try simp only [Act.put, List.setIfInBounds_toArray, List.set_cons_zero, List.set_cons_succ]
    refine btakeE 11 [] (oi := _) (v := ?_) (by simp only [getElem?_toArray, getElem?_cons_succ, getElem?_cons_zero]; rfl) (by kernel_rfl) (by exact fun _ _ _ h => h) (by first | assumption | exact KB.refl _) (.inl ⟨by rfl, fun W hW => ?_⟩) ?_; rotate_left
    ·(go_simp; first | done | with_reducible rfl)
    try simp only [Act.put, List.setIfInBounds_toArray, List.set_cons_zero, List.set_cons_succ]
    refine btakeE 12 [] (oi := _) (v := ?_) (by simp only [getElem?_toArray, getElem?_cons_succ, getElem?_cons_zero]; rfl) (by kernel_rfl) (by exact fun _ _ _ h => h) (by first | assumption | exact KB.refl _) (.inl ⟨by rfl, fun W hW => ?_⟩) ?_; rotate_left
    ·(go_simp; first | done | with_reducible rfl)
    try simp only [Act.put, List.setIfInBounds_toArray, List.set_cons_zero, List.set_cons_succ]
    refine btakeE 13 [] (oi := _) (v := ?_) (by simp only [getElem?_toArray, getElem?_cons_succ, getElem?_cons_zero]; rfl) (by kernel_rfl) (by exact fun _ _ _ h => h) (by first | assumption | exact KB.refl _) (.inl ⟨by rfl, fun W hW => ?_⟩) ?_; rotate_left
    ·(go_simp; first | done | with_reducible rfl)
    try simp only [Act.put, List.setIfInBounds_toArray, List.set_cons_zero, List.set_cons_succ]
    refine btakeE 14 [] (oi := _) (v := ?_) (by simp only [getElem?_toArray, getElem?_cons_succ, getElem?_cons_zero]; rfl) (by kernel_rfl) (by exact fun _ _ _ h => h) (by first | assumption | exact KB.refl _) (.inl ⟨by rfl, fun W hW => ?_⟩) ?_; rotate_left
    ·(go_simp; first | done | with_reducible rfl)
    try simp only [Act.put, List.setIfInBounds_toArray, List.set_cons_zero, List.set_cons_succ]
    refine btakeE 15 [] (oi := _) (v := ?_) (by simp only [getElem?_toArray, getElem?_cons_succ, getElem?_cons_zero]; rfl) (by kernel_rfl) (by exact fun _ _ _ h => h) (by first | assumption | exact KB.refl _) (.inl ⟨by rfl, fun W hW => ?_⟩) ?_; rotate_left
    ·(go_simp; first | done | with_reducible rfl)
    try simp only [Act.put, List.setIfInBounds_toArray, List.set_cons_zero, List.set_cons_succ]
    refine btakeE 16 [] (oi := _) (v := ?_) (by simp only [getElem?_toArray, getElem?_cons_succ, getElem?_cons_zero]; rfl) (by kernel_rfl) (by exact fun _ _ _ h => h) (by first | assumption | exact KB.refl _) (.inl ⟨by rfl, fun W hW => ?_⟩) ?_; rotate_left
    ·(go_simp; first | done | with_reducible rfl)
    try simp only [Act.put, List.setIfInBounds_toArray, List.set_cons_zero, List.set_cons_succ]
    refine btakeE 17 [] (oi := _) (v := ?_) (by simp only [getElem?_toArray, getElem?_cons_succ, getElem?_cons_zero]; rfl) (by kernel_rfl) (by exact fun _ _ _ h => h) (by first | assumption | exact KB.refl _) (.inl ⟨by rfl, fun W hW => ?_⟩) ?_; rotate_left
    ·(go_simp; first | done | with_reducible rfl)
    try simp only [Act.put, List.setIfInBounds_toArray, List.set_cons_zero, List.set_cons_succ]
    refine btakeE 18 [] (oi := _) (v := ?_) (by simp only [getElem?_toArray, getElem?_cons_succ, getElem?_cons_zero]; rfl) (by kernel_rfl) (by exact fun _ _ _ h => h) (by first | assumption | exact KB.refl _) (.inl ⟨by rfl, fun W hW => ?_⟩) ?_; rotate_left
    ·(go_simp; first | done | with_reducible rfl)
    try simp only [Act.put, List.setIfInBounds_toArray, List.set_cons_zero, List.set_cons_succ]
    refine btakeE 19 [] (oi := _) (v := ?_) (by simp only [getElem?_toArray, getElem?_cons_succ, getElem?_cons_zero]; rfl) (by kernel_rfl) (by exact fun _ _ _ h => h) (by first | assumption | exact KB.refl _) (.inl ⟨by rfl, fun W hW => ?_⟩) ?_; rotate_left
    ·(go_simp; first | done | with_reducible rfl)
    try simp only [Act.put, List.setIfInBounds_toArray, List.set_cons_zero, List.set_cons_succ]
    refine btakeE 20 [] (oi := _) (v := ?_) (by simp only [getElem?_toArray, getElem?_cons_succ, getElem?_cons_zero]; rfl) (by kernel_rfl) (by exact fun _ _ _ h => h) (by first | assumption | exact KB.refl _) (.inl ⟨by rfl, fun W hW => ?_⟩) ?_; rotate_left
    ·(go_simp; first | done | with_reducible rfl)
    try simp only [Act.put, List.setIfInBounds_toArray, List.set_cons_zero, List.set_cons_succ]
    refine btakeE 21 [] (oi := _) (v := ?_) (by simp only [getElem?_toArray, getElem?_cons_succ, getElem?_cons_zero]; rfl) (by kernel_rfl) (by exact fun _ _ _ h => h) (by first | assumption | exact KB.refl _) (.inl ⟨by rfl, fun W hW => ?_⟩) ?_; rotate_left
    ·(go_simp; first | done | with_reducible rfl)
    try simp only [Act.put, List.setIfInBounds_toArray, List.set_cons_zero, List.set_cons_succ]
    refine btakeE 22 [] (oi := _) (v := ?_) (by simp only [getElem?_toArray, getElem?_cons_succ, getElem?_cons_zero]; rfl) (by kernel_rfl) (by exact fun _ _ _ h => h) (by first | assumption | exact KB.refl _) (.inl ⟨by rfl, fun W hW => ?_⟩) ?_; rotate_left
    ·(go_simp; first | done | with_reducible rfl)
    try simp only [Act.put, List.setIfInBounds_toArray, List.set_cons_zero, List.set_cons_succ]
    refine bopE 23 (o := _) (by simp only [getElem?_toArray, getElem?_cons_succ, getElem?_cons_zero]; rfl) (by kernel_rfl) (by rfl) (fun K hK => ?_)
    go_simp
    refine (RRAdd_any w1.drew As ns cs (ofS (seqsOf (l.take k) (r : Int))) ⟨d.q, d.q⟩ HS.out.2.1.1 HS.out.1 (by rw [HS.out.1]; exact Nat.le_trans (ofS_len _) (by have := HN.out; unfold seqsOf; rw [List.length_map]; exact Nat.le_trans (List.length_filter_le _ _) (by rw [List.length_take]; omega))) (by rw [HS.out.1]; exact HS.out.2.1.2.1) HS.out.2.1.2.2).mono ?_
    rintro e w2 ⟨A2, c2, rfl, hs2', hl2, hc2, hb2⟩
    have hkb : KB w1.heap w2 := KB.of ((Below.refl _ w1).drew.trans hb2)
    have HZ := Lib.hid (And.intro hs2' (And.intro hl2 (And.intro hc2 ((Below.refl _ w1).drew.trans hb2))))
    have zf : w2.frozen? ⟨w.heap.size + 1, r, none⟩ = false := (((HX.out.2.1.below H1.out.1).below ((Below.refl _ w1).drew.trans hb2)).at_.f r (v := .slice As ns cs) (by rw [XA.us, List.getElem?_map, HS.out.2.2.2]; rfl))
    clear hs2' hl2 hc2 hb2
    refine hK.out _ _ hkb ?_; clear hK K
    try simp only [Act.put, List.setIfInBounds_toArray, List.set_cons_zero, List.set_cons_succ]
    refine btakeE 24 [] (oi := _) (v := ?_) (by simp only [getElem?_toArray, getElem?_cons_succ, getElem?_cons_zero]; rfl) (by kernel_rfl) (by exact fun _ _ _ h => h) (by first | assumption | exact KB.refl _) (.inl ⟨by rfl, fun W hW => ?_⟩) ?_; rotate_left
    ·(go_simp; first | done | with_reducible rfl)
    try simp only [Act.put, List.setIfInBounds_toArray, List.set_cons_zero, List.set_cons_succ]
    refine blastE 25 (o := _) (by simp only [getElem?_toArray, getElem?_cons_succ, getElem?_cons_zero]; rfl) (by kernel_rfl) (by rfl) (by rfl) (fun K hK => ?_)
    go_simp
    skip
    refine hK.out _ _ ?_; clear hK K
    try simp only [Act.put, List.setIfInBounds_toArray, List.set_cons_zero, List.set_cons_succ]
    refine bdoneE (by kernel_rfl) ?_
    have hA2 := (HX.out.2.1.below H1.out.1).below HZ.out.2.2.2
    have hX2 := (HX.out.1.below H1.out.1).below HZ.out.2.2.2
    have hst2 : RSt w2 ⟨(r : Int), A2, c2, addS (ofS (seqsOf (l.take k) (r : Int))) ⟨d.q, d.q⟩⟩ := ⟨HZ.out.1, HZ.out.2.1, HZ.out.2.2.1⟩
    have hstep : ∀ i : Int, ofS (seqsOf (l.take (k + 1)) i) = if i = (r : Int) then addS (ofS (seqsOf (l.take k) (r : Int))) ⟨d.q, d.q⟩ else ofS (seqsOf (l.take k) i) := fun i => by
     rw [ofS_step HX.out.2.2.2.2.2 HP.out, HS.out.2.2.1]
     by_cases h : i = (r : Int)
     ·rw [if_pos h, if_pos h, h]
     ·rw [if_neg h, if_neg h]
    have h3 := XA.store (f' := fun r => ofS (seqsOf (l.take (k + 1)) r)) hX2 hA2 (r := r) (by omega) (s := ⟨A2, (addS (ofS (seqsOf (l.take k) (r : Int))) ⟨d.q, d.q⟩).length, c2⟩) (by (try dsimp only); rw [hstep, if_pos rfl]) (by (try dsimp only); rw [hstep, if_pos rfl]; exact hst2) (fun i _ hne => by (try dsimp only); rw [hstep, if_neg (by omega)])
    have hb3 : Below w.heap.size w (w2.setCell ⟨w.heap.size + 1, r, none⟩ (.slice A2 (addS (ofS (seqsOf (l.take k) (r : Int))) ⟨d.q, d.q⟩).length c2)) := (hb1.trans (HZ.out.2.2.2.mono hb1.size)).setCell (show w.heap.size ≤ w.heap.size + 1 by omega) _
    have h03 : At (w2.setCell ⟨w.heap.size + 1, r, none⟩ (.slice A2 (addS (ofS (seqsOf (l.take k) (r : Int))) ⟨d.q, d.q⟩).length c2)) w.heap.size [.slice none 0 0] := ((HX.out.2.2.1.below H1.out.1).below HZ.out.2.2.2).set_other _ _ (by omega)
    have HW := Lib.hid (And.intro h3 (And.intro h03 hb3))
    have hs3 : w.heap.size + 2 ≤ w2.heap.size := Nat.le_trans HX.out.2.2.2.1 (Nat.le_trans H1.out.1.size HZ.out.2.2.2.size)
    clear h3 h03 hb3 hA2 hX2 hst2 hstep
    go_wp2_with fail
    go_roundw
    case rel => exact ⟨k + 1, X.set r ⟨A2, (addS (ofS (seqsOf (l.take k) (r : Int))) ⟨d.q, d.q⟩).length, c2⟩, by omega, by go_num, HW.out.1.1, HW.out.1.2, HW.out.2.1, by simpa using hs3, HW.out.2.2⟩
    case measure => simp [intOf]; omega
  ·obtain rfl : k = n := by omega
   have hd1 : decide ((k : Int) < (k : Int)) = false := by rw [decide_eq_false_iff_not]; omega
   have hXf : XA wr X (fun r => ofS (seqsOf l r)) := by
    have e : l.take k = l := by rw [HN.out]; exact List.take_length
    rw [e] at hX
    exact hX
   have hlm : ∀ r, (ofS (seqsOf l r)).length ≤ 1000000 := fun r => by
    have a1 := ofS_len (seqsOf l r)
    have a2 : (seqsOf l r).length ≤ l.length := by unfold seqsOf; rw [List.length_map]; exact List.length_filter_le _ _
    have a3 := HN.out
    omega
   have HP := Lib.hid (parts_own wr X _ hXf hlm)
   have hXL : (XA.us X).length = 64 := by rw [XA.us, List.length_map]; exact hX.1
   have HX := Lib.hid (And.intro h0 (And.intro hA.at_ hXL))
   clear hXf hlm hX h0 hA hXL hs
   go_wp2_with (refine opVal rfl (ex_ldT aggA sizeA rfl rfl HX.out.2.1 HX.out.2.2) ?_)
   refine HP.out.mono ?_
   rintro e w1 ⟨A1, c1, R1, rfl, hv1, hR1, hb1⟩
   have h01 := HX.out.1.below hb1
   have z0 := h01.c 0 rfl
   have z1 := h01.f 0 rfl
   have hbz := hbel.trans (hb1.mono hbel.size)
   have hb3 : Below w.heap.size w (w1.setCell ⟨w.heap.size, 0, none⟩ (.slice A1 R1.length c1)) := hbz.setCell (Nat.le_refl _) _
   have HZ := Lib.hid (And.intro (hv1.kept (grownS w1 w.heap.size 0 (.slice A1 R1.length c1)) (by omega)) (And.intro (h01.set 0 (.slice A1 R1.length c1) (by simp)) hb3))
   clear hv1 h01 hb3
   go_wp2_with fail
   exact bodyPost_ret (results_vec rfl _ rfl HZ.out.2.1) rfl ⟨A1, c1, R1, rfl, HZ.out.1.lower (by omega), hR1, HZ.out.2.2⟩
end Go.Proofs.YtaflikgdlkaefaaGreat
/- Rows of dots of the call's own: append, stores, clear. -/
namespace Go.Proofs.YtaflikgdlkaefaaGreat
open Go.RowKit Go.Proofs.YtaflikgdlkaefaaGreat.Pl Go.Proofs.YtaflikgdlkaefaaGreat.Dt
set_option maxRecDepth 20000

abbrev OwnD (w : World) (base : Nat) (v : Value) (l : List D2) : Prop := w.ownsRow base 26 2 v l.length (dv l)
theorem dotinfo : (Tryz.prog.info? 26).map (fun i => (i.zero, i.size, i.bytes)) = some (some (.agg #[.int .i64 0, .int .i64 0]), 2, 16) := by kernel_rfl
theorem OwnD.nil (w : World) (base : Nat) : OwnD w base (.slice none 0 0) [] := World.ownsRow_nil w base _ 2
theorem OwnD.form {w : World} {base : Nat} {v : Value} {l : List D2} (h : OwnD w base v l) : ∃ A c, v = .slice A l.length c ∧ l.length ≤ c ∧ c ≤ maxLen ∧ Sl w w.heap.size A (dv l) ∧ (A = none → l = []) ∧ (∀ a, A = some a → base ≤ a.block ∧ a.off = 0 ∧ a.spot = none) := by
 rcases h.2 with ⟨rfl, hn⟩ | ⟨g, cap, cur, rfl, hb, hg, hn, hm, hcs, ht⟩
 ·have := List.eq_nil_of_length_eq_zero hn
  subst this
  exact ⟨none, 0, rfl, by simp, by simp [maxLen], .inl rfl, (fun _ => rfl), (fun a h => (by cases h))⟩
 ·have hlt : g < w.heap.size := (Array.getElem?_eq_some_iff.1 hg).1
  refine ⟨_, cap, rfl, hn, hm, .inr ⟨g, 0, rfl, hlt, hlt, fun j u hu => ?_⟩, (fun h => (by cases h)), (fun a h => by cases h; exact ⟨hb, rfl, rfl⟩)⟩
  have := h.cells (g := g) rfl j u hu
  rw [Nat.zero_add]
  rw [addr0] at this
  exact this
theorem OwnD.below {w w' : World} {base : Nat} {v : Value} {l : List D2} (h : OwnD w base v l) (hb : Below w.heap.size w w') : OwnD w' base v l :=
 h.kept (row := none) ⟨hb.os, hb.tape, hb.output, hb.size, fun k hk _ => hb.block k hk⟩ (by cases hv : v.ownBlock <;> simp)
theorem dv_one (l : List D2) : ∀ u ∈ dv l, u.oneCell' = true := by
 intro u hu
 obtain ⟨d, _, h⟩ := List.mem_flatMap.1 hu
 simp [D2.cells] at h
 rcases h with rfl | rfl <;> rfl
theorem run_appD (w : World) (ty : TypeId) {base : Nat} {v : Value} {l : List D2} (hown : OwnD w base v l) {B : Nat} {A : Option Addr} {m c : Nat} {k : List D2} (hr : Sl w B A (dv k)) (hm : m = k.length)
  (hl : l.length + k.length ≤ 1000000000) (hbase : base ≤ w.heap.size) :
  ∃ v' w', (Builtin.append_ #[75, 75] ty #[v, .slice A m c]).run Tryz.prog w = .ok v' w' ∧ OwnD w' base v' (l ++ k) ∧ w.grownBy w' v.ownBlock ∧ (v'.ownBlock = v.ownBlock ∨ v'.ownBlock = some w.heap.size) := by
 subst hm
 obtain ⟨i, hi, hz, hz1, hz2⟩ := info_parts dotinfo
 rcases A with _ | ad
 ·have hk : k = [] := by
   rcases hr with h | ⟨b, o, h, _⟩
   ·have := dv_len k
    rw [h] at this
    exact List.eq_nil_of_length_eq_zero (by simp at this; omega)
   ·cases h
  subst hk
  refine ⟨v, w, ?_, by simpa using hown, World.grownBy.refl w _, .inl rfl⟩
  rcases hown.2 with ⟨e, h0⟩ | ⟨g, cap', cur, e, hb0, hg0, hnc0, _⟩
  ·subst e
   simp [Builtin.append_, run_underlying Tryz.underlying75, sizeOf, typeInfo, hi, Builtin.lenOf, Builtin.firstCells, loadCells, loadCellsFrom]
  ·subst e
   simp [Builtin.append_, run_underlying Tryz.underlying75, sizeOf, typeInfo, hi, Builtin.lenOf, Builtin.firstCells, loadCells, loadCellsFrom, hnc0, storeCells]
 ·obtain ⟨v', w', hrun, h2, h3, _, h5⟩ := run_append_own_at (P := Tryz.prog) w base 75 ty 26 i (.agg #[.int .i64 0, .int .i64 0]) 2 16 Tryz.underlying75 hi hz hz1 hz2 rfl (by omega) v l.length (dv l) hown ad k.length c (dv k)
   (dv_len k) (fun j u hu => by
    rcases hr with h | ⟨b, o, h, _, _, hc⟩
    ·rw [h] at hu; simp at hu
    ·injection h with h
     subst h
     have : (⟨b, o, none⟩ : Addr).add j = ⟨b, o + j, none⟩ := by
      unfold Addr.add
      split
      ·rename_i h0; subst h0; rfl
      ·rfl
     rw [this]; exact hc j u hu) (dv_one k) (by simp only [maxLen]; omega) (by omega) hbase
  exact ⟨v', w', hrun, by rw [OwnD, dv_append, List.length_append]; exact h2, h3, h5⟩
section
variable {ops : Array Oper} {rest : List Oper} {o : Oper} {a : Act} {Q : Exit → Act → World → Prop} {w : World} {s x : Operand}
theorem wp_appD {K : Act → World → Prop} (ho : o.op = .call { callee := .builtin .append, args := #[s, x], argTypes := #[75, 75] })
  {base : Nat} {v : Value} {l : List D2} (hown : OwnD w base v l) {B : Nat} {A : Option Addr} {m c : Nat} {k : List D2} (hr : Sl w B A (dv k)) (hm : m = k.length)
  (hs : a.eval s = v) (hx : a.eval x = .slice A m c) (hl : l.length + k.length ≤ 1000000000) (hbase : base ≤ w.heap.size)
  (h : ∀ v' w', OwnD w' base v' (l ++ k) → w.grownBy w' v.ownBlock → (v'.ownBlock = v.ownBlock ∨ v'.ownBlock = some w.heap.size) → K (a.put o.dst v') w') : o.wp Tryz.prog a w K Q := by
 obtain ⟨v', w', hrun, h2, h3, h4⟩ := run_appD w o.type hown hr hm hl hbase (c := c)
 unfold Oper.wp execOp
 simp only [ho, resolve, invoke, builtin, Sem.run_bind, Sem.run_pure, Result.andThen_ok, List.map_toArray, List.map_cons, List.map_nil, hs, hx, hrun]
 exact h v' w' h2 h3 h4
end
/-! ### a row of dots that may be turned where it lies -/
def Row2 (w : World) (g : Nat) (l : List D2) : Prop := g < w.heap.size ∧ ∀ k, k < l.length → w.cell? ⟨g, k * 2, none⟩ = some (.int .i64 (l[k]?.getD ⟨0, 0⟩).r) ∧ w.cell? ⟨g, k * 2 + 1, none⟩ = some (.int .i64 (l[k]?.getD ⟨0, 0⟩).q) ∧ w.frozen? ⟨g, k * 2, none⟩ = false ∧ w.frozen? ⟨g, k * 2 + 1, none⟩ = false
theorem Row2.below {w w' : World} {g : Nat} {l : List D2} (h : Row2 w g l) (hb : Below w.heap.size w w') : Row2 w' g l :=
 ⟨Nat.lt_of_lt_of_le h.1 hb.size, fun k hk => by
  obtain ⟨h1, h2, h3, h4⟩ := h.2 k hk
  exact ⟨(hb.cell h.1).trans h1, (hb.cell h.1).trans h2, (hb.frozen h.1).trans h3, (hb.frozen h.1).trans h4⟩⟩
theorem put2_cell (w : World) (g i : Nat) (s : D2) (h0 : (w.cell? ⟨g, i * 2, none⟩).isSome = true) (h1 : (w.cell? ⟨g, i * 2 + 1, none⟩).isSome = true) (k j : Nat) (hj : j < 2) :
  (((w.setCell ⟨g, i * 2, none⟩ (.int .i64 s.r)).setCell ⟨g, i * 2 + 1, none⟩ (.int .i64 s.q))).cell? ⟨g, k * 2 + j, none⟩ = if k = i then s.cells[j]? else w.cell? ⟨g, k * 2 + j, none⟩ := by
 obtain ⟨u0, e0⟩ := Option.isSome_iff_exists.1 h0
 obtain ⟨u1, e1⟩ := Option.isSome_iff_exists.1 h1
 by_cases hk : k = i
 ·subst hk
  rw [if_pos rfl]
  rcases (by omega : j = 0 ∨ j = 1) with rfl | rfl
  ·rw [setCell_other _ _ _ _ _ _ (.inr (by omega)), Nat.add_zero, World.cell?_setCell_same _ _ _ e0]; rfl
  ·rw [World.cell?_setCell_same _ _ _ (u := u1) (by rw [setCell_other _ _ _ _ _ _ (.inr (by omega))]; exact e1)]; rfl
 ·rw [if_neg hk, setCell_other _ _ _ _ _ _ (.inr (by omega)), setCell_other _ _ _ _ _ _ (.inr (by omega))]
def put2At (w : World) (g i : Nat) (s : D2) : World := (w.setCell ⟨g, i * 2, none⟩ (.int .i64 s.r)).setCell ⟨g, i * 2 + 1, none⟩ (.int .i64 s.q)
theorem Row2.put {w : World} {g : Nat} {l : List D2} (h : Row2 w g l) {i : Nat} (hi : i < l.length) (s : D2) : Row2 (put2At w g i s) g (l.set i s) := by
 obtain ⟨q0, q1, _, _⟩ := h.2 i hi
 have hc := put2_cell w g i s (by rw [q0]; rfl) (by rw [q1]; rfl)
 refine ⟨by unfold put2At; simpa using h.1, fun k hk => ?_⟩
 rw [List.length_set] at hk
 obtain ⟨h1, h2, h3, h4⟩ := h.2 k hk
 have c0 := hc k 0 (by omega)
 have c1 := hc k 1 (by omega)
 rw [Nat.add_zero] at c0
 unfold put2At
 refine ⟨c0.trans ?_, c1.trans ?_, by simp only [setCell_frozen]; exact h3, by simp only [setCell_frozen]; exact h4⟩
 ·by_cases e : k = i
  ·subst e; rw [if_pos rfl, List.getElem?_set_self hk]; rfl
  ·rw [if_neg e, List.getElem?_set_ne (fun h => e h.symm)]; exact h1
 ·by_cases e : k = i
  ·subst e; rw [if_pos rfl, List.getElem?_set_self hk]; rfl
  ·rw [if_neg e, List.getElem?_set_ne (fun h => e h.symm)]; exact h2
theorem Row2.take {w : World} {g : Nat} {l : List D2} (h : Row2 w g l) (n : Nat) : Row2 w g (l.take n) := by
 refine ⟨h.1, fun k hk => ?_⟩
 rw [List.length_take] at hk
 rw [List.getElem?_take, if_pos (by omega)]
 exact h.2 k (by omega)
/-! ### clear -/
end Go.Proofs.YtaflikgdlkaefaaGreat
/- A slice of u16. -/
namespace Go.Proofs.YtaflikgdlkaefaaGreat
open Go.RowKit
set_option maxRecDepth 20000

def wv (l : List Nat) : List Value := l.map (fun (n : Nat) => Value.int .u16 (n : Int))
theorem u16At {w : World} {B : Nat} {A : Option Addr} {x : List Nat} (h : Sl w B A (wv x)) {k : Nat} (hk : k < x.length) : ∃ b o, A = some ⟨b, o, none⟩ ∧ b < w.heap.size ∧ w.cell? ⟨b, o + k, none⟩ = some (.int .u16 ((x[k]?.getD 0 : Nat) : Int)) := by
 obtain ⟨b, o, e, _, h2, hc⟩ := h.at_ (k := k) (by simp [wv]; omega)
 exact ⟨b, o, e, h2, hc k _ (by simp [wv, List.getElem?_eq_getElem hk])⟩
theorem u16_lt {x : List Nat} (h : ∀ n ∈ x, n < 65536) (k : Nat) : x[k]?.getD 0 < 65536 := by
 rcases Nat.lt_or_ge k x.length with hk | hk
 ·rw [List.getElem?_eq_getElem hk]; exact h _ (List.getElem_mem hk)
 ·rw [List.getElem?_eq_none hk]; simp
end Go.Proofs.YtaflikgdlkaefaaGreat
/- Vectors of few numbers. -/
namespace Go.Proofs.YtaflikgdlkaefaaGreat
open Go.RowKit Go.Maps Go.Proofs.YtaflikgdlkaefaaGreat.Pl Go.Proofs.YtaflikgdlkaefaaGreat.Sp Go.Proofs.YtaflikgdlkaefaaGreat.Ve
set_option maxRecDepth 20000

def xd (n : Nat) : List Dt.D2 := ⟨(n : Int) / 4096 % 4, (n : Int) % 32 + 1⟩ :: (if n / 1024 % 2 = 1 then [⟨(n : Int) / 4096 % 4 * 21, 1099511627775 - (n : Int) % 8⟩] else [])
def xds (x : List Nat) : List Dt.D2 := x.flatMap xd
def vecX (x : List Nat) : VL := ofV (xds x)
theorem xds_step {x : List Nat} {k n : Nat} (h : x[k]? = some n) : xds (x.take (k + 1)) = xds (x.take k) ++ xd n := by
 rw [List.take_add_one, h, Option.toList_some]
 simp [xds]
theorem xd_len (n : Nat) : (xd n).length ≤ 2 := by
 unfold xd
 split <;> simp
theorem xds_len : ∀ (x : List Nat), (xds x).length ≤ 2 * x.length
 | [] => by simp [xds]
 | n :: x => by
  have h1 := xd_len n
  have h2 := xds_len x
  have : xds (n :: x) = xd n ++ xds x := by simp [xds]
  rw [this, List.length_append, List.length_cons]
  omega
theorem u16_and3 {n : Nat} (h : n < 65536) : bits .and .u16 ((n : Int) / 4096) 3 = (n : Int) / 4096 % 4 := by
 have e : ((n : Int) / 4096) = ((n / 4096 : Nat) : Int) := by omega
 rw [e, show (3 : Int) = ((3 : Nat) : Int) from rfl, u16_and_nat _ _ (by omega) (by omega), show (3 : Nat) = 2 ^ 2 - 1 from rfl, Nat.and_two_pow_sub_one_eq_mod]
 omega
theorem u16_and31 {n : Nat} (h : n < 65536) : bits .and .u16 (n : Int) 31 = (n : Int) % 32 := by
 rw [show (31 : Int) = ((31 : Nat) : Int) from rfl, u16_and_nat _ _ h (by omega), show (31 : Nat) = 2 ^ 5 - 1 from rfl, Nat.and_two_pow_sub_one_eq_mod]
 omega
theorem u16_and7 {n : Nat} (h : n < 65536) : bits .and .u16 (n : Int) 7 = (n : Int) % 8 := by
 rw [show (7 : Int) = ((7 : Nat) : Int) from rfl, u16_and_nat _ _ h (by omega), show (7 : Nat) = 2 ^ 3 - 1 from rfl, Nat.and_two_pow_sub_one_eq_mod]
 omega
theorem and_1024 (n : Nat) : n &&& 2 ^ 10 = n / 2 ^ 10 % 2 * 2 ^ 10 := by
 apply Nat.eq_of_testBit_eq
 intro i
 rw [Nat.testBit_and, Nat.testBit_two_pow, Nat.testBit_mul_two_pow]
 by_cases h : 10 = i
 ·subst h
  simp [Nat.testBit_eq_decide_div_mod_eq]
 ·rw [decide_eq_false h, Bool.and_false]
  by_cases h2 : 10 ≤ i
  ·have h3 : n / 2 ^ 10 % 2 < 2 ^ (i - 10) := Nat.lt_of_lt_of_le (Nat.mod_lt _ (by omega)) (by
    have : 2 ^ 1 ≤ 2 ^ (i - 10) := Nat.pow_le_pow_right (by omega) (by omega)
    omega)
   rw [Nat.testBit_lt_two_pow h3]
   simp
  ·have h3 : decide (i ≥ 10) = false := by rw [decide_eq_false_iff_not]; omega
   simp [h2]
theorem u16_and1024 {n : Nat} (h : n < 65536) : bits .and .u16 (n : Int) 1024 = (n : Int) / 1024 % 2 * 1024 := by
 rw [show (1024 : Int) = ((1024 : Nat) : Int) from rfl, u16_and_nat _ _ h (by omega), show (1024 : Nat) = 2 ^ 10 from rfl, and_1024]
 omega
/-- a cell is known -/
def Ck (a : Addr) (v : Value) (W : World) : Prop := W.cell? a = some v
set_option maxRecDepth 100000 in
set_option maxHeartbeats 6400000 in
theorem SVec_own (w : World) (A : Option Addr) (n c : Nat) (x : List Nat) (hs : Sl w w.heap.size A (wv x)) (h0 : n = x.length) (hl : n ≤ 10000) (hx : ∀ m ∈ x, m < 65536) :
  Calls Tryz.prog 29 #[.slice A n c] w (PAns w (vecX x)) := by
 have HN := Lib.hid h0
 clear h0
 go_enter Tryz.func29, Tryz.ntmps29
 have hb0 : Below w.heap.size w (w.alloc (.cells #[.slice none 0 0] 24)) := balloc (Below.refl _ _) _
 have a0 : At (w.alloc (.cells #[.slice none 0 0] 24)) w.heap.size [.slice none 0 0] := At.new w 24 #[.slice none 0 0]
 go_wp2_with fail
 have hs0 : w.heap.size + 1 ≤ (w.alloc (.cells #[.slice none 0 0] 24)).heap.size := by simp
 generalize w.alloc (.cells #[.slice none 0 0] 24) = W at *
 go_loopw [3, 4] (fun x3 x4 wr => ∃ (k : Nat), k ≤ n ∧ x4 = .int .i64 (k : Int) ∧ OwnD wr (w.heap.size + 1) x3 (xds (x.take k)) ∧ At wr w.heap.size [.slice none 0 0] ∧ Below w.heap.size w wr ∧ w.heap.size + 1 ≤ wr.heap.size) (fun _ x4 _ => n - (intOf x4).toNat)
 case atStart => exact ⟨0, by omega, rfl, OwnD.nil _ _, a0, hb0, hs0⟩
 case round =>
  clear a0 hb0 hs0
  obtain ⟨k, hk, rfl, hown, h0, hbel, hsz⟩ := hrel
  by_cases hlt : k < n
  ·have hkx : k < x.length := by have := HN.out; omega
   obtain ⟨b, o, rfl, hbW, c0⟩ := u16At hs hkx
   have hm : x[k]? = some (x[k]?.getD 0) := by rw [List.getElem?_eq_getElem hkx]; rfl
   have hm16 := u16_lt hx k
   have hstep := xds_step hm
   generalize x[k]?.getD 0 = m at *
   replace c0 := (hbel.cell hbW).trans c0
   have hd1 : decide ((k : Int) < (n : Int)) = true := by rw [decide_eq_true_eq]; omega
   have hn0 : (0 : Int) ≤ (k : Int) := by omega
   have hn1 : (k : Int) < (n : Int) := by omega
   have f1 := u16_and3 hm16
   have f2 := u16_and31 hm16
   have f3 := u16_and7 hm16
   have f4 := u16_and1024 hm16
   have g1 : IntKind.i64.wrap ((m : Int) / 4096 % 4) = (m : Int) / 4096 % 4 := by rw [IntKind.wrap_i64]; omega
   have g2 : IntKind.i64.wrap ((m : Int) % 32) = (m : Int) % 32 := by rw [IntKind.wrap_i64]; omega
   have g3 : IntKind.i64.wrap ((m : Int) % 32 + 1) = (m : Int) % 32 + 1 := by rw [IntKind.wrap_i64]; omega
   have g4 : IntKind.i64.wrap ((m : Int) / 4096 % 4 * 21) = (m : Int) / 4096 % 4 * 21 := by rw [IntKind.wrap_i64]; omega
   have g5 : IntKind.i64.wrap ((m : Int) % 8) = (m : Int) % 8 := by rw [IntKind.wrap_i64]; omega
   have g6 : IntKind.i64.wrap (1099511627775 - (m : Int) % 8) = 1099511627775 - (m : Int) % 8 := by rw [IntKind.wrap_i64]; omega
   have hr5 : k < 10000 := by omega
   have hxl := xds_len (x.take k)
   have hxk : (x.take k).length ≤ k := by rw [List.length_take]; omega
   have HX := Lib.hid (And.intro hown (And.intro h0 (And.intro hbel (And.intro hsz (And.intro hstep (And.intro hxl hxk))))))
   clear hown h0 hbel hstep hm hxl hxk
   go_wp2_with fail
   have hS0 : Ck ⟨b, o + k, none⟩ (.int .u16 (m : Int)) wr.drew := c0
   have hcw : w.cell? ⟨b, o + k, none⟩ = some (.int .u16 (m : Int)) := (HX.out.2.2.1.cell (p := ⟨b, o + k, none⟩) hbW).symm.trans c0
   have CW := Lib.hid hcw
   clear hcw
   have e0 : ∀ W, Ck ⟨b, o + k, none⟩ (.int .u16 (m : Int)) W → W.cell? ⟨b, o + k, none⟩ = some (.int .u16 (m : Int)) := fun W h => h
   refine bstartS (Ck ⟨b, o + k, none⟩ (.int .u16 (m : Int))) (by kernel_rfl) ?_
   refine btakeS 0 (oi := _) (v := ?_) (by simp only [List.getElem?_toArray, List.getElem?_cons_zero]; rfl) (by kernel_rfl) (by exact fun _ _ _ h => h) (by first | assumption | exact KB.refl _) (.inl ⟨by rfl, fun W hW => ?_⟩) ?_; rotate_left
   ·(go_simp; first | done | with_reducible rfl)
   try simp only [Act.put, List.setIfInBounds_toArray, List.set_cons_zero, List.set_cons_succ]
   refine btakeS 1 (oi := _) (v := ?_) (by simp only [getElem?_toArray, getElem?_cons_succ, getElem?_cons_zero]; rfl) (by kernel_rfl) (by exact fun _ _ _ h => h) (by first | assumption | exact KB.refl _) (.inl ⟨by rfl, fun W hW => ?_⟩) ?_; rotate_left
   ·(go_simp; first | done | with_reducible rfl)
   try simp only [Act.put, List.setIfInBounds_toArray, List.set_cons_zero, List.set_cons_succ]
   refine btakeS 2 (oi := _) (v := ?_) (by simp only [getElem?_toArray, getElem?_cons_succ, getElem?_cons_zero]; rfl) (by kernel_rfl) (by exact fun _ _ _ h => h) (by first | assumption | exact KB.refl _) (.inl ⟨by rfl, fun W hW => ?_⟩) ?_; rotate_left
   ·(go_simp; first | done | with_reducible rfl)
   try simp only [Act.put, List.setIfInBounds_toArray, List.set_cons_zero, List.set_cons_succ]
   refine btakeS 3 (oi := _) (v := ?_) (by simp only [getElem?_toArray, getElem?_cons_succ, getElem?_cons_zero]; rfl) (by kernel_rfl) (by exact fun _ _ _ h => h) (by first | assumption | exact KB.refl _) (.inl ⟨by rfl, fun W hW => ?_⟩) ?_; rotate_left
   ·(go_simp; first | done | with_reducible rfl)
   try simp only [Act.put, List.setIfInBounds_toArray, List.set_cons_zero, List.set_cons_succ]
   refine btakeS 4 (oi := _) (v := ?_) (by simp only [getElem?_toArray, getElem?_cons_succ, getElem?_cons_zero]; rfl) (by kernel_rfl) (by exact fun _ _ _ h => h) (by first | assumption | exact KB.refl _) (.inl ⟨by rfl, fun W hW => ?_⟩) ?_; rotate_left
   ·(go_simp; first | done | with_reducible rfl)
   try simp only [Act.put, List.setIfInBounds_toArray, List.set_cons_zero, List.set_cons_succ]
   refine btakeS 5 (oi := _) (v := ?_) (by simp only [getElem?_toArray, getElem?_cons_succ, getElem?_cons_zero]; rfl) (by kernel_rfl) (by exact fun _ _ _ h => h) (by first | assumption | exact KB.refl _) (.inl ⟨by rfl, fun W hW => ?_⟩) ?_; rotate_left
   ·(go_simp; first | done | with_reducible rfl)
   try simp only [Act.put, List.setIfInBounds_toArray, List.set_cons_zero, List.set_cons_succ]
   refine btakeS 6 (oi := _) (v := ?_) (by simp only [getElem?_toArray, getElem?_cons_succ, getElem?_cons_zero]; rfl) (by kernel_rfl) (by exact fun _ _ _ h => h) (by first | assumption | exact KB.refl _) (.inl ⟨by rfl, fun W hW => ?_⟩) ?_; rotate_left
   ·(go_simp; first | done | with_reducible rfl)
   try simp only [Act.put, List.setIfInBounds_toArray, List.set_cons_zero, List.set_cons_succ]
   refine btakeS 7 (oi := _) (v := ?_) (by simp only [getElem?_toArray, getElem?_cons_succ, getElem?_cons_zero]; rfl) (by kernel_rfl) (by exact fun _ _ _ h => h) (by first | assumption | exact KB.refl _) (.inl ⟨by rfl, fun W hW => ?_⟩) ?_; rotate_left
   ·(go_simp; first | done | with_reducible rfl)
   try simp only [Act.put, List.setIfInBounds_toArray, List.set_cons_zero, List.set_cons_succ]
   refine btakeS 8 (oi := _) (v := ?_) (by simp only [getElem?_toArray, getElem?_cons_succ, getElem?_cons_zero]; rfl) (by kernel_rfl) (by exact fun _ _ _ h => h) (by first | assumption | exact KB.refl _) (.inl ⟨by rfl, fun W hW => ?_⟩) ?_; rotate_left
   ·(go_simp; first | done | with_reducible rfl)
   try simp only [Act.put, List.setIfInBounds_toArray, List.set_cons_zero, List.set_cons_succ]
   refine btakeS 9 (oi := _) (v := ?_) (by simp only [getElem?_toArray, getElem?_cons_succ, getElem?_cons_zero]; rfl) (by kernel_rfl) (by exact fun _ _ _ h => h) (by first | assumption | exact KB.refl _) (.inl ⟨by rfl, fun W hW => ?_⟩) ?_; rotate_left
   ·(go_simp; first | done | with_reducible rfl)
   try simp only [Act.put, List.setIfInBounds_toArray, List.set_cons_zero, List.set_cons_succ]
   refine btakeS 10 (oi := _) (v := ?_) (by simp only [getElem?_toArray, getElem?_cons_succ, getElem?_cons_zero]; rfl) (by kernel_rfl) (by exact fun _ _ _ h => h) (by first | assumption | exact KB.refl _) (.inl ⟨by rfl, fun W hW => ?_⟩) ?_; rotate_left
   ·(go_simp; first | done | with_reducible rfl)
   try simp only [Act.put, List.setIfInBounds_toArray, List.set_cons_zero, List.set_cons_succ]
   refine btakeS 11 (oi := _) (v := ?_) (by simp only [getElem?_toArray, getElem?_cons_succ, getElem?_cons_zero]; rfl) (by kernel_rfl) (by exact fun _ _ _ h => h) (by first | assumption | exact KB.refl _) (.inl ⟨by rfl, fun W hW => ?_⟩) ?_; rotate_left
   ·(go_simp; first | done | with_reducible rfl)
   try simp only [Act.put, List.setIfInBounds_toArray, List.set_cons_zero, List.set_cons_succ]
   refine btakeS 12 (oi := _) (v := ?_) (by simp only [getElem?_toArray, getElem?_cons_succ, getElem?_cons_zero]; rfl) (by kernel_rfl) (by exact fun _ _ _ h => h) (by first | assumption | exact KB.refl _) (.inl ⟨by rfl, fun W hW => ?_⟩) ?_; rotate_left
   ·(go_simp; first | done | with_reducible rfl)
   try simp only [Act.put, List.setIfInBounds_toArray, List.set_cons_zero, List.set_cons_succ]
   refine btakeS 13 (oi := _) (v := ?_) (by simp only [getElem?_toArray, getElem?_cons_succ, getElem?_cons_zero]; rfl) (by kernel_rfl) (by exact fun _ _ _ h => h) (by first | assumption | exact KB.refl _) (.inl ⟨by rfl, fun W hW => ?_⟩) ?_; rotate_left
   ·(go_simp; first | done | with_reducible rfl)
   try simp only [Act.put, List.setIfInBounds_toArray, List.set_cons_zero, List.set_cons_succ]
   refine btakeS 14 (oi := _) (v := ?_) (by simp only [getElem?_toArray, getElem?_cons_succ, getElem?_cons_zero]; rfl) (by kernel_rfl) (by exact fun _ _ _ h => h) (by first | assumption | exact KB.refl _) (.inl ⟨by rfl, fun W hW => ?_⟩) ?_; rotate_left
   ·(go_simp; first | done | with_reducible rfl)
   try simp only [Act.put, List.setIfInBounds_toArray, List.set_cons_zero, List.set_cons_succ]
   refine btakeS 15 (oi := _) (v := ?_) (by simp only [getElem?_toArray, getElem?_cons_succ, getElem?_cons_zero]; rfl) (by kernel_rfl) (by exact fun _ _ _ h => h) (by first | assumption | exact KB.refl _) (.inl ⟨by rfl, fun W hW => ?_⟩) ?_; rotate_left
   ·(go_simp; first | done | with_reducible rfl)
   try simp only [Act.put, List.setIfInBounds_toArray, List.set_cons_zero, List.set_cons_succ]
   refine bopS 16 (o := _) (by simp only [getElem?_toArray, getElem?_cons_succ, getElem?_cons_zero]; rfl) (by kernel_rfl) (by rfl) (fun K hK => ?_)
   go_simp
   have hkb : Ck ⟨b, o + k, none⟩ (.int .u16 (m : Int)) (wr.alloc (.cells #[.int .i64 ((m : Int) / 4096 % 4), .int .i64 ((m : Int) % 32 + 1)] 26)).drew := ((boxD wr ⟨(m : Int) / 4096 % 4, (m : Int) % 32 + 1⟩).cell (p := ⟨b, o + k, none⟩) (Nat.lt_of_lt_of_le hbW HX.out.2.2.1.size)).trans c0
   refine hK.out _ _ hkb ?_; clear hK K
   try simp only [Act.put, List.setIfInBounds_toArray, List.set_cons_zero, List.set_cons_succ]
   refine bopS 17 (o := _) (by simp only [getElem?_toArray, getElem?_cons_succ, getElem?_cons_zero]; rfl) (by kernel_rfl) (by rfl) (fun K hK => ?_)
   have ho2 := HX.out.1.below (boxD wr ⟨(m : Int) / 4096 % 4, (m : Int) % 32 + 1⟩)
   refine wp_appD (w := (wr.alloc (.cells #[.int .i64 ((m : Int) / 4096 % 4), .int .i64 ((m : Int) % 32 + 1)] 26)).drew) rfl (ho2.below (Below.refl _ _).drew) (Sl.oneD wr ⟨(m : Int) / 4096 % 4, (m : Int) % 32 + 1⟩).drew rfl rfl rfl (by rw [List.length_singleton]; have := HX.out.2.2.2.2.2.1; have := HX.out.2.2.2.2.2.2; omega) (by have h1 := (boxD wr ⟨(m : Int) / 4096 % 4, (m : Int) % 32 + 1⟩).size; exact Nat.le_trans HX.out.2.2.2.1 h1) ?_
   intro v4 w4 hown4 hg4d hat4
   have hg4 : (wr.alloc (.cells #[.int .i64 ((m : Int) / 4096 % 4), .int .i64 ((m : Int) % 32 + 1)] 26)).grownBy w4 u3.ownBlock := grownT (grownB (Below.refl _ _).drew) hg4d
   have hgr := fun z e => (World.ownsRow.lt HX.out.1 z e)
   have hbB := HX.out.2.2.1.alloc HX.out.2.2.1.size (.cells #[.int .i64 ((m : Int) / 4096 % 4), .int .i64 ((m : Int) % 32 + 1)] 26)
   have hb4 : Below w.heap.size w w4 := hbB.grown hg4 hbB.size (fun z e => by have := (hgr z e).1; omega)
   have h04 : At w4 w.heap.size [.slice none 0 0] := (HX.out.2.1.alloc _).grown hg4 (fun e => by have := (hgr _ e).1; omega)
   have hc4 : w4.cell? ⟨b, o + k, none⟩ = some (.int .u16 (m : Int)) := (hb4.cell (p := ⟨b, o + k, none⟩) hbW).trans CW.out
   have hkb : Ck ⟨b, o + k, none⟩ (.int .u16 (m : Int)) w4 := hc4
   have hs4 : w.heap.size + 1 ≤ w4.heap.size := by have h1 := hg4.size; have h2 := HX.out.2.2.2.1; simp at h1; omega
   have H4 := Lib.hid (And.intro hown4 (And.intro h04 (And.intro hb4 (And.intro hs4 hc4))))
   clear hown4 hg4d hg4 hat4 hgr hbB hb4 h04 hs4 hc4 ho2
   refine hK.out _ _ hkb ?_; clear hK K
   try simp only [Act.put, List.setIfInBounds_toArray, List.set_cons_zero, List.set_cons_succ]
   refine btakeS 18 (oi := _) (v := ?_) (by simp only [getElem?_toArray, getElem?_cons_succ, getElem?_cons_zero]; rfl) (by kernel_rfl) (by exact fun _ _ _ h => h) (by first | assumption | exact KB.refl _) (.inl ⟨by rfl, fun W hW => ?_⟩) ?_; rotate_left
   ·(go_simp; first | done | with_reducible rfl)
   try simp only [Act.put, List.setIfInBounds_toArray, List.set_cons_zero, List.set_cons_succ]
   refine bdoneS (by kernel_rfl) ?_
   have hc4 := H4.out.2.2.2.2
   clear c0 e0 hS0
   have hb7 : m / 1024 % 2 = 0 ∨ m / 1024 % 2 = 1 := by omega
   rcases hb7 with hb7 | hb7
   ·have hd3 : decide ((0 : Int) < (m : Int) / 1024 % 2 * 1024) = false := by rw [decide_eq_false_iff_not]; omega
    have HF := Lib.hid (show xds (x.take (k + 1)) = xds (x.take k) ++ [⟨(m : Int) / 4096 % 4, (m : Int) % 32 + 1⟩] by rw [HX.out.2.2.2.2.1, xd, if_neg (by omega)])
    clear hb7
    go_wp2_with fail
    go_roundw
    case rel => exact ⟨k + 1, by omega, by go_num, by rw [HF.out]; exact H4.out.1, H4.out.2.1, H4.out.2.2.1, H4.out.2.2.2.1⟩
    case measure => simp [intOf]; omega
   ·have hd3 : decide ((0 : Int) < (m : Int) / 1024 % 2 * 1024) = true := by rw [decide_eq_true_eq]; omega
    have HF := Lib.hid (show xds (x.take (k + 1)) = xds (x.take k) ++ [⟨(m : Int) / 4096 % 4, (m : Int) % 32 + 1⟩] ++ [⟨(m : Int) / 4096 % 4 * 21, 1099511627775 - (m : Int) % 8⟩] by rw [HX.out.2.2.2.2.1, xd, if_pos (by omega), List.append_assoc]; rfl)
    clear hb7
    go_wp2_with fail
    have hS0 : Ck ⟨b, o + k, none⟩ (.int .u16 (m : Int)) w4.drew := hc4
    have e0 : ∀ W, Ck ⟨b, o + k, none⟩ (.int .u16 (m : Int)) W → W.cell? ⟨b, o + k, none⟩ = some (.int .u16 (m : Int)) := fun W h => h
    refine bstartS (Ck ⟨b, o + k, none⟩ (.int .u16 (m : Int))) (by kernel_rfl) ?_
    refine btakeS 0 (oi := _) (v := ?_) (by simp only [List.getElem?_toArray, List.getElem?_cons_zero]; rfl) (by kernel_rfl) (by exact fun _ _ _ h => h) (by first | assumption | exact KB.refl _) (.inl ⟨by rfl, fun W hW => ?_⟩) ?_; rotate_left
    ·(go_simp; first | done | with_reducible rfl)
    try simp only [Act.put, List.setIfInBounds_toArray, List.set_cons_zero, List.set_cons_succ]
    refine btakeS 1 (oi := _) (v := ?_) (by simp only [getElem?_toArray, getElem?_cons_succ, getElem?_cons_zero]; rfl) (by kernel_rfl) (by exact fun _ _ _ h => h) (by first | assumption | exact KB.refl _) (.inl ⟨by rfl, fun W hW => ?_⟩) ?_; rotate_left
    ·(go_simp; first | done | with_reducible rfl)
    try simp only [Act.put, List.setIfInBounds_toArray, List.set_cons_zero, List.set_cons_succ]
    refine btakeS 2 (oi := _) (v := ?_) (by simp only [getElem?_toArray, getElem?_cons_succ, getElem?_cons_zero]; rfl) (by kernel_rfl) (by exact fun _ _ _ h => h) (by first | assumption | exact KB.refl _) (.inl ⟨by rfl, fun W hW => ?_⟩) ?_; rotate_left
    ·(go_simp; first | done | with_reducible rfl)
    try simp only [Act.put, List.setIfInBounds_toArray, List.set_cons_zero, List.set_cons_succ]
    refine btakeS 3 (oi := _) (v := ?_) (by simp only [getElem?_toArray, getElem?_cons_succ, getElem?_cons_zero]; rfl) (by kernel_rfl) (by exact fun _ _ _ h => h) (by first | assumption | exact KB.refl _) (.inl ⟨by rfl, fun W hW => ?_⟩) ?_; rotate_left
    ·(go_simp; first | done | with_reducible rfl)
    try simp only [Act.put, List.setIfInBounds_toArray, List.set_cons_zero, List.set_cons_succ]
    refine btakeS 4 (oi := _) (v := ?_) (by simp only [getElem?_toArray, getElem?_cons_succ, getElem?_cons_zero]; rfl) (by kernel_rfl) (by exact fun _ _ _ h => h) (by first | assumption | exact KB.refl _) (.inl ⟨by rfl, fun W hW => ?_⟩) ?_; rotate_left
    ·(go_simp; first | done | with_reducible rfl)
    try simp only [Act.put, List.setIfInBounds_toArray, List.set_cons_zero, List.set_cons_succ]
    refine btakeS 5 (oi := _) (v := ?_) (by simp only [getElem?_toArray, getElem?_cons_succ, getElem?_cons_zero]; rfl) (by kernel_rfl) (by exact fun _ _ _ h => h) (by first | assumption | exact KB.refl _) (.inl ⟨by rfl, fun W hW => ?_⟩) ?_; rotate_left
    ·(go_simp; first | done | with_reducible rfl)
    try simp only [Act.put, List.setIfInBounds_toArray, List.set_cons_zero, List.set_cons_succ]
    refine btakeS 6 (oi := _) (v := ?_) (by simp only [getElem?_toArray, getElem?_cons_succ, getElem?_cons_zero]; rfl) (by kernel_rfl) (by exact fun _ _ _ h => h) (by first | assumption | exact KB.refl _) (.inl ⟨by rfl, fun W hW => ?_⟩) ?_; rotate_left
    ·(go_simp; first | done | with_reducible rfl)
    try simp only [Act.put, List.setIfInBounds_toArray, List.set_cons_zero, List.set_cons_succ]
    refine btakeS 7 (oi := _) (v := ?_) (by simp only [getElem?_toArray, getElem?_cons_succ, getElem?_cons_zero]; rfl) (by kernel_rfl) (by exact fun _ _ _ h => h) (by first | assumption | exact KB.refl _) (.inl ⟨by rfl, fun W hW => ?_⟩) ?_; rotate_left
    ·(go_simp; first | done | with_reducible rfl)
    try simp only [Act.put, List.setIfInBounds_toArray, List.set_cons_zero, List.set_cons_succ]
    refine btakeS 8 (oi := _) (v := ?_) (by simp only [getElem?_toArray, getElem?_cons_succ, getElem?_cons_zero]; rfl) (by kernel_rfl) (by exact fun _ _ _ h => h) (by first | assumption | exact KB.refl _) (.inl ⟨by rfl, fun W hW => ?_⟩) ?_; rotate_left
    ·(go_simp; first | done | with_reducible rfl)
    try simp only [Act.put, List.setIfInBounds_toArray, List.set_cons_zero, List.set_cons_succ]
    refine btakeS 9 (oi := _) (v := ?_) (by simp only [getElem?_toArray, getElem?_cons_succ, getElem?_cons_zero]; rfl) (by kernel_rfl) (by exact fun _ _ _ h => h) (by first | assumption | exact KB.refl _) (.inl ⟨by rfl, fun W hW => ?_⟩) ?_; rotate_left
    ·(go_simp; first | done | with_reducible rfl)
    try simp only [Act.put, List.setIfInBounds_toArray, List.set_cons_zero, List.set_cons_succ]
    refine btakeS 10 (oi := _) (v := ?_) (by simp only [getElem?_toArray, getElem?_cons_succ, getElem?_cons_zero]; rfl) (by kernel_rfl) (by exact fun _ _ _ h => h) (by first | assumption | exact KB.refl _) (.inl ⟨by rfl, fun W hW => ?_⟩) ?_; rotate_left
    ·(go_simp; first | done | with_reducible rfl)
    try simp only [Act.put, List.setIfInBounds_toArray, List.set_cons_zero, List.set_cons_succ]
    refine btakeS 11 (oi := _) (v := ?_) (by simp only [getElem?_toArray, getElem?_cons_succ, getElem?_cons_zero]; rfl) (by kernel_rfl) (by exact fun _ _ _ h => h) (by first | assumption | exact KB.refl _) (.inl ⟨by rfl, fun W hW => ?_⟩) ?_; rotate_left
    ·(go_simp; first | done | with_reducible rfl)
    try simp only [Act.put, List.setIfInBounds_toArray, List.set_cons_zero, List.set_cons_succ]
    refine btakeS 12 (oi := _) (v := ?_) (by simp only [getElem?_toArray, getElem?_cons_succ, getElem?_cons_zero]; rfl) (by kernel_rfl) (by exact fun _ _ _ h => h) (by first | assumption | exact KB.refl _) (.inl ⟨by rfl, fun W hW => ?_⟩) ?_; rotate_left
    ·(go_simp; first | done | with_reducible rfl)
    try simp only [Act.put, List.setIfInBounds_toArray, List.set_cons_zero, List.set_cons_succ]
    refine btakeS 13 (oi := _) (v := ?_) (by simp only [getElem?_toArray, getElem?_cons_succ, getElem?_cons_zero]; rfl) (by kernel_rfl) (by exact fun _ _ _ h => h) (by first | assumption | exact KB.refl _) (.inl ⟨by rfl, fun W hW => ?_⟩) ?_; rotate_left
    ·(go_simp; first | done | with_reducible rfl)
    try simp only [Act.put, List.setIfInBounds_toArray, List.set_cons_zero, List.set_cons_succ]
    refine btakeS 14 (oi := _) (v := ?_) (by simp only [getElem?_toArray, getElem?_cons_succ, getElem?_cons_zero]; rfl) (by kernel_rfl) (by exact fun _ _ _ h => h) (by first | assumption | exact KB.refl _) (.inl ⟨by rfl, fun W hW => ?_⟩) ?_; rotate_left
    ·(go_simp; first | done | with_reducible rfl)
    try simp only [Act.put, List.setIfInBounds_toArray, List.set_cons_zero, List.set_cons_succ]
    refine btakeS 15 (oi := _) (v := ?_) (by simp only [getElem?_toArray, getElem?_cons_succ, getElem?_cons_zero]; rfl) (by kernel_rfl) (by exact fun _ _ _ h => h) (by first | assumption | exact KB.refl _) (.inl ⟨by rfl, fun W hW => ?_⟩) ?_; rotate_left
    ·(go_simp; first | done | with_reducible rfl)
    try simp only [Act.put, List.setIfInBounds_toArray, List.set_cons_zero, List.set_cons_succ]
    refine btakeS 16 (oi := _) (v := ?_) (by simp only [getElem?_toArray, getElem?_cons_succ, getElem?_cons_zero]; rfl) (by kernel_rfl) (by exact fun _ _ _ h => h) (by first | assumption | exact KB.refl _) (.inl ⟨by rfl, fun W hW => ?_⟩) ?_; rotate_left
    ·(go_simp; first | done | with_reducible rfl)
    try simp only [Act.put, List.setIfInBounds_toArray, List.set_cons_zero, List.set_cons_succ]
    refine bopS 17 (o := _) (by simp only [getElem?_toArray, getElem?_cons_succ, getElem?_cons_zero]; rfl) (by kernel_rfl) (by rfl) (fun K hK => ?_)
    go_simp
    have hkb : Ck ⟨b, o + k, none⟩ (.int .u16 (m : Int)) (w4.alloc (.cells #[.int .i64 ((m : Int) / 4096 % 4 * 21), .int .i64 (1099511627775 - (m : Int) % 8)] 26)).drew := ((boxD w4 ⟨(m : Int) / 4096 % 4 * 21, 1099511627775 - (m : Int) % 8⟩).cell (p := ⟨b, o + k, none⟩) (Nat.lt_of_lt_of_le hbW H4.out.2.2.1.size)).trans hc4
    refine hK.out _ _ hkb ?_; clear hK K
    try simp only [Act.put, List.setIfInBounds_toArray, List.set_cons_zero, List.set_cons_succ]
    refine bopS 18 (o := _) (by simp only [getElem?_toArray, getElem?_cons_succ, getElem?_cons_zero]; rfl) (by kernel_rfl) (by rfl) (fun K hK => ?_)
    have ho2 := H4.out.1.below (boxD w4 ⟨(m : Int) / 4096 % 4 * 21, 1099511627775 - (m : Int) % 8⟩)
    refine wp_appD (w := (w4.alloc (.cells #[.int .i64 ((m : Int) / 4096 % 4 * 21), .int .i64 (1099511627775 - (m : Int) % 8)] 26)).drew) rfl (ho2.below (Below.refl _ _).drew) (Sl.oneD w4 ⟨(m : Int) / 4096 % 4 * 21, 1099511627775 - (m : Int) % 8⟩).drew rfl rfl rfl (by rw [List.length_singleton, List.length_append, List.length_singleton]; have := HX.out.2.2.2.2.2.1; have := HX.out.2.2.2.2.2.2; omega) (by have h1 := (boxD w4 ⟨(m : Int) / 4096 % 4 * 21, 1099511627775 - (m : Int) % 8⟩).size; exact Nat.le_trans H4.out.2.2.2.1 h1) ?_
    intro v5 w5 hown5 hg5d hat5
    have hg5 : (w4.alloc (.cells #[.int .i64 ((m : Int) / 4096 % 4 * 21), .int .i64 (1099511627775 - (m : Int) % 8)] 26)).grownBy w5 v4.ownBlock := grownT (grownB (Below.refl _ _).drew) hg5d
    have hgr := fun z e => (World.ownsRow.lt H4.out.1 z e)
    have hbB := H4.out.2.2.1.alloc H4.out.2.2.1.size (.cells #[.int .i64 ((m : Int) / 4096 % 4 * 21), .int .i64 (1099511627775 - (m : Int) % 8)] 26)
    have hb5 : Below w.heap.size w w5 := hbB.grown hg5 hbB.size (fun z e => by have := (hgr z e).1; omega)
    have h05 : At w5 w.heap.size [.slice none 0 0] := (H4.out.2.1.alloc _).grown hg5 (fun e => by have := (hgr _ e).1; omega)
    have hkb : Ck ⟨b, o + k, none⟩ (.int .u16 (m : Int)) w5 := (hb5.cell (p := ⟨b, o + k, none⟩) hbW).trans CW.out
    have hs5 : w.heap.size + 1 ≤ w5.heap.size := by have h1 := hg5.size; have h2 := H4.out.2.2.2.1; simp at h1; omega
    have H5 := Lib.hid (And.intro hown5 (And.intro h05 (And.intro hb5 hs5)))
    clear hown5 hg5d hg5 hat5 hgr hbB hb5 h05 hs5 ho2
    refine hK.out _ _ hkb ?_; clear hK K
    try simp only [Act.put, List.setIfInBounds_toArray, List.set_cons_zero, List.set_cons_succ]
    refine btakeS 19 (oi := _) (v := ?_) (by simp only [getElem?_toArray, getElem?_cons_succ, getElem?_cons_zero]; rfl) (by kernel_rfl) (by exact fun _ _ _ h => h) (by first | assumption | exact KB.refl _) (.inl ⟨by rfl, fun W hW => ?_⟩) ?_; rotate_left
    ·(go_simp; first | done | with_reducible rfl)
    try simp only [Act.put, List.setIfInBounds_toArray, List.set_cons_zero, List.set_cons_succ]
    refine bdoneS (by kernel_rfl) ?_
    go_wp2_with fail
    go_roundw
    case rel => exact ⟨k + 1, by omega, by go_num, by rw [HF.out]; exact H5.out.1, H5.out.2.1, H5.out.2.2.1, H5.out.2.2.2⟩
    case measure => simp [intOf]; omega
  ·obtain rfl : k = n := by omega
   have hd1 : decide ((k : Int) < (k : Int)) = false := by rw [decide_eq_false_iff_not]; omega
   rw [show x.take k = x by rw [HN.out, List.take_length]] at hown
   obtain ⟨A2, c2, rfl, f1, f2, f3, _⟩ := hown.form
   have hxl := xds_len x
   have hxn := HN.out
   have HO := Lib.hid (RVOf_own wr A2 (xds x).length c2 (xds x) f3 rfl (by omega))
   obtain ⟨nx, hnx⟩ : ∃ m, (xds x).length = m := ⟨_, rfl⟩
   rw [hnx] at HO ⊢
   have HE := Lib.hid (And.intro h0 hbel)
   clear hown f1 f2 f3 h0 hbel hxl hxn hnx
   go_wp2_with fail
   refine HO.out.mono ?_
   rintro e w8 ⟨A8, c8, R8, rfl, hvo8, hR8, hb8⟩
   have d2 := HE.out.1.below hb8
   have z0 := d2.c 0 rfl
   have z1 := d2.f 0 rfl
   have hby := HE.out.2.trans (hb8.mono HE.out.2.size)
   have hvo9 := hvo8.kept (grownS w8 w.heap.size 0 (.slice A8 R8.length c8)) (by omega)
   have HZ := Lib.hid (And.intro (d2.set 0 (.slice A8 R8.length c8) (by simp)) (And.intro (hby.setCell (Nat.le_refl _) (p := ⟨w.heap.size, 0, none⟩) (.slice A8 R8.length c8)) hvo9))
   clear d2 hb8 hby hvo8 hvo9
   go_wp2_with fail
   exact bodyPost_ret (results_vec rfl _ rfl HZ.out.1) rfl ⟨A8, c8, R8, rfl, HZ.out.2.2.lower (by omega), hR8, HZ.out.2.1⟩
end Go.Proofs.YtaflikgdlkaefaaGreat
