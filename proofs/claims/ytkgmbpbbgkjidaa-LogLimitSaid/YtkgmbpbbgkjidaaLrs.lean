/- Records: the document's Scan. -/
import Derived.Test.YtkgmbpbbgkjidaaLr
import Derived.Test.YtkgmbpbbgkjidaaLs
namespace Go.Proofs.Ytkgmbpbbgkjidaa
open Go.RowKit Go.Proofs.Ytkgmbpbbgkjidaa.Pl Go.Proofs.Ytkgmbpbbgkjidaa.Pc

/-- a row of slices, each a block of its own -/
def Held (W : World) (base : Nat) (v : Value) (vs : List Value) (ls : List (List UInt8)) : Prop :=
  OwnS W base v vs ∧ vs.length = ls.length ∧ ∀ (i : Nat) (u : Value), vs[i]? = some u → OwnB W base u (ls[i]?.getD []) ∧ (u.ownBlock = none ∨ u.ownBlock ≠ v.ownBlock)
theorem Held.nil (W : World) (base : Nat) : Held W base (.slice none 0 0) [] [] := ⟨OwnS.nil _ _, rfl, fun i u hu => by simp at hu⟩
theorem Held.mat {W : World} {base : Nat} {A : Option Addr} {c : Nat} {vs : List Value} {ls : List (List UInt8)} (h : Held W base (.slice A ls.length c) vs ls) : Mat W A ls ∧ ls.length ≤ c ∧ c ≤ maxLen := by
  obtain ⟨h1, h2, h3⟩ := h
  obtain ⟨A', c', e, k1, k2, k3⟩ := h1.form
  injection e with e1 e2 e3
  subst e1 e3
  refine ⟨⟨vs, k3, h2, fun i u hu => ?_⟩, by omega, k2⟩
  have := (h3 i u hu).1
  obtain ⟨A', c', rfl, _⟩ := this.form
  exact SlcIs.of this
theorem held_step {W W2 W3 : World} {base : Nat} {v v' u : Value} {vs : List Value} {ls : List (List UInt8)} {l : List UInt8} (hbs : base ≤ W.heap.size) (h : Held W base v vs ls) (hb : Below W.heap.size W W2) (hu : OwnB W2 W.heap.size u l)
    (h3 : OwnS W3 base v' (vs ++ [u])) (hg : W2.grownBy W3 v.ownBlock) (hv : v'.ownBlock = v.ownBlock ∨ v'.ownBlock = some W2.heap.size) : Held W3 base v' (vs ++ [u]) (ls ++ [l]) ∧ Below base W W3 := by
  obtain ⟨i3, i4, i5⟩ := h
  have r := i3.row
  have hs23 := hg.size
  have hs12 := hb.size
  refine ⟨⟨h3, by simp [i4], ?_⟩, (hb.mono hbs).trans (below_of_grown hg (fun g e => (r g e).1) (by omega))⟩
  intro i y hy
  have fin : ∀ l, OwnB W2 base y l → (y.ownBlock = none ∨ y.ownBlock ≠ v.ownBlock) → OwnB W3 base y l ∧ (y.ownBlock = none ∨ y.ownBlock ≠ v'.ownBlock) := fun l hy hn => by
    have hr := hy.row
    refine ⟨hy.keep hg hn, ?_⟩
    rcases hv with e | e
    · rw [e]; exact hn
    · refine .inr fun e' => ?_
      rw [e] at e'
      have := (hr _ e').2
      omega
  by_cases hi : i < vs.length
  · rw [List.getElem?_append_left hi] at hy
    have := i5 i y hy
    rw [List.getElem?_append_left (by omega)]
    exact fin _ (this.1.below hb) this.2
  · rw [List.getElem?_append_right (by omega)] at hy
    match hd : i - vs.length, hy with
    | 0, hy =>
      simp at hy
      subst hy
      have hi' : i = ls.length := by omega
      rw [hi', List.getElem?_append_right (Nat.le_refl _), Nat.sub_self]
      refine fin _ (hu.base_le (by omega)) ?_
      cases hu0 : u.ownBlock with
      | none => exact .inl rfl
      | some g =>
        refine .inr fun e' => ?_
        have h1 := (hu.row g hu0).1
        have h2 := (r g e'.symm).2.1
        omega
    | j + 1, hy => simp at hy
def ScanL (b : List UInt8) (o : Nat) (ls : List (List UInt8)) : Prop := (o ≤ b.length ∧ ls.length ≤ o) ∧ Lg.scan b = (ls ++ (Lg.scan (b.drop o)).1, o + (Lg.scan (b.drop o)).2)
theorem ScanL.start (b : List UInt8) : ScanL b 0 [] := ⟨⟨Nat.zero_le _, Nat.le_refl _⟩, by simp⟩
theorem ScanL.done {b : List UInt8} {o : Nat} {ls : List (List UInt8)} (h : ScanL b o ls) (hn : Lg.oneR (b.drop o) = none) : Lg.scan b = (ls, o) := by
  rw [h.2, Lg.scan_none hn]
  simp
theorem ScanL.step {b x : List UInt8} {o k : Nat} {ls : List (List UInt8)} (h : ScanL b o ls) (hs : Lg.oneR (b.drop o) = some (x, k)) : ScanL b (o + k) (ls ++ [x]) := by
  obtain ⟨h2, h3⟩ := h
  obtain ⟨g1, g2, _, _⟩ := Lg.oneR_some hs
  rw [List.length_drop] at g1
  refine ⟨⟨by omega, by rw [List.length_append, List.length_singleton]; omega⟩, ?_⟩
  rw [h3, Lg.scan_some hs, List.drop_drop]
  simp [Nat.add_assoc]
set_option maxRecDepth 100000 in
set_option maxHeartbeats 3200000 in
theorem RScan_any (w : World) (A : Option Addr) (nb c : Nat) (b : List UInt8) (hb : Sl w w.heap.size A (bv b)) (h0 : nb = b.length) (hc : nb ≤ c) (hm : c ≤ maxLen) (hbl : b.length ≤ 300000) :
    Calls Try.prog 38 #[.slice A nb c] w (ScanPost w (Lg.scan b)) := by
  have H0 := Lib.hid h0
  clear h0
  go_enter Try.func38, Try.ntmps38
  go_wp2_with fail
  go_loopw [4, 5] (fun x4 x5 wr => ∃ (o : Nat) (vs : List Value) (ls : List (List UInt8)), x5 = .int .i64 (o : Int) ∧ ScanL b o ls ∧ Held wr w.heap.size x4 vs ls ∧ Below w.heap.size w wr) (fun _ x5 _ => nb - (intOf x5).toNat)
  case atStart => exact ⟨0, [], [], rfl, ScanL.start b, Held.nil _ _, Below.refl _ _⟩
  case round =>
    obtain ⟨o, vs, ls, rfl, hst, hh, hbel⟩ := hrel
    obtain ⟨Av, cv, rfl, k1, k2, k3⟩ := hh.1.form
    have hob := hst.1.1
    have hpo := hst.1.2
    have hvl := hh.2.1
    have hn := H0.out
    have hoc : (o : Int) ≤ (c : Int) := by omega
    have hon : (o : Int) ≤ (nb : Int) := by omega
    have hsz := hbel.size
    have hsb := (hb.below hbel).more hsz
    have HVL := Lib.hid hvl
    have fin : ∀ w', Lg.oneR (b.drop o) = none → Below wr.heap.size wr w' → ScanPost w (Lg.scan b) (.returned (.tuple #[.slice Av vs.length cv, .int .i64 (o : Int)])) w' := fun w' hno hb2 => by
      have hm := hh
      rw [hvl] at hm
      obtain ⟨m1, m2, m3⟩ := hm.mat
      rw [hst.done hno, hvl]
      exact ⟨Av, cv, rfl, m1.below hb2, m2, m3, bstep hbel hb2⟩
    by_cases hco : c = o
    · have hbo : b.drop o = [] := List.drop_eq_nil_of_le (by omega)
      have hno : Lg.oneR (b.drop o) = none := Lg.oneR_none_len (by rw [hbo]; simp)
      have HC := Lib.hid (ROne_any wr A 0 0 [] (.inl rfl) rfl (Nat.le_refl _) (by simp [maxLen]) (by simp))
      rw [show Lg.oneR [] = none from by rw [← hbo]; exact hno] at HC
      have hnb : nb = o := by omega
      clear hn hbo hvl
      subst hnb
      subst hco
      go_wp2_with fail
      refine HC.out.mono ?_
      rintro e w2 ⟨rfl, hb2⟩
      go_wp2_with fail
      exact bodyPost_ret (v := .tuple #[.slice Av vs.length cv, .int .i64 (c : Int)]) (by simp [results, Try.results38, go_sem]) rfl (fin _ hno hb2)
    · have s' := hsb.cut o c (by simp only [bv, List.length_map]; omega)
      rw [bv_drop, if_neg hco] at s'
      have HC := Lib.hid (ROne_any wr (A.map (·.add o)) (nb - o) (c - o) (b.drop o) s' (by rw [List.length_drop]; omega) (by omega) (by omega) (by rw [List.length_drop]; omega))
      cases ho : Lg.oneR (b.drop o) with
      | none =>
        rw [ho] at HC
        clear hn hvl
        go_wp2_with fail
        refine HC.out.mono ?_
        rintro e w2 ⟨rfl, hb2⟩
        go_wp2_with fail
        exact bodyPost_ret (v := .tuple #[.slice Av vs.length cv, .int .i64 (o : Int)]) (by simp [results, Try.results38, go_sem]) rfl (fin _ ho hb2)
      | some r =>
        obtain ⟨x, k⟩ := r
        rw [ho] at HC
        obtain ⟨q1, q2, q3, _⟩ := Lg.oneR_some ho
        rw [List.length_drop] at q1
        have hok : o + k ≤ nb := by omega
        have hmx : nb ≤ 9223372036854775807 := by unfold maxLen at hm; omega
        have hk0 : ((k : Int) == 0) = false := by simp; omega
        have hv1 : vs.length + 1 ≤ 1000000 := by omega
        clear hn q1 hvl
        go_wp2_with fail
        refine HC.out.mono ?_
        rintro e w2 ⟨A2, c2, rfl, hown2, hb2⟩
        have xn := (Boxed.new w2 25 (.slice A2 x.length c2)).cell
        have hb2a := hb2.alloc hb2.size (.cells #[.slice A2 x.length c2] 25)
        have hs2 := hb2a.size
        have hoS := OwnS.below hh.1 hb2a
        go_wp2_with (at_builtin; go_loud (refine appSG (by rfl) rfl hoS xn rfl hv1 rfl rfl (Nat.le_trans hsz hs2) ?_; intro v3 w4 hown3 hg3 hv3; obtain ⟨hh4, hb4⟩ := held_step hsz hh hb2a (OwnB.below hown2 ((Below.refl _ _).alloc (Nat.le_refl _) _)) hown3 hg3 hv3; obtain ⟨A3, c3, rfl, _⟩ := hown3.form))
        go_roundw
        case rel => exact ⟨o + k, _, _, by go_num, hst.step ho, by rw [show (vs ++ [Value.slice A2 x.length c2]).length = vs.length + 1 by simp] at hh4; exact hh4, hbel.trans hb4⟩
        case measure => simp [intOf]; omega
end Go.Proofs.Ytkgmbpbbgkjidaa

