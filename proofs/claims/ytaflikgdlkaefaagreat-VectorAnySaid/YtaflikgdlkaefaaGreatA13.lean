/- Vectors: the document's SameVec. -/
import Derived.Lib.Varint
import Derived.Outline
import Derived.Handy
import Derived.Test.YtaflikgdlkaefaaGreatA00
import Derived.Test.YtaflikgdlkaefaaGreatA08
import Derived.Test.YtaflikgdlkaefaaGreatA09
import Derived.Test.YtaflikgdlkaefaaGreatA10
import Derived.Test.YtaflikgdlkaefaaGreatA11
import Derived.Test.YtaflikgdlkaefaaGreatA12
open List (getElem?_toArray getElem?_cons_succ getElem?_cons_zero)
namespace Go.Proofs.YtaflikgdlkaefaaGreat
open Go.RowKit Go.Proofs.YtaflikgdlkaefaaGreat.Pl Go.Proofs.YtaflikgdlkaefaaGreat.Sp Go.Proofs.YtaflikgdlkaefaaGreat.Ve
set_option maxRecDepth 20000

theorem take_eq_snoc {V V' : VL} {k : Nat} {p p' : Int × List Rg} (h : V.take k = V'.take k) (hp : V[k]? = some p) (hp' : V'[k]? = some p') (e : p = p') : V.take (k + 1) = V'.take (k + 1) := by
 rw [List.take_add_one, List.take_add_one, h, hp, hp', e]
set_option maxRecDepth 100000 in
set_option maxHeartbeats 6400000 in
theorem SameV_any (w : World) (A A' : Option Addr) (n n' c c' : Nat) (R R' : List RA) (V V' : VL) (hv : VS w A n c R V) (hv' : VS w A' n' c' R' V') (hl : n ≤ 1000000) (hm : Lim 1000000 V) (hm' : Lim 1000000 V') :
  Calls Tryz.prog 18 #[.agg #[.slice A n c], .agg #[.slice A' n' c']] w fun e w' => e = .returned (.bool (decide (V = V'))) ∧ Below w.heap.size w w' := by
 go_enter Tryz.func18, Tryz.ntmps18
 have hb0 : Below w.heap.size w (w.alloc (.cells #[.slice A n c] 24)) := balloc (Below.refl _ _) _
 have hb1 := balloc hb0 (.cells #[.slice A' n' c'] 24)
 have x0 : (w.alloc (.cells #[.slice A n c] 24)).cell? ⟨w.heap.size, 0, none⟩ = some (.slice A n c) := by simp
 have x1 := ((Below.refl _ (w.alloc (.cells #[.slice A n c] 24))).alloc (Nat.le_refl _) (.cells #[.slice A' n' c'] 24)).cell (p := ⟨w.heap.size, 0, none⟩) (by simp) |>.trans x0
 have x2 : ((w.alloc (.cells #[.slice A n c] 24)).alloc (.cells #[.slice A' n' c'] 24)).cell? ⟨w.heap.size + 1, 0, none⟩ = some (.slice A' n' c') := by
  have h : (w.alloc (.cells #[.slice A n c] 24)).heap.size = w.heap.size + 1 := by simp
  rw [← h]; simp
 have xs : w.heap.size + 1 < ((w.alloc (.cells #[.slice A n c] 24)).alloc (.cells #[.slice A' n' c'] 24)).heap.size := by simp
 by_cases hne : n = n'
 ·subst hne
  have hd0 : ((n : Int) != (n : Int)) = false := by simp
  go_wp2_with fail
  generalize (w.alloc (.cells #[.slice A n c] 24)).alloc (.cells #[.slice A' n c'] 24) = W at *
  go_loopw [5] (fun x5 wr => ∃ (k : Nat), k ≤ n ∧ x5 = .int .i64 (k : Int) ∧ V.take k = V'.take k ∧ Below W.heap.size W wr) (fun x5 _ => n - (intOf x5).toNat)
  case atStart => exact ⟨0, by omega, rfl, by simp, Below.refl _ _⟩
  case round =>
   obtain ⟨k, hk, rfl, hT, hB⟩ := hrel
   have hbel := hb1.trans (hB.mono hb1.size)
   have y0 := (hB.cell (p := ⟨w.heap.size, 0, none⟩) (by dsimp only; omega)).trans x1
   have y1 := (hB.cell (p := ⟨w.heap.size + 1, 0, none⟩) xs).trans x2
   by_cases hlt : k < n
   ·obtain ⟨q, b, o, _, hV, hq, rfl, hbW, c0, c1⟩ := hv.at_ hlt
    obtain ⟨q', b', o', _, hV', hq', rfl, hbW', c0', c1'⟩ := hv'.at_ hlt
    have hql : q.l.length ≤ 1000000 := hm _ (List.mem_of_getElem? hV)
    have hql' : q'.l.length ≤ 1000000 := hm' _ (List.mem_of_getElem? hV')
    replace c0 := (hbel.cell hbW).trans c0
    replace c1 := (hbel.cell hbW).trans c1
    replace c0' := (hbel.cell hbW').trans c0'
    replace c1' := (hbel.cell hbW').trans c1'
    have hd1 : decide ((k : Int) < (n : Int)) = true := by rw [decide_eq_true_eq]; omega
    have hn0 : (0 : Int) ≤ (k : Int) := by omega
    have hn1 : (k : Int) < (n : Int) := by omega
    have hst := Lib.hid (fun p => take_eq_snoc hT hV hV' p)
    have hnv : (q.r, q.l) ≠ (q'.r, q'.l) → decide (V = V') = false := fun h => by
     rw [decide_eq_false_iff_not]
     intro e
     rw [e, hV'] at hV
     exact h (Option.some.inj hV).symm
    have hsame := fun W2 (h : Below w.heap.size w W2) => SameR_any W2 q.A q'.A q.l.length q'.l.length q.c q'.c q.l q'.l (hq.1.below h) (hq'.1.below h) rfl rfl (by omega) (by omega) h.size h.size
    have HV := Lib.hid (And.intro hnv hsame)
    obtain ⟨r, A1, m1, l⟩ := q
    obtain ⟨r', A1', m1', l'⟩ := q'
    dsimp only at *
    clear hnv hsame hv hv' hm hm' hq hq' hV hV' hT x1 x2
    go_wp2_with fail
    have e0 := cellB y0
    have e1 := cellB y1
    have e2 := cellB c0
    have e3 := cellB c1
    have e4 := cellB c0'
    have e5 := cellB c1'
    by_cases g1 : r = r'
    ·subst g1
     have d0 : ((r : Int) != (r : Int)) = false := by simp
     obtain ⟨p, hp⟩ : ∃ p, decide (l = l') = p := ⟨_, rfl⟩
     rw [hp] at HV
     have HP := Lib.hid hp
     clear hp
     refine bstartH (wr.heap) (by kernel_rfl) ?_
     refine btake 0 (oi := _) (v := ?_) (by simp only [List.getElem?_toArray, List.getElem?_cons_zero]; rfl) (by kernel_rfl) (by exact fun _ _ _ h => h) (by first | assumption | exact KB.refl _) (.inl ⟨by rfl, fun W hW => ?_⟩) ?_; rotate_left
     ·(go_simp; first | done | with_reducible rfl)
     try simp only [Act.put, List.setIfInBounds_toArray, List.set_cons_zero, List.set_cons_succ]
     refine btake 1 (oi := _) (v := ?_) (by simp only [getElem?_toArray, getElem?_cons_succ, getElem?_cons_zero]; rfl) (by kernel_rfl) (by exact fun _ _ _ h => h) (by first | assumption | exact KB.refl _) (.inl ⟨by rfl, fun W hW => ?_⟩) ?_; rotate_left
     ·(go_simp; first | done | with_reducible rfl)
     try simp only [Act.put, List.setIfInBounds_toArray, List.set_cons_zero, List.set_cons_succ]
     refine btake 2 (oi := _) (v := ?_) (by simp only [getElem?_toArray, getElem?_cons_succ, getElem?_cons_zero]; rfl) (by kernel_rfl) (by exact fun _ _ _ h => h) (by first | assumption | exact KB.refl _) (.inl ⟨by rfl, fun W hW => ?_⟩) ?_; rotate_left
     ·(go_simp; first | done | with_reducible rfl)
     try simp only [Act.put, List.setIfInBounds_toArray, List.set_cons_zero, List.set_cons_succ]
     refine btake 3 (oi := _) (v := ?_) (by simp only [getElem?_toArray, getElem?_cons_succ, getElem?_cons_zero]; rfl) (by kernel_rfl) (by exact fun _ _ _ h => h) (by first | assumption | exact KB.refl _) (.inl ⟨by rfl, fun W hW => ?_⟩) ?_; rotate_left
     ·(go_simp; first | done | with_reducible rfl)
     try simp only [Act.put, List.setIfInBounds_toArray, List.set_cons_zero, List.set_cons_succ]
     refine btake 4 (oi := _) (v := ?_) (by simp only [getElem?_toArray, getElem?_cons_succ, getElem?_cons_zero]; rfl) (by kernel_rfl) (by exact fun _ _ _ h => h) (by first | assumption | exact KB.refl _) (.inl ⟨by rfl, fun W hW => ?_⟩) ?_; rotate_left
     ·(go_simp; first | done | with_reducible rfl)
     try simp only [Act.put, List.setIfInBounds_toArray, List.set_cons_zero, List.set_cons_succ]
     refine btake 5 (oi := _) (v := ?_) (by simp only [getElem?_toArray, getElem?_cons_succ, getElem?_cons_zero]; rfl) (by kernel_rfl) (by exact fun _ _ _ h => h) (by first | assumption | exact KB.refl _) (.inl ⟨by rfl, fun W hW => ?_⟩) ?_; rotate_left
     ·(go_simp; first | done | with_reducible rfl)
     try simp only [Act.put, List.setIfInBounds_toArray, List.set_cons_zero, List.set_cons_succ]
     refine btake 6 (oi := _) (v := ?_) (by simp only [getElem?_toArray, getElem?_cons_succ, getElem?_cons_zero]; rfl) (by kernel_rfl) (by exact fun _ _ _ h => h) (by first | assumption | exact KB.refl _) (.inl ⟨by rfl, fun W hW => ?_⟩) ?_; rotate_left
     ·(go_simp; first | done | with_reducible rfl)
     try simp only [Act.put, List.setIfInBounds_toArray, List.set_cons_zero, List.set_cons_succ]
     refine btake 7 (oi := _) (v := ?_) (by simp only [getElem?_toArray, getElem?_cons_succ, getElem?_cons_zero]; rfl) (by kernel_rfl) (by exact fun _ _ _ h => h) (by first | assumption | exact KB.refl _) (.inl ⟨by rfl, fun W hW => ?_⟩) ?_; rotate_left
     ·(go_simp; first | done | with_reducible rfl)
     try simp only [Act.put, List.setIfInBounds_toArray, List.set_cons_zero, List.set_cons_succ]
     refine btake 8 (oi := _) (v := ?_) (by simp only [getElem?_toArray, getElem?_cons_succ, getElem?_cons_zero]; rfl) (by kernel_rfl) (by exact fun _ _ _ h => h) (by first | assumption | exact KB.refl _) (.inl ⟨by rfl, fun W hW => ?_⟩) ?_; rotate_left
     ·(go_simp; first | done | with_reducible rfl)
     try simp only [Act.put, List.setIfInBounds_toArray, List.set_cons_zero, List.set_cons_succ]
     refine btake 9 (oi := _) (v := ?_) (by simp only [getElem?_toArray, getElem?_cons_succ, getElem?_cons_zero]; rfl) (by kernel_rfl) (by exact fun _ _ _ h => h) (by first | assumption | exact KB.refl _) (.inl ⟨by rfl, fun W hW => ?_⟩) ?_; rotate_left
     ·(go_simp; first | done | with_reducible rfl)
     try simp only [Act.put, List.setIfInBounds_toArray, List.set_cons_zero, List.set_cons_succ]
     refine btake 10 (oi := _) (v := ?_) (by simp only [getElem?_toArray, getElem?_cons_succ, getElem?_cons_zero]; rfl) (by kernel_rfl) (by exact fun _ _ _ h => h) (by first | assumption | exact KB.refl _) (.inl ⟨by rfl, fun W hW => ?_⟩) ?_; rotate_left
     ·(go_simp; first | done | with_reducible rfl)
     try simp only [Act.put, List.setIfInBounds_toArray, List.set_cons_zero, List.set_cons_succ]
     refine btake 11 (oi := _) (v := ?_) (by simp only [getElem?_toArray, getElem?_cons_succ, getElem?_cons_zero]; rfl) (by kernel_rfl) (by exact fun _ _ _ h => h) (by first | assumption | exact KB.refl _) (.inl ⟨by rfl, fun W hW => ?_⟩) ?_; rotate_left
     ·(go_simp; first | done | with_reducible rfl)
     try simp only [Act.put, List.setIfInBounds_toArray, List.set_cons_zero, List.set_cons_succ]
     refine btake 12 (oi := _) (v := ?_) (by simp only [getElem?_toArray, getElem?_cons_succ, getElem?_cons_zero]; rfl) (by kernel_rfl) (by exact fun _ _ _ h => h) (by first | assumption | exact KB.refl _) (.inl ⟨by rfl, fun W hW => ?_⟩) ?_; rotate_left
     ·(go_simp; first | done | with_reducible rfl)
     try simp only [Act.put, List.setIfInBounds_toArray, List.set_cons_zero, List.set_cons_succ]
     refine btake 13 (oi := _) (v := ?_) (by simp only [getElem?_toArray, getElem?_cons_succ, getElem?_cons_zero]; rfl) (by kernel_rfl) (by exact fun _ _ _ h => h) (by first | assumption | exact KB.refl _) (.inl ⟨by rfl, fun W hW => ?_⟩) ?_; rotate_left
     ·(go_simp; first | done | with_reducible rfl)
     try simp only [Act.put, List.setIfInBounds_toArray, List.set_cons_zero, List.set_cons_succ]
     refine btake 14 (oi := _) (v := ?_) (by simp only [getElem?_toArray, getElem?_cons_succ, getElem?_cons_zero]; rfl) (by kernel_rfl) (by exact fun _ _ _ h => h) (by first | assumption | exact KB.refl _) (.inl ⟨by rfl, fun W hW => ?_⟩) ?_; rotate_left
     ·(go_simp; first | done | with_reducible rfl)
     try simp only [Act.put, List.setIfInBounds_toArray, List.set_cons_zero, List.set_cons_succ]
     refine btake 15 (oi := _) (v := ?_) (by simp only [getElem?_toArray, getElem?_cons_succ, getElem?_cons_zero]; rfl) (by kernel_rfl) (by exact fun _ _ _ h => h) (by first | assumption | exact KB.refl _) (.inl ⟨by rfl, fun W hW => ?_⟩) ?_; rotate_left
     ·(go_simp; first | done | with_reducible rfl)
     try simp only [Act.put, List.setIfInBounds_toArray, List.set_cons_zero, List.set_cons_succ]
     refine btake 16 (oi := _) (v := ?_) (by simp only [getElem?_toArray, getElem?_cons_succ, getElem?_cons_zero]; rfl) (by kernel_rfl) (by exact fun _ _ _ h => h) (by first | assumption | exact KB.refl _) (.inl ⟨by rfl, fun W hW => ?_⟩) ?_; rotate_left
     ·(go_simp; first | done | with_reducible rfl)
     try simp only [Act.put, List.setIfInBounds_toArray, List.set_cons_zero, List.set_cons_succ]
     refine btake 17 (oi := _) (v := ?_) (by simp only [getElem?_toArray, getElem?_cons_succ, getElem?_cons_zero]; rfl) (by kernel_rfl) (by exact fun _ _ _ h => h) (by first | assumption | exact KB.refl _) (.inl ⟨by rfl, fun W hW => ?_⟩) ?_; rotate_left
     ·(go_simp; first | done | with_reducible rfl)
     try simp only [Act.put, List.setIfInBounds_toArray, List.set_cons_zero, List.set_cons_succ]
     refine btake 18 (oi := _) (v := ?_) (by simp only [getElem?_toArray, getElem?_cons_succ, getElem?_cons_zero]; rfl) (by kernel_rfl) (by exact fun _ _ _ h => h) (by first | assumption | exact KB.refl _) (.inl ⟨by rfl, fun W hW => ?_⟩) ?_; rotate_left
     ·(go_simp; first | done | with_reducible rfl)
     try simp only [Act.put, List.setIfInBounds_toArray, List.set_cons_zero, List.set_cons_succ]
     refine btake 19 (oi := _) (v := ?_) (by simp only [getElem?_toArray, getElem?_cons_succ, getElem?_cons_zero]; rfl) (by kernel_rfl) (by exact fun _ _ _ h => h) (by first | assumption | exact KB.refl _) (.inl ⟨by rfl, fun W hW => ?_⟩) ?_; rotate_left
     ·(go_simp; first | done | with_reducible rfl)
     try simp only [Act.put, List.setIfInBounds_toArray, List.set_cons_zero, List.set_cons_succ]
     refine btake 20 (oi := _) (v := ?_) (by simp only [getElem?_toArray, getElem?_cons_succ, getElem?_cons_zero]; rfl) (by kernel_rfl) (by exact fun _ _ _ h => h) (by first | assumption | exact KB.refl _) (.inl ⟨by rfl, fun W hW => ?_⟩) ?_; rotate_left
     ·(go_simp; first | done | with_reducible rfl)
     try simp only [Act.put, List.setIfInBounds_toArray, List.set_cons_zero, List.set_cons_succ]
     refine btake 21 (oi := _) (v := ?_) (by simp only [getElem?_toArray, getElem?_cons_succ, getElem?_cons_zero]; rfl) (by kernel_rfl) (by exact fun _ _ _ h => h) (by first | assumption | exact KB.refl _) (.inl ⟨by rfl, fun W hW => ?_⟩) ?_; rotate_left
     ·(go_simp; first | done | with_reducible rfl)
     try simp only [Act.put, List.setIfInBounds_toArray, List.set_cons_zero, List.set_cons_succ]
     refine btake 22 (oi := _) (v := ?_) (by simp only [getElem?_toArray, getElem?_cons_succ, getElem?_cons_zero]; rfl) (by kernel_rfl) (by exact fun _ _ _ h => h) (by first | assumption | exact KB.refl _) (.inl ⟨by rfl, fun W hW => ?_⟩) ?_; rotate_left
     ·(go_simp; first | done | with_reducible rfl)
     try simp only [Act.put, List.setIfInBounds_toArray, List.set_cons_zero, List.set_cons_succ]
     refine btake 23 (oi := _) (v := ?_) (by simp only [getElem?_toArray, getElem?_cons_succ, getElem?_cons_zero]; rfl) (by kernel_rfl) (by exact fun _ _ _ h => h) (by first | assumption | exact KB.refl _) (.inl ⟨by rfl, fun W hW => ?_⟩) ?_; rotate_left
     ·(go_simp; first | done | with_reducible rfl)
     try simp only [Act.put, List.setIfInBounds_toArray, List.set_cons_zero, List.set_cons_succ]
     refine btake 24 (oi := _) (v := ?_) (by simp only [getElem?_toArray, getElem?_cons_succ, getElem?_cons_zero]; rfl) (by kernel_rfl) (by exact fun _ _ _ h => h) (by first | assumption | exact KB.refl _) (.inl ⟨by rfl, fun W hW => ?_⟩) ?_; rotate_left
     ·(go_simp; first | done | with_reducible rfl)
     try simp only [Act.put, List.setIfInBounds_toArray, List.set_cons_zero, List.set_cons_succ]
     refine btake 25 (oi := _) (v := ?_) (by simp only [getElem?_toArray, getElem?_cons_succ, getElem?_cons_zero]; rfl) (by kernel_rfl) (by exact fun _ _ _ h => h) (by first | assumption | exact KB.refl _) (.inl ⟨by rfl, fun W hW => ?_⟩) ?_; rotate_left
     ·(go_simp; first | done | with_reducible rfl)
     try simp only [Act.put, List.setIfInBounds_toArray, List.set_cons_zero, List.set_cons_succ]
     refine bopH 26 (o := _) (by simp only [getElem?_toArray, getElem?_cons_succ, getElem?_cons_zero]; rfl) (by kernel_rfl) (by first | assumption | exact KB.refl _) (by rfl) (fun K hK => ?_)
     go_simp
     refine (HV.out.2 _ hbel.drew).mono ?_
     rintro e w2 ⟨rfl, h2⟩
     have hkb : KB wr.heap w2 := KB.of ((Below.refl _ _).drew.trans h2)
     have HZ := Lib.hid (And.intro (hbel.drew.trans (h2.mono hbel.size)) (hB.drew.trans (h2.mono hB.size)))
     clear h2
     refine hK.out _ _ hkb ?_; clear hK K
     try simp only [Act.put, List.setIfInBounds_toArray, List.set_cons_zero, List.set_cons_succ]
     refine btake 27 (oi := _) (v := ?_) (by simp only [getElem?_toArray, getElem?_cons_succ, getElem?_cons_zero]; rfl) (by kernel_rfl) (by exact fun _ _ _ h => h) (by first | assumption | exact KB.refl _) (.inl ⟨by rfl, fun W hW => ?_⟩) ?_; rotate_left
     ·(go_simp; first | done | with_reducible rfl)
     try simp only [Act.put, List.setIfInBounds_toArray, List.set_cons_zero, List.set_cons_succ]
     refine btake 28 (oi := _) (v := ?_) (by simp only [getElem?_toArray, getElem?_cons_succ, getElem?_cons_zero]; rfl) (by kernel_rfl) (by exact fun _ _ _ h => h) (by first | assumption | exact KB.refl _) (.inl ⟨by rfl, fun W hW => ?_⟩) ?_; rotate_left
     ·(go_simp; first | done | with_reducible rfl)
     try simp only [Act.put, List.setIfInBounds_toArray, List.set_cons_zero, List.set_cons_succ]
     refine bdone (by kernel_rfl) ?_
     cases p with
     | false =>
      have HF := Lib.hid (show decide (V = V') = false from HV.out.1 fun e => by have := HP.out; rw [decide_eq_false_iff_not] at this; exact this (congrArg Prod.snd e))
      have hbz := HZ.out.1
      go_wp2_with fail
      go_ret
      exact ⟨ret_b HF.out.symm, hbz⟩
     | true =>
      have HT := Lib.hid (hst.out (by have := HP.out; rw [decide_eq_true_eq] at this; rw [this]))
      have hbz := HZ.out.2
      go_wp2_with fail
      go_roundw
      case rel => exact ⟨k + 1, by omega, by go_num, HT.out, hbz⟩
      case measure => simp [intOf]; omega
    ·have d0 : ((r : Int) != (r' : Int)) = true := by simpa using g1
     have HF := Lib.hid (show decide (V = V') = false from HV.out.1 fun e => g1 (congrArg Prod.fst e))
     clear g1
     refine bstartH (wr.heap) (by kernel_rfl) ?_
     refine btake 0 (oi := _) (v := ?_) (by simp only [List.getElem?_toArray, List.getElem?_cons_zero]; rfl) (by kernel_rfl) (by exact fun _ _ _ h => h) (by first | assumption | exact KB.refl _) (.inl ⟨by rfl, fun W hW => ?_⟩) ?_; rotate_left
     ·(go_simp; first | done | with_reducible rfl)
     try simp only [Act.put, List.setIfInBounds_toArray, List.set_cons_zero, List.set_cons_succ]
     refine btake 1 (oi := _) (v := ?_) (by simp only [getElem?_toArray, getElem?_cons_succ, getElem?_cons_zero]; rfl) (by kernel_rfl) (by exact fun _ _ _ h => h) (by first | assumption | exact KB.refl _) (.inl ⟨by rfl, fun W hW => ?_⟩) ?_; rotate_left
     ·(go_simp; first | done | with_reducible rfl)
     try simp only [Act.put, List.setIfInBounds_toArray, List.set_cons_zero, List.set_cons_succ]
     refine btake 2 (oi := _) (v := ?_) (by simp only [getElem?_toArray, getElem?_cons_succ, getElem?_cons_zero]; rfl) (by kernel_rfl) (by exact fun _ _ _ h => h) (by first | assumption | exact KB.refl _) (.inl ⟨by rfl, fun W hW => ?_⟩) ?_; rotate_left
     ·(go_simp; first | done | with_reducible rfl)
     try simp only [Act.put, List.setIfInBounds_toArray, List.set_cons_zero, List.set_cons_succ]
     refine btake 3 (oi := _) (v := ?_) (by simp only [getElem?_toArray, getElem?_cons_succ, getElem?_cons_zero]; rfl) (by kernel_rfl) (by exact fun _ _ _ h => h) (by first | assumption | exact KB.refl _) (.inl ⟨by rfl, fun W hW => ?_⟩) ?_; rotate_left
     ·(go_simp; first | done | with_reducible rfl)
     try simp only [Act.put, List.setIfInBounds_toArray, List.set_cons_zero, List.set_cons_succ]
     refine btake 4 (oi := _) (v := ?_) (by simp only [getElem?_toArray, getElem?_cons_succ, getElem?_cons_zero]; rfl) (by kernel_rfl) (by exact fun _ _ _ h => h) (by first | assumption | exact KB.refl _) (.inl ⟨by rfl, fun W hW => ?_⟩) ?_; rotate_left
     ·(go_simp; first | done | with_reducible rfl)
     try simp only [Act.put, List.setIfInBounds_toArray, List.set_cons_zero, List.set_cons_succ]
     refine btake 5 (oi := _) (v := ?_) (by simp only [getElem?_toArray, getElem?_cons_succ, getElem?_cons_zero]; rfl) (by kernel_rfl) (by exact fun _ _ _ h => h) (by first | assumption | exact KB.refl _) (.inl ⟨by rfl, fun W hW => ?_⟩) ?_; rotate_left
     ·(go_simp; first | done | with_reducible rfl)
     try simp only [Act.put, List.setIfInBounds_toArray, List.set_cons_zero, List.set_cons_succ]
     refine btake 6 (oi := _) (v := ?_) (by simp only [getElem?_toArray, getElem?_cons_succ, getElem?_cons_zero]; rfl) (by kernel_rfl) (by exact fun _ _ _ h => h) (by first | assumption | exact KB.refl _) (.inl ⟨by rfl, fun W hW => ?_⟩) ?_; rotate_left
     ·(go_simp; first | done | with_reducible rfl)
     try simp only [Act.put, List.setIfInBounds_toArray, List.set_cons_zero, List.set_cons_succ]
     refine btake 7 (oi := _) (v := ?_) (by simp only [getElem?_toArray, getElem?_cons_succ, getElem?_cons_zero]; rfl) (by kernel_rfl) (by exact fun _ _ _ h => h) (by first | assumption | exact KB.refl _) (.inl ⟨by rfl, fun W hW => ?_⟩) ?_; rotate_left
     ·(go_simp; first | done | with_reducible rfl)
     try simp only [Act.put, List.setIfInBounds_toArray, List.set_cons_zero, List.set_cons_succ]
     refine btake 8 (oi := _) (v := ?_) (by simp only [getElem?_toArray, getElem?_cons_succ, getElem?_cons_zero]; rfl) (by kernel_rfl) (by exact fun _ _ _ h => h) (by first | assumption | exact KB.refl _) (.inl ⟨by rfl, fun W hW => ?_⟩) ?_; rotate_left
     ·(go_simp; first | done | with_reducible rfl)
     try simp only [Act.put, List.setIfInBounds_toArray, List.set_cons_zero, List.set_cons_succ]
     refine btake 9 (oi := _) (v := ?_) (by simp only [getElem?_toArray, getElem?_cons_succ, getElem?_cons_zero]; rfl) (by kernel_rfl) (by exact fun _ _ _ h => h) (by first | assumption | exact KB.refl _) (.inl ⟨by rfl, fun W hW => ?_⟩) ?_; rotate_left
     ·(go_simp; first | done | with_reducible rfl)
     try simp only [Act.put, List.setIfInBounds_toArray, List.set_cons_zero, List.set_cons_succ]
     refine btake 10 (oi := _) (v := ?_) (by simp only [getElem?_toArray, getElem?_cons_succ, getElem?_cons_zero]; rfl) (by kernel_rfl) (by exact fun _ _ _ h => h) (by first | assumption | exact KB.refl _) (.inl ⟨by rfl, fun W hW => ?_⟩) ?_; rotate_left
     ·(go_simp; first | done | with_reducible rfl)
     try simp only [Act.put, List.setIfInBounds_toArray, List.set_cons_zero, List.set_cons_succ]
     refine btake 11 (oi := _) (v := ?_) (by simp only [getElem?_toArray, getElem?_cons_succ, getElem?_cons_zero]; rfl) (by kernel_rfl) (by exact fun _ _ _ h => h) (by first | assumption | exact KB.refl _) (.inl ⟨by rfl, fun W hW => ?_⟩) ?_; rotate_left
     ·(go_simp; first | done | with_reducible rfl)
     try simp only [Act.put, List.setIfInBounds_toArray, List.set_cons_zero, List.set_cons_succ]
     refine btake 12 (oi := _) (v := ?_) (by simp only [getElem?_toArray, getElem?_cons_succ, getElem?_cons_zero]; rfl) (by kernel_rfl) (by exact fun _ _ _ h => h) (by first | assumption | exact KB.refl _) (.inl ⟨by rfl, fun W hW => ?_⟩) ?_; rotate_left
     ·(go_simp; first | done | with_reducible rfl)
     try simp only [Act.put, List.setIfInBounds_toArray, List.set_cons_zero, List.set_cons_succ]
     refine btake 13 (oi := _) (v := ?_) (by simp only [getElem?_toArray, getElem?_cons_succ, getElem?_cons_zero]; rfl) (by kernel_rfl) (by exact fun _ _ _ h => h) (by first | assumption | exact KB.refl _) (.inl ⟨by rfl, fun W hW => ?_⟩) ?_; rotate_left
     ·(go_simp; first | done | with_reducible rfl)
     try simp only [Act.put, List.setIfInBounds_toArray, List.set_cons_zero, List.set_cons_succ]
     refine btake 14 (oi := _) (v := undef) (by simp only [getElem?_toArray, getElem?_cons_succ, getElem?_cons_zero]; rfl) (by kernel_rfl) (by exact fun _ _ _ h => h) (by first | assumption | exact KB.refl _) (.inr ⟨by rfl, rfl⟩) ?_
     try simp only [Act.put, List.setIfInBounds_toArray, List.set_cons_zero, List.set_cons_succ]
     refine btake 15 (oi := _) (v := undef) (by simp only [getElem?_toArray, getElem?_cons_succ, getElem?_cons_zero]; rfl) (by kernel_rfl) (by exact fun _ _ _ h => h) (by first | assumption | exact KB.refl _) (.inr ⟨by rfl, rfl⟩) ?_
     try simp only [Act.put, List.setIfInBounds_toArray, List.set_cons_zero, List.set_cons_succ]
     refine btake 16 (oi := _) (v := undef) (by simp only [getElem?_toArray, getElem?_cons_succ, getElem?_cons_zero]; rfl) (by kernel_rfl) (by exact fun _ _ _ h => h) (by first | assumption | exact KB.refl _) (.inr ⟨by rfl, rfl⟩) ?_
     try simp only [Act.put, List.setIfInBounds_toArray, List.set_cons_zero, List.set_cons_succ]
     refine btake 17 (oi := _) (v := undef) (by simp only [getElem?_toArray, getElem?_cons_succ, getElem?_cons_zero]; rfl) (by kernel_rfl) (by exact fun _ _ _ h => h) (by first | assumption | exact KB.refl _) (.inr ⟨by rfl, rfl⟩) ?_
     try simp only [Act.put, List.setIfInBounds_toArray, List.set_cons_zero, List.set_cons_succ]
     refine btake 18 (oi := _) (v := undef) (by simp only [getElem?_toArray, getElem?_cons_succ, getElem?_cons_zero]; rfl) (by kernel_rfl) (by exact fun _ _ _ h => h) (by first | assumption | exact KB.refl _) (.inr ⟨by rfl, rfl⟩) ?_
     try simp only [Act.put, List.setIfInBounds_toArray, List.set_cons_zero, List.set_cons_succ]
     refine btake 19 (oi := _) (v := undef) (by simp only [getElem?_toArray, getElem?_cons_succ, getElem?_cons_zero]; rfl) (by kernel_rfl) (by exact fun _ _ _ h => h) (by first | assumption | exact KB.refl _) (.inr ⟨by rfl, rfl⟩) ?_
     try simp only [Act.put, List.setIfInBounds_toArray, List.set_cons_zero, List.set_cons_succ]
     refine btake 20 (oi := _) (v := undef) (by simp only [getElem?_toArray, getElem?_cons_succ, getElem?_cons_zero]; rfl) (by kernel_rfl) (by exact fun _ _ _ h => h) (by first | assumption | exact KB.refl _) (.inr ⟨by rfl, rfl⟩) ?_
     try simp only [Act.put, List.setIfInBounds_toArray, List.set_cons_zero, List.set_cons_succ]
     refine btake 21 (oi := _) (v := undef) (by simp only [getElem?_toArray, getElem?_cons_succ, getElem?_cons_zero]; rfl) (by kernel_rfl) (by exact fun _ _ _ h => h) (by first | assumption | exact KB.refl _) (.inr ⟨by rfl, rfl⟩) ?_
     try simp only [Act.put, List.setIfInBounds_toArray, List.set_cons_zero, List.set_cons_succ]
     refine btake 22 (oi := _) (v := undef) (by simp only [getElem?_toArray, getElem?_cons_succ, getElem?_cons_zero]; rfl) (by kernel_rfl) (by exact fun _ _ _ h => h) (by first | assumption | exact KB.refl _) (.inr ⟨by rfl, rfl⟩) ?_
     try simp only [Act.put, List.setIfInBounds_toArray, List.set_cons_zero, List.set_cons_succ]
     refine btake 23 (oi := _) (v := undef) (by simp only [getElem?_toArray, getElem?_cons_succ, getElem?_cons_zero]; rfl) (by kernel_rfl) (by exact fun _ _ _ h => h) (by first | assumption | exact KB.refl _) (.inr ⟨by rfl, rfl⟩) ?_
     try simp only [Act.put, List.setIfInBounds_toArray, List.set_cons_zero, List.set_cons_succ]
     refine btake 24 (oi := _) (v := undef) (by simp only [getElem?_toArray, getElem?_cons_succ, getElem?_cons_zero]; rfl) (by kernel_rfl) (by exact fun _ _ _ h => h) (by first | assumption | exact KB.refl _) (.inr ⟨by rfl, rfl⟩) ?_
     try simp only [Act.put, List.setIfInBounds_toArray, List.set_cons_zero, List.set_cons_succ]
     refine btake 25 (oi := _) (v := undef) (by simp only [getElem?_toArray, getElem?_cons_succ, getElem?_cons_zero]; rfl) (by kernel_rfl) (by exact fun _ _ _ h => h) (by first | assumption | exact KB.refl _) (.inr ⟨by rfl, rfl⟩) ?_
     try simp only [Act.put, List.setIfInBounds_toArray, List.set_cons_zero, List.set_cons_succ]
     refine btake 26 (oi := _) (v := undef) (by simp only [getElem?_toArray, getElem?_cons_succ, getElem?_cons_zero]; rfl) (by kernel_rfl) (by exact fun _ _ _ h => h) (by first | assumption | exact KB.refl _) (.inr ⟨by rfl, rfl⟩) ?_
     try simp only [Act.put, List.setIfInBounds_toArray, List.set_cons_zero, List.set_cons_succ]
     refine btake 27 (oi := _) (v := undef) (by simp only [getElem?_toArray, getElem?_cons_succ, getElem?_cons_zero]; rfl) (by kernel_rfl) (by exact fun _ _ _ h => h) (by first | assumption | exact KB.refl _) (.inr ⟨by rfl, rfl⟩) ?_
     try simp only [Act.put, List.setIfInBounds_toArray, List.set_cons_zero, List.set_cons_succ]
     refine btake 28 (oi := _) (v := ?_) (by simp only [getElem?_toArray, getElem?_cons_succ, getElem?_cons_zero]; rfl) (by kernel_rfl) (by exact fun _ _ _ h => h) (by first | assumption | exact KB.refl _) (.inl ⟨by rfl, fun W hW => ?_⟩) ?_; rotate_left
     ·(go_simp; first | done | with_reducible rfl)
     try simp only [Act.put, List.setIfInBounds_toArray, List.set_cons_zero, List.set_cons_succ]
     refine bdone (by kernel_rfl) ?_
     have hbz := hbel.drew
     go_wp2_with fail
     go_ret
     exact ⟨ret_b HF.out.symm, hbz⟩
   ·obtain rfl : k = n := by omega
    have hd1 : decide ((k : Int) < (k : Int)) = false := by rw [decide_eq_false_iff_not]; omega
    have hF : decide (V = V') = true := by
     rw [decide_eq_true_eq]
     rw [List.take_of_length_le (by rw [hv.len]; omega), List.take_of_length_le (by rw [hv'.len]; omega)] at hT
     exact hT
    have HF := Lib.hid hF
    clear hT hv hv' hm hm' hF
    go_wp2_with fail
    go_ret
    exact ⟨ret_b HF.out.symm, hbel⟩
 ·have hd0 : ((n : Int) != (n' : Int)) = true := by simp; omega
  have HF := Lib.hid (show decide (V = V') = false by
   rw [decide_eq_false_iff_not]
   intro e
   exact hne (by rw [← hv.len, ← hv'.len, e]))
  clear hv hv' hm hm' hne
  go_wp2_with fail
  go_ret
  exact ⟨ret_b HF.out.symm, hb1⟩
end Go.Proofs.YtaflikgdlkaefaaGreat
/- Vectors: vector.Same. -/
namespace Go.Proofs.YtaflikgdlkaefaaGreat
open Go.RowKit Go.Maps Go.Proofs.YtaflikgdlkaefaaGreat.Pl Go.Proofs.YtaflikgdlkaefaaGreat.Sp Go.Proofs.YtaflikgdlkaefaaGreat.Ve
set_option maxRecDepth 20000

set_option maxRecDepth 100000 in
theorem REq_any (w : World) {B B' : Nat} (A A' : Option Addr) (n n' c c' : Nat) (l m : List Rg) (hl : Sl w B A (rv l)) (hm : Sl w B' A' (rv m)) (h0 : n = l.length) (h1 : n' = m.length) (hn : n ≤ 1000000000) (hn' : n' ≤ 1000000000) (_ : B ≤ w.heap.size) (_ : B' ≤ w.heap.size) :
  Calls Tryz.prog 57 #[.slice A n c, .slice A' n' c'] w fun e w' => e = .returned (.bool (decide (l = m))) ∧ Below w.heap.size w w' := by
 by_cases hne : n = n'
 ·subst hne
  have HN := Lib.hid (And.intro h0 h1)
  clear h0 h1
  go_enter Tryz.func57, Tryz.ntmps57
  go_wp2_with fail
  go_loopw [13] (fun x5 wr => ∃ k : Nat, k ≤ n ∧ x5 = .int .i64 (k : Int) ∧ l.take k = m.take k ∧ Below w.heap.size w wr) (fun x5 _ => n - (intOf x5).toNat)
  case atStart => exact ⟨0, by omega, rfl, rfl, Below.refl _ _⟩
  case round =>
   obtain ⟨k, hk, rfl, htk, hbel⟩ := hrel
   by_cases hlt : k < n
   ·have hkl : k < l.length := by have := HN.out.1; omega
    have hkm : k < m.length := by have := HN.out.2; omega
    obtain ⟨b, o, rfl, hb1, hb2, c0, c1⟩ := rgAt hl hkl
    obtain ⟨b', o', rfl, hb3, hb4, d0, d1⟩ := rgAt hm hkm
    have HE := Lib.hid (And.intro (fun h : l[k]?.getD ⟨0, 0⟩ = m[k]?.getD ⟨0, 0⟩ => show l.take (k + 1) = m.take (k + 1) by
     rw [List.getElem?_eq_getElem hkl, List.getElem?_eq_getElem hkm, Option.getD_some, Option.getD_some] at h
     rw [List.take_succ_eq_append_getElem hkl, List.take_succ_eq_append_getElem hkm, htk, h]) (fun (h : ¬ l[k]?.getD ⟨0, 0⟩ = m[k]?.getD ⟨0, 0⟩) (e : l = m) => h (by rw [e])))
    generalize l[k]?.getD ⟨0, 0⟩ = x at *
    generalize m[k]?.getD ⟨0, 0⟩ = y at *
    have hd1 : decide ((k : Int) < (n : Int)) = true := by rw [decide_eq_true_eq]; omega
    obtain ⟨q, hq⟩ : ∃ q, decide (x = y) = q := ⟨_, rfl⟩
    have heq := fun W => ne2R W x y
    rw [hq] at heq
    unfold Rg.v at heq
    have HT := Lib.hid htk
    replace c0 := (hbel.cell hb2).trans c0
    replace c1 := (hbel.cell hb2).trans c1
    replace d0 := (hbel.cell hb4).trans d0
    replace d1 := (hbel.cell hb4).trans d1
    clear htk hl hm hkl hkm
    go_wp2_with fail
    have hb0 : (0 : Int) ≤ (k : Int) := by omega
    have hb1 : (k : Int) < (n : Int) := by omega
    have q0 := cellB c0
    have q1 := cellB c1
    have q2 := cellB d0
    have q3 := cellB d1
    refine bstart (by kernel_rfl) ?_
    refine btake 0 (oi := _) (v := ?_) (by simp only [List.getElem?_toArray, List.getElem?_cons_zero]; rfl) (by kernel_rfl) (by exact fun _ _ _ h => h) (by first | assumption | exact KB.refl _) (.inl ⟨by rfl, fun W hW => ?_⟩) ?_; rotate_left
    ·(go_simp; first | done | with_reducible rfl)
    try simp only [Act.put, List.setIfInBounds_toArray, List.set_cons_zero, List.set_cons_succ]
    refine btake 1 (oi := _) (v := ?_) (by simp only [getElem?_toArray, getElem?_cons_succ, getElem?_cons_zero]; rfl) (by kernel_rfl) (by exact fun _ _ _ h => h) (by first | assumption | exact KB.refl _) (.inl ⟨by rfl, fun W hW => ?_⟩) ?_; rotate_left
    ·(go_simp; first | done | with_reducible rfl)
    try simp only [Act.put, List.setIfInBounds_toArray, List.set_cons_zero, List.set_cons_succ]
    refine btake 2 (oi := _) (v := ?_) (by simp only [getElem?_toArray, getElem?_cons_succ, getElem?_cons_zero]; rfl) (by kernel_rfl) (by exact fun _ _ _ h => h) (by first | assumption | exact KB.refl _) (.inl ⟨by rfl, fun W hW => ?_⟩) ?_; rotate_left
    ·(go_simp; first | done | with_reducible rfl)
    try simp only [Act.put, List.setIfInBounds_toArray, List.set_cons_zero, List.set_cons_succ]
    refine btake 3 (oi := _) (v := ?_) (by simp only [getElem?_toArray, getElem?_cons_succ, getElem?_cons_zero]; rfl) (by kernel_rfl) (by exact fun _ _ _ h => h) (by first | assumption | exact KB.refl _) (.inl ⟨by rfl, fun W hW => ?_⟩) ?_; rotate_left
    ·(go_simp; first | done | with_reducible rfl)
    try simp only [Act.put, List.setIfInBounds_toArray, List.set_cons_zero, List.set_cons_succ]
    refine btake 4 (oi := _) (v := ?_) (by simp only [getElem?_toArray, getElem?_cons_succ, getElem?_cons_zero]; rfl) (by kernel_rfl) (by exact fun _ _ _ h => h) (by first | assumption | exact KB.refl _) (.inl ⟨by rfl, fun W hW => ?_⟩) ?_; rotate_left
    ·(go_simp; first | done | with_reducible rfl)
    try simp only [Act.put, List.setIfInBounds_toArray, List.set_cons_zero, List.set_cons_succ]
    refine btake 5 (oi := _) (v := ?_) (by simp only [getElem?_toArray, getElem?_cons_succ, getElem?_cons_zero]; rfl) (by kernel_rfl) (by exact fun _ _ _ h => h) (by first | assumption | exact KB.refl _) (.inl ⟨by rfl, fun W hW => ?_⟩) ?_; rotate_left
    ·(go_simp; first | done | with_reducible rfl)
    try simp only [Act.put, List.setIfInBounds_toArray, List.set_cons_zero, List.set_cons_succ]
    refine btake 6 (oi := _) (v := ?_) (by simp only [getElem?_toArray, getElem?_cons_succ, getElem?_cons_zero]; rfl) (by kernel_rfl) (by exact fun _ _ _ h => h) (by first | assumption | exact KB.refl _) (.inl ⟨by rfl, fun W hW => ?_⟩) ?_; rotate_left
    ·(go_simp; first | done | with_reducible rfl)
    try simp only [Act.put, List.setIfInBounds_toArray, List.set_cons_zero, List.set_cons_succ]
    refine btake 7 (oi := _) (v := ?_) (by simp only [getElem?_toArray, getElem?_cons_succ, getElem?_cons_zero]; rfl) (by kernel_rfl) (by exact fun _ _ _ h => h) (by first | assumption | exact KB.refl _) (.inl ⟨by rfl, fun W hW => ?_⟩) ?_; rotate_left
    ·(go_simp; first | done | with_reducible rfl)
    try simp only [Act.put, List.setIfInBounds_toArray, List.set_cons_zero, List.set_cons_succ]
    refine btake 8 (oi := _) (v := ?_) (by simp only [getElem?_toArray, getElem?_cons_succ, getElem?_cons_zero]; rfl) (by kernel_rfl) (by exact fun _ _ _ h => h) (by first | assumption | exact KB.refl _) (.inl ⟨by rfl, fun W hW => ?_⟩) ?_; rotate_left
    ·(go_simp; first | done | with_reducible rfl)
    try simp only [Act.put, List.setIfInBounds_toArray, List.set_cons_zero, List.set_cons_succ]
    refine bdone (by kernel_rfl) ?_
    have hbd := hbel.drew
    clear q0 q1 q2 q3 c0 c1 d0 d1 heq hbel
    by_cases hxy : x = y
    ·obtain rfl : q = true := by rw [← hq, decide_eq_true_eq]; exact hxy
     clear hq
     go_wp2_with fail
     go_roundw
     case rel => exact ⟨k + 1, hlt, by go_num, HE.out.1 hxy, hbd⟩
     case measure => simp [intOf]; omega
    ·obtain rfl : q = false := by rw [← hq, decide_eq_false_iff_not]; exact hxy
     clear hq
     go_wp2_with fail
     go_ret
     exact ⟨ret_b (by rw [eq_comm, decide_eq_false_iff_not]; exact HE.out.2 hxy), hbd⟩
   ·obtain rfl : k = n := by omega
    have HD := Lib.hid (show l = m by rw [← List.take_length (l := l), ← HN.out.1, htk, HN.out.2, List.take_length])
    have hd1 : decide ((k : Int) < (k : Int)) = false := by rw [decide_eq_false_iff_not]; omega
    clear htk
    go_wp2_with fail
    go_ret
    exact ⟨ret_b (by rw [eq_comm, decide_eq_true_eq]; exact HD.out), hbel⟩
 ·go_enter Tryz.func57, Tryz.ntmps57
  go_wp2_with fail
  go_ret
  exact ⟨ret_b (by rw [eq_comm, decide_eq_false_iff_not]; rintro rfl; exact hne (by omega)), Below.refl _ _⟩
set_option maxRecDepth 100000 in
set_option maxHeartbeats 3200000 in
theorem sameC_any (w : World) (r r' : Int) (A A' : Option Addr) (n n' c c' : Nat) (l l' : List Rg) (hq : RSt w ⟨r, A, c, l⟩) (hq' : RSt w ⟨r', A', c', l'⟩) (h0 : n = l.length) (h1 : n' = l'.length) (hl : n ≤ 1000000) (hl' : n' ≤ 1000000) :
  Calls Tryz.prog 56 #[.agg #[.int .i64 r, .slice A n c], .agg #[.int .i64 r', .slice A' n' c']] w fun e w' => e = .returned (.bool (decide ((r, l) = (r', l')))) ∧ Below w.heap.size w w' := by
 have hb0 : Below w.heap.size w ((w.alloc (.cells #[.int .i64 r, .slice A n c] 60)).alloc (.cells #[.int .i64 r', .slice A' n' c'] 60)) := balloc (balloc (Below.refl _ _) _) _
 have a0 : At ((w.alloc (.cells #[.int .i64 r, .slice A n c] 60)).alloc (.cells #[.int .i64 r', .slice A' n' c'] 60)) w.heap.size [.int .i64 r, .slice A n c] := (At.new w 60 #[.int .i64 r, .slice A n c]).alloc _
 have a1 : At ((w.alloc (.cells #[.int .i64 r, .slice A n c] 60)).alloc (.cells #[.int .i64 r', .slice A' n' c'] 60)) (w.heap.size + 1) [.int .i64 r', .slice A' n' c'] := by
  have := At.new (w.alloc (.cells #[.int .i64 r, .slice A n c] 60)) 60 #[.int .i64 r', .slice A' n' c']
  rw [World.size_alloc] at this
  exact this
 have y0 := a0.c 0 rfl
 have y1 := a0.c 1 rfl
 have y2 := a1.c 0 rfl
 have y3 := a1.c 1 rfl
 have HE := Lib.hid (fun W (h : Below w.heap.size w W) => REq_any W A A' n n' c c' l l' (hq.1.below h) (hq'.1.below h) h0 h1 (by omega) (by omega) h.size h.size)
 have hP : decide ((r, l) = (r', l')) = (decide (r = r') && decide (l = l')) := by
  rw [Bool.eq_iff_iff]
  simp
 obtain ⟨P, hPP⟩ : ∃ P, decide ((r, l) = (r', l')) = P := ⟨_, rfl⟩
 rw [hPP] at hP ⊢
 obtain ⟨Q, hQQ⟩ : ∃ Q, decide (l = l') = Q := ⟨_, rfl⟩
 rw [hQQ] at hP HE
 clear hq hq' hl hl' a0 a1 h0 h1 hPP hQQ
 go_enter Tryz.func56, Tryz.ntmps56
 by_cases g : r = r'
 ·have d0 : ((r : Int) == (r' : Int)) = true := by simpa using g
  have HF := Lib.hid (show P = Q by rw [hP, decide_eq_true g, Bool.true_and])
  clear g hP
  go_wp2_with fail
  refine (HE.out _ hb0).mono ?_
  rintro e w2 ⟨rfl, h2⟩
  have hbz := hb0.trans (h2.mono hb0.size)
  go_wp2_with fail
  go_ret
  exact ⟨ret_b HF.out.symm, hbz⟩
 ·have d0 : ((r : Int) == (r' : Int)) = false := by simpa using g
  have HF := Lib.hid (show P = false by rw [hP, decide_eq_false g, Bool.false_and])
  clear g hP
  go_wp2_with fail
  go_ret
  exact ⟨ret_b HF.out.symm, hb0⟩
set_option maxRecDepth 100000 in
set_option maxHeartbeats 6400000 in
theorem EqF_any (w : World) (A A' : Option Addr) (n n' c c' : Nat) (R R' : List RA) (V V' : VL) (hv : VS w A n c R V) (hv' : VS w A' n' c' R' V') (hl : n ≤ 1000000) (hm : Lim 1000000 V) (hm' : Lim 1000000 V') :
  Calls Tryz.prog 55 #[.slice A n c, .slice A' n' c', .func (.func 56) #[] #[]] w fun e w' => e = .returned (.bool (decide (V = V'))) ∧ Below w.heap.size w w' := by
 go_enter Tryz.func55, Tryz.ntmps55
 by_cases hne : n = n'
 ·subst hne
  have hd0 : ((n : Int) != (n : Int)) = false := by simp
  go_wp2_with fail
  go_loopw [17] (fun x17 wr => ∃ (k : Nat), k ≤ n ∧ x17 = .int .i64 (k : Int) ∧ V.take k = V'.take k ∧ Below w.heap.size w wr) (fun x17 _ => n - (intOf x17).toNat)
  case atStart => exact ⟨0, by omega, rfl, by simp, Below.refl _ _⟩
  case round =>
   obtain ⟨k, hk, rfl, hT, hbel⟩ := hrel
   by_cases hlt : k < n
   ·obtain ⟨q, b, o, _, hV, hq, rfl, hbW, c0, c1⟩ := hv.at_ hlt
    obtain ⟨q', b', o', _, hV', hq', rfl, hbW', c0', c1'⟩ := hv'.at_ hlt
    have hql : q.l.length ≤ 1000000 := hm _ (List.mem_of_getElem? hV)
    have hql' : q'.l.length ≤ 1000000 := hm' _ (List.mem_of_getElem? hV')
    replace c0 := (hbel.cell hbW).trans c0
    replace c1 := (hbel.cell hbW).trans c1
    replace c0' := (hbel.cell hbW').trans c0'
    replace c1' := (hbel.cell hbW').trans c1'
    have hd1 : decide ((k : Int) < (n : Int)) = true := by rw [decide_eq_true_eq]; omega
    have hn0 : (0 : Int) ≤ (k : Int) := by omega
    have hn1 : (k : Int) < (n : Int) := by omega
    have hst := Lib.hid (fun p => take_eq_snoc hT hV hV' p)
    have hnv : (q.r, q.l) ≠ (q'.r, q'.l) → decide (V = V') = false := fun h => by
     rw [decide_eq_false_iff_not]
     intro e
     rw [e, hV'] at hV
     exact h (Option.some.inj hV).symm
    have hsame := fun W2 (h : Below w.heap.size w W2) => sameC_any W2 q.r q'.r q.A q'.A q.l.length q'.l.length q.c q'.c q.l q'.l (hq.below h) (hq'.below h) rfl rfl (by omega) (by omega)
    obtain ⟨p, hp⟩ : ∃ p, decide ((q.r, q.l) = (q'.r, q'.l)) = p := ⟨_, rfl⟩
    rw [hp] at hsame
    have HV := Lib.hid (And.intro hnv hsame)
    have HP := Lib.hid hp
    obtain ⟨r, A1, m1, l⟩ := q
    obtain ⟨r', A1', m1', l'⟩ := q'
    dsimp only at *
    obtain ⟨ln, hln⟩ : ∃ n, l.length = n := ⟨_, rfl⟩
    obtain ⟨ln', hln'⟩ : ∃ n, l'.length = n := ⟨_, rfl⟩
    rw [hln] at c1 HV
    rw [hln'] at c1' HV
    clear hnv hsame hv hv' hm hm' hq hq' hV hV' hT hp hql hql' hln hln'
    have hbx := (hbel.alloc hbel.size (.cells #[.int .i64 r, .slice A1 ln m1] 60))
    have hbx2 := (hbx.alloc hbx.size (.cells #[.int .i64 r', .slice A1' ln' m1'] 60))
    have hbk := balloc (Below.refl wr.heap.size wr) (.cells #[.int .i64 r, .slice A1 ln m1] 60)
    have hbW2 : b' < wr.heap.size := Nat.lt_of_lt_of_le hbW' hbel.size
    have d0' := (hbk.cell (p := ⟨b', o' + k * 2, none⟩) hbW2).trans c0'
    have d1' := (hbk.cell (p := ⟨b', o' + k * 2 + 1, none⟩) hbW2).trans c1'
    have z0 := ((At.new wr 60 #[.int .i64 r, .slice A1 ln m1]).alloc (.cells #[.int .i64 r', .slice A1' ln' m1'] 60)).c 0 rfl
    have z1 := ((At.new wr 60 #[.int .i64 r, .slice A1 ln m1]).alloc (.cells #[.int .i64 r', .slice A1' ln' m1'] 60)).c 1 rfl
    go_wp2_with fail
    refine (HV.out.2 _ hbx2).mono ?_
    rintro e w2 ⟨rfl, h2⟩
    have hbz := hbx2.trans (h2.mono hbx2.size)
    clear h2 hbx hbx2 hbk c0 c1 c0' c1' d0' d1' z0 z1 hbel
    cases p with
    | false =>
     have HF := Lib.hid (show decide (V = V') = false from HV.out.1 fun e => by have := HP.out; rw [decide_eq_false_iff_not] at this; exact this e)
     go_wp2_with fail
     go_ret
     exact ⟨ret_b HF.out.symm, hbz⟩
    | true =>
     have HT := Lib.hid (hst.out (by have := HP.out; rw [decide_eq_true_eq] at this; exact this))
     go_wp2_with fail
     go_roundw
     case rel => exact ⟨k + 1, by omega, by go_num, HT.out, hbz⟩
     case measure => simp [intOf]; omega
   ·obtain rfl : k = n := by omega
    have hd1 : decide ((k : Int) < (k : Int)) = false := by rw [decide_eq_false_iff_not]; omega
    have hF : decide (V = V') = true := by
     rw [decide_eq_true_eq]
     rw [List.take_of_length_le (by rw [hv.len]; omega), List.take_of_length_le (by rw [hv'.len]; omega)] at hT
     exact hT
    have HF := Lib.hid hF
    clear hT hv hv' hm hm' hF
    go_wp2_with fail
    go_ret
    exact ⟨ret_b HF.out.symm, hbel⟩
 ·have hd0 : ((n : Int) != (n' : Int)) = true := by simp; omega
  have HF := Lib.hid (show decide (V = V') = false by
   rw [decide_eq_false_iff_not]
   intro e
   exact hne (by rw [← hv.len, ← hv'.len, e]))
  clear hv hv' hm hm' hne
  go_wp2_with fail
  go_ret
  exact ⟨ret_b HF.out.symm, Below.refl _ _⟩
def sameV (V V' : VL) : Bool := rightV V && rightV V' && decide (V = V')
set_option maxRecDepth 100000 in
set_option maxHeartbeats 6400000 in
theorem Same_any (w : World) (A A' : Option Addr) (n n' c c' : Nat) (R R' : List RA) (V V' : VL) (hv : VS w A n c R V) (hv' : VS w A' n' c' R' V') (hl : n ≤ 1000000) (hl' : n' ≤ 1000000) (hm : Lim 1000000 V) (hm' : Lim 1000000 V') :
  Calls Tryz.prog 25 #[.agg #[.slice A n c], .agg #[.slice A' n' c']] w fun e w' => e = .returned (.bool (sameV V V')) ∧ Below w.heap.size w w' := by
 have hb0 : Below w.heap.size w ((w.alloc (.cells #[.slice A n c] 24)).alloc (.cells #[.slice A' n' c'] 24)) := balloc (balloc (Below.refl _ _) _) _
 have a0 : At ((w.alloc (.cells #[.slice A n c] 24)).alloc (.cells #[.slice A' n' c'] 24)) w.heap.size [.slice A n c] := (At.new w 24 #[.slice A n c]).alloc _
 have a1 : At ((w.alloc (.cells #[.slice A n c] 24)).alloc (.cells #[.slice A' n' c'] 24)) (w.heap.size + 1) [.slice A' n' c'] := by
  have := At.new (w.alloc (.cells #[.slice A n c] 24)) 24 #[.slice A' n' c']
  rw [World.size_alloc] at this
  exact this
 obtain ⟨p, hp⟩ : ∃ p, rightV V = p := ⟨_, rfl⟩
 obtain ⟨q, hq⟩ : ∃ q, rightV V' = q := ⟨_, rfl⟩
 have HR := Lib.hid (fun W (hW : Below w.heap.size w W) => VRight_any W A n c R V (hv.below hW) hl hm)
 have HR' := Lib.hid (fun W (hW : Below w.heap.size w W) => VRight_any W A' n' c' R' V' (hv'.below hW) hl' hm')
 have HE := Lib.hid (fun W (hW : Below w.heap.size w W) => EqF_any W A A' n n' c c' R R' V V' (hv.below hW) (hv'.below hW) hl hm hm')
 have hS : sameV V V' = (p && q && decide (V = V')) := by rw [sameV, hp, hq]
 rw [hp] at HR
 rw [hq] at HR'
 obtain ⟨S, hSS⟩ : ∃ S, sameV V V' = S := ⟨_, rfl⟩
 obtain ⟨D, hDD⟩ : ∃ D, decide (V = V') = D := ⟨_, rfl⟩
 rw [hSS] at hS ⊢
 rw [hDD] at hS HE
 clear hv hv' hl hl' hm hm' hp hq hSS hDD
 go_enter Tryz.func25, Tryz.ntmps25
 go_wp2_with fail
 generalize (w.alloc (.cells #[.slice A n c] 24)).alloc (.cells #[.slice A' n' c'] 24) = W at *
 refine (HR.out _ hb0).mono ?_
 rintro e w1 ⟨rfl, h1⟩
 have b0 := a0.below h1
 have b1 := a1.below h1
 have hbz := hb0.trans (h1.mono hb0.size)
 clear h1 a0 a1
 cases p with
 | false =>
  have HF := Lib.hid (show S = false by rw [hS]; rfl)
  clear hS
  go_wp2_with fail
  go_ret
  exact ⟨ret_b HF.out.symm, hbz⟩
 | true =>
  have y1 := b1.c 0 rfl
  go_wp2_with fail
  refine (HR'.out _ hbz).mono ?_
  rintro e w2 ⟨rfl, h2⟩
  have d0 := b0.below h2
  have d1 := b1.below h2
  have hby := hbz.trans (h2.mono hbz.size)
  clear h2 b0 b1 y1
  cases q with
  | false =>
   have HF := Lib.hid (show S = false by rw [hS]; rfl)
   clear hS
   go_wp2_with fail
   go_ret
   exact ⟨ret_b HF.out.symm, hby⟩
  | true =>
   have HF := Lib.hid (show S = D by rw [hS]; rfl)
   have z0 := d0.c 0 rfl
   have z1 := d1.c 0 rfl
   clear hS d0 d1
   go_wp2_with fail
   refine (HE.out _ hby).mono ?_
   rintro e w3 ⟨rfl, h3⟩
   have hbx := hby.trans (h3.mono hby.size)
   clear z0 z1 h3
   go_wp2_with fail
   go_ret
   exact ⟨ret_b HF.out.symm, hbx⟩
end Go.Proofs.YtaflikgdlkaefaaGreat
/- Vectors: their bytes, and what bytes tell. -/
namespace Go.Proofs.YtaflikgdlkaefaaGreat.Ve
open Go.Proofs.YtaflikgdlkaefaaGreat.Sp Go.Proofs.YtaflikgdlkaefaaGreat.Dt Go.Proofs.YtaflikgdlkaefaaGreat.Pl

/-- the numbers of the ranges behind e -/
def gapsN (e : Int) : List Rg → List Nat
 | [] => []
 | x :: t => (x.a - e - 2).toNat :: (x.b - x.a).toNat :: gapsN x.b t
def rowN (l : List Rg) : List Nat := (firstS l).toNat :: (extraS l).length :: gapsN (firstS l) (extraS l)
def rowB (p : Int × List Rg) : List UInt8 := UInt8.ofNat p.1.toNat :: encs (rowN p.2)
def flatV (V : VL) : List UInt8 := V.flatMap rowB
def bytesV (V : VL) : List UInt8 := if rightV V = true then enc V.length ++ flatV V else []
/-- two numbers -/
def twoS (b : List UInt8) : Nat × Nat × Nat × Nat :=
 if (takeS b).2.2 ≠ 0 then (0, 0, 0, (takeS b).2.2)
 else if (takeS (b.drop (takeS b).2.1)).2.2 ≠ 0 then (0, 0, 0, (takeS (b.drop (takeS b).2.1)).2.2)
 else ((takeS b).1, (takeS (b.drop (takeS b).2.1)).1, (takeS b).2.1 + (takeS (b.drop (takeS b).2.1)).2.1, 0)
def Mx : Nat := 1099511627775
/-- m ranges more, from k on -/
def goG (b : List UInt8) : Nat → List Rg → Nat → Nat → List Rg × Nat × Nat
 | 0, o, _, k => (o, k, 0)
 | m + 1, o, e, k =>
  if (twoS (b.drop k)).2.2.2 ≠ 0 then ([], 0, (twoS (b.drop k)).2.2.2)
  else if Mx < e + 2 + min (twoS (b.drop k)).1 Mx + min (twoS (b.drop k)).2.1 Mx then ([], 0, 21)
  else goG b m (o ++ [⟨((e + 2 + (twoS (b.drop k)).1 : Nat) : Int), ((e + 2 + (twoS (b.drop k)).1 + (twoS (b.drop k)).2.1 : Nat) : Int)⟩]) (e + 2 + (twoS (b.drop k)).1 + (twoS (b.drop k)).2.1) (k + (twoS (b.drop k)).2.2.1)
def baseR (n : Nat) : List Rg := if 0 < n then [⟨1, (n : Int)⟩] else []
/-- a row's ranges, from k on -/
def rowS (b : List UInt8) (k : Nat) : List Rg × Nat × Nat :=
 if (twoS (b.drop k)).2.2.2 ≠ 0 then ([], 0, (twoS (b.drop k)).2.2.2)
 else if Mx < (twoS (b.drop k)).1 ∨ (twoS (b.drop k)).1 = 0 ∧ (twoS (b.drop k)).2.1 = 0 then ([], 0, 21)
 else goG b (twoS (b.drop k)).2.1 (baseR (twoS (b.drop k)).1) (twoS (b.drop k)).1 (k + (twoS (b.drop k)).2.2.1)
/-- m rows more, from k on -/
def goT (b : List UInt8) : Nat → VL → Int → Nat → VL × Nat × Nat
 | 0, V, _, k => (V, k, 0)
 | m + 1, V, last, k =>
  if b.length ≤ k then ([], 0, 20)
  else if 64 ≤ at_ b k ∨ (at_ b k : Int) ≤ last then ([], 0, 21)
  else if (rowS b (k + 1)).2.2 ≠ 0 then ([], 0, (rowS b (k + 1)).2.2)
  else goT b m (V ++ [((at_ b k : Int), (rowS b (k + 1)).1)]) (at_ b k : Int) (rowS b (k + 1)).2.1
def takeV (b : List UInt8) : VL × Nat × Nat :=
 if (takeS b).2.2 ≠ 0 then ([], 0, (takeS b).2.2) else if (takeS b).1 > 64 then ([], 0, 21) else goT b (takeS b).1 [] (-1) (takeS b).2.1
theorem gapsN_len : ∀ (e : Int) (l : List Rg), (gapsN e l).length = 2 * l.length
 | _, [] => rfl
 | e, x :: t => by simp [gapsN, gapsN_len x.b t]; omega
theorem first_extra {l : List Rg} (h : right l = true) : 0 ≤ firstS l ∧ firstS l ≤ mx ∧ okR (firstS l + 2) (extraS l) = true ∧ l = baseR (firstS l).toNat ++ extraS l := by
 unfold extraS
 have hf : firstS l = firstR l := by rw [firstS, if_pos h]
 rw [hf]
 cases l with
 | nil => simp [firstR, baseR, mx, okR]
 | cons x t =>
  obtain ⟨h1, h2, h3⟩ := okR_cons.1 h
  rw [ok_iff] at h2
  unfold firstR
  dsimp only
  by_cases hx : x.a = 1
  ·simp only [hx, if_true]
   rw [if_pos (by omega)]
   refine ⟨by omega, h2.2.2, by simpa using h3, ?_⟩
   rw [baseR, if_pos (by omega)]
   obtain ⟨a, b⟩ := x
   dsimp only at *
   simp only [List.drop_succ_cons, List.drop_zero, List.singleton_append, List.cons.injEq, Rg.mk.injEq, and_true]
   omega
  ·simp only [hx, if_false]
   rw [if_neg (by omega)]
   refine ⟨by omega, by unfold mx; omega, okR_cons.2 ⟨by omega, ok_iff.2 h2, h3⟩, by simp [baseR]⟩
end Go.Proofs.YtaflikgdlkaefaaGreat.Ve
/- Vectors: less bytes tell that they are short; bytes that tell a vector are its bytes. -/
namespace Go.Proofs.YtaflikgdlkaefaaGreat.Ve
open Go.Proofs.YtaflikgdlkaefaaGreat.Sp Go.Proofs.YtaflikgdlkaefaaGreat.Dt Go.Proofs.YtaflikgdlkaefaaGreat.Pl

theorem goT_bad (b : List UInt8) : ∀ (m : Nat) (V : VL) (last : Int) (k : Nat), (goT b m V last k).2.2 ≠ 0 → goT b m V last k = ([], 0, (goT b m V last k).2.2)
 | 0, _, _, _, h => absurd rfl h
 | m + 1, V, last, k, h => by
  rw [goT] at h ⊢
  split
  ·rfl
  ·rename_i h1
   rw [if_neg h1] at h
   split
   ·rfl
   ·rename_i h2
    rw [if_neg h2] at h
    split
    ·rfl
    ·rename_i h3
     rw [if_neg h3] at h
     exact goT_bad b m _ _ _ h
theorem takeV_bad {b : List UInt8} (h : (takeV b).2.2 ≠ 0) : takeV b = ([], 0, (takeV b).2.2) := by
 unfold takeV at h ⊢
 split
 ·rfl
 ·rename_i h1
  rw [if_neg h1] at h
  split
  ·rfl
  ·rename_i h2
   rw [if_neg h2] at h
   exact goT_bad b _ _ _ _ h
theorem flatV_cons (p : Int × List Rg) (V : VL) : flatV (p :: V) = rowB p ++ flatV V := by simp [flatV]
end Go.Proofs.YtaflikgdlkaefaaGreat.Ve
/- Vectors: a row's numbers, one range behind the other. -/
namespace Go.Proofs.YtaflikgdlkaefaaGreat.Ve
open Go.Proofs.YtaflikgdlkaefaaGreat.Sp Go.Proofs.YtaflikgdlkaefaaGreat.Dt Go.Proofs.YtaflikgdlkaefaaGreat.Pl

def endG (e : Int) : List Rg → Int
 | [] => e
 | x :: t => endG x.b t
theorem gaps_append : ∀ (a b : List Rg) (e : Int), gapsN e (a ++ b) = gapsN e a ++ gapsN (endG e a) b
 | [], b, e => rfl
 | x :: a, b, e => by rw [List.cons_append, gapsN, gapsN, gaps_append a b x.b]; rfl
theorem endG_append : ∀ (a b : List Rg) (e : Int), endG e (a ++ b) = endG (endG e a) b
 | [], b, e => rfl
 | x :: a, b, e => by rw [List.cons_append, endG, endG, endG_append a b x.b]
theorem gaps_step {l : List Rg} {k : Nat} {x : Rg} (h : l[k]? = some x) (e : Int) : gapsN e (l.take (k + 1)) = gapsN e (l.take k) ++ [(x.a - endG e (l.take k) - 2).toNat, (x.b - x.a).toNat] := by
 rw [List.take_add_one, h, Option.toList_some, gaps_append]
 rfl
theorem endG_step {l : List Rg} {k : Nat} {x : Rg} (h : l[k]? = some x) (e : Int) : endG e (l.take (k + 1)) = x.b := by
 rw [List.take_add_one, h, Option.toList_some, endG_append]
 rfl
theorem okR_at : ∀ {l : List Rg} {e : Int} {k : Nat} {x : Rg}, okR (e + 2) l = true → 0 ≤ e → l[k]? = some x → 0 ≤ endG e (l.take k) ∧ endG e (l.take k) + 2 ≤ x.a ∧ x.a ≤ x.b ∧ x.b ≤ 1099511627775
 | [], e, k, x, _, _, h => by simp at h
 | y :: l, e, 0, x, ho, he, h => by
  obtain ⟨h1, h2, h3⟩ := okR_cons.1 ho
  rw [ok_iff] at h2
  unfold mx at h2
  have : y = x := by simpa using h
  subst this
  exact ⟨he, h1, h2.2.1, h2.2.2⟩
 | y :: l, e, k + 1, x, ho, he, h => by
  obtain ⟨h1, h2, h3⟩ := okR_cons.1 ho
  rw [ok_iff] at h2
  rw [List.take_succ_cons, endG]
  exact okR_at h3 (by omega) (by simpa using h)
theorem gaps_lt : ∀ {l : List Rg} {e : Int}, okR (e + 2) l = true → 0 ≤ e → ∀ n ∈ gapsN e l, n < 18446744073709551616
 | [], e, _, _, n, hn => by simp [gapsN] at hn
 | y :: l, e, ho, he, n, hn => by
  obtain ⟨h1, h2, h3⟩ := okR_cons.1 ho
  rw [ok_iff] at h2
  unfold mx at h2
  rw [gapsN] at hn
  rcases List.mem_cons.1 hn with rfl | hn
  ·omega
  ·rcases List.mem_cons.1 hn with rfl | hn
   ·omega
   ·exact gaps_lt h3 (by omega) n hn
theorem rowN_len (l : List Rg) : (rowN l).length ≤ 2 * l.length + 2 := by
 have h : (extraS l).length ≤ l.length := by
  unfold extraS
  split
  ·rw [List.length_drop]; omega
  ·exact Nat.le_refl _
 simp only [rowN, List.length_cons, gapsN_len]
 omega
theorem rowB_len (p : Int × List Rg) : (rowB p).length ≤ 20 * p.2.length + 21 := by
 have h1 := encs_len (rowN p.2)
 have h2 := rowN_len p.2
 simp only [rowB, List.length_cons]
 omega
theorem flatV_len {m : Nat} : ∀ {V : VL}, (∀ p ∈ V, p.2.length ≤ m) → (flatV V).length ≤ V.length * (20 * m + 21)
 | [], _ => by simp [flatV]
 | p :: V, h => by
  have h1 := flatV_len (m := m) (V := V) fun q hq => h q (by simp [hq])
  have h2 := rowB_len p
  have h3 := h p (by simp)
  rw [flatV_cons, List.length_append, List.length_cons, Nat.add_mul]
  omega
theorem flatV_step {V : VL} {k : Nat} {p : Int × List Rg} (h : V[k]? = some p) : flatV (V.take (k + 1)) = flatV (V.take k) ++ rowB p := by
 rw [List.take_add_one, h, Option.toList_some]
 simp [flatV]
theorem rowN_lt {l : List Rg} (h : right l = true) (hl : l.length < 1000000) : ∀ n ∈ rowN l, n < 18446744073709551616 := by
 obtain ⟨h1, h2, h3, h4⟩ := first_extra h
 unfold mx at h2
 have hel : (extraS l).length ≤ l.length := by
  have := congrArg List.length h4
  rw [List.length_append] at this
  omega
 intro n hn
 unfold rowN at hn
 rcases List.mem_cons.1 hn with rfl | hn
 ·omega
 ·rcases List.mem_cons.1 hn with rfl | hn
  ·omega
  ·exact gaps_lt h3 h1 n hn
end Go.Proofs.YtaflikgdlkaefaaGreat.Ve
/- Vectors: vector.Extra, Has. -/
namespace Go.Proofs.YtaflikgdlkaefaaGreat
open Go.RowKit Go.Maps Go.Proofs.YtaflikgdlkaefaaGreat.Pl Go.Proofs.YtaflikgdlkaefaaGreat.Sp Go.Proofs.YtaflikgdlkaefaaGreat.Ve
set_option maxRecDepth 20000

theorem mval {P : Program} {ops : Array Oper} {Q : Exit → Act → World → Prop} {rest : List Oper} {o : Oper} {a : Act} {w : World} {v : Value} (hg : o.guard = none) (hx : (execOp a.eval o).run P w = .ok (.value v) w)
  (hK : wpList P ops Q rest (a.put o.dst v) w) : wpList P ops Q (o :: rest) a w := by
 refine wpList_plain hg fun K' hK' => ?_
 unfold Oper.wp
 rw [hx]
 exact hK' _ _ hK
set_option maxRecDepth 100000 in
set_option maxHeartbeats 3200000 in
theorem extra_any (w : World) (A : Option Addr) (n c : Nat) (l : List Rg) (hb : Sl w w.heap.size A (rv l)) (h0 : n = l.length) (hl : n ≤ 1000000000) (hc : n ≤ c) (hcm : c ≤ maxLen) :
  Calls Tryz.prog 47 #[.slice A n c] w (RAns w (extraS l)) := by
 have HR := Lib.hid (RFirst_any w A n c l hb h0 hl)
 by_cases hf : 0 < firstS l
 ·have hd1 : decide (0 < firstS l) = true := decide_eq_true hf
  have hpos : 1 ≤ n := by
   rcases Nat.eq_zero_or_pos n with h | h
   ·rw [h0] at h
    rw [List.eq_nil_of_length_eq_zero h] at hf
    exact absurd hf (by decide)
   ·exact h
  obtain ⟨A2, hs2, hS2⟩ := sl_postR A n c 1 hpos hc
  have HF := Lib.hid (show extraS l = l.drop 1 by rw [extraS, if_pos hf])
  have HSL := Lib.hid hs2
  have HS := Lib.hid hS2
  have HN := Lib.hid h0
  clear hf hs2 hS2 h0
  go_enter Tryz.func47, Tryz.ntmps47
  go_wp2_with fail
  refine HR.out.mono ?_
  rintro e w1 ⟨rfl, h1⟩
  go_wp2_with (refine mval rfl (exec_postR rfl rfl rfl HSL.out _) ?_)
  go_ret
  refine ⟨A2, c - 1, ?_, ?_, ?_, by omega, h1⟩
  ·rw [HF.out, List.length_drop, ← HN.out]; rfl
  ·rw [HF.out]
   exact HS.out _ _ l HN.out.symm ((hb.below h1).more h1.size)
  ·rw [HF.out, List.length_drop, ← HN.out]; omega
 ·have hd1 : decide (0 < firstS l) = false := decide_eq_false hf
  have HF := Lib.hid (show extraS l = l by rw [extraS, if_neg hf])
  have HN := Lib.hid h0
  clear hf h0
  go_enter Tryz.func47, Tryz.ntmps47
  go_wp2_with fail
  refine HR.out.mono ?_
  rintro e w1 ⟨rfl, h1⟩
  go_wp2_with fail
  go_ret
  rw [HF.out]
  have h0 := HN.out
  exact ⟨A, c, by rw [h0]; rfl, (hb.below h1).more h1.size, by omega, hcm, h1⟩
set_option maxRecDepth 100000 in
set_option maxHeartbeats 3200000 in
theorem Extra_any (w : World) (A : Option Addr) (n c : Nat) (R : List RA) (V : VL) (hv : VS w A n c R V) (hl : n ≤ 1000000) (hm : Lim 1000000 V) (r : Int) (hr : i64in r) :
  Calls Tryz.prog 16 #[.agg #[.slice A n c], .int .i64 r] w (RAns w (extraV V r)) := by
 have hb0 : Below w.heap.size w (w.alloc (.cells #[.slice A n c] 24)) := balloc (Below.refl _ _) _
 have x0 : (w.alloc (.cells #[.slice A n c] 24)).cell? ⟨w.heap.size, 0, none⟩ = some (.slice A n c) := by simp
 have xs : w.heap.size < (w.alloc (.cells #[.slice A n c] 24)).heap.size := by simp
 have HR := Lib.hid (VRight_any _ A n c R V (hv.below hb0) hl hm)
 obtain ⟨p, hp⟩ : ∃ p, rightV V = p := ⟨_, rfl⟩
 rw [hp] at HR
 cases p with
 | false =>
  have HF := Lib.hid (show extraV V r = [] by rw [extraV, if_neg (by rw [hp]; simp)])
  clear hp hv hm
  go_enter Tryz.func16, Tryz.ntmps16
  go_wp2_with fail
  refine HR.out.mono ?_
  rintro e w1 ⟨rfl, h1⟩
  have hbz := hb0.trans (h1.mono hb0.size)
  go_wp2_with fail
  go_ret
  rw [HF.out]
  exact RAns.nil hbz
 | true =>
  have HF := Lib.hid (show extraV V r = extraS (partV V r) by rw [extraV, if_pos hp])
  have HT := Lib.hid (fun W (hW : Below w.heap.size w W) => table_any W A n c R V (hv.below hW) hp)
  have HL := Lib.hid (hm.part r)
  clear hp hv hm
  go_enter Tryz.func16, Tryz.ntmps16
  go_wp2_with fail
  refine HR.out.mono ?_
  rintro e w1 ⟨rfl, h1⟩
  have hbz := hb0.trans (h1.mono hb0.size)
  have y0 := (h1.cell xs).trans x0
  clear x0 h1
  go_wp2_with fail
  refine (HT.out _ hbz).mono ?_
  rintro e w2 ⟨b, T, rfl, hms, hpt, hbb, h2⟩
  obtain ⟨A', c', hlk, hst⟩ := hms.look1 hpt r hr
  have hbv := hbz.trans (h2.mono hbz.size)
  clear hms hpt
  go_wp2_with fail
  refine (extra_any w2 A' _ c' (partV V r) hst.1 rfl (by have := HL.out; omega) hst.2.1 hst.2.2).mono ?_
  rintro e w3 ⟨A3, c3, rfl, hs3, hn3, hc3, h3⟩
  have hbu := hbv.trans (h3.mono hbv.size)
  have hx3 : (extraS (partV V r)).length ≤ (partV V r).length := by
   unfold extraS
   split
   ·rw [List.length_drop]; omega
   ·exact Nat.le_refl _
  go_wp2_with fail
  refine (CloneR_ans w3 A3 _ c3 _ hs3 rfl (by have := HL.out; omega)).mono ?_
  rintro e w4 ⟨A4, c4, rfl, hs4, hn4, hc4, h4⟩
  have hby := hbu.trans (h4.mono hbu.size)
  go_wp2_with fail
  go_ret
  rw [HF.out]
  exact ⟨A4, c4, rfl, hs4, hn4, hc4, hby⟩
end Go.Proofs.YtaflikgdlkaefaaGreat
/- Numbers as bytes: the walks of package num. -/
namespace Go.Proofs.YtaflikgdlkaefaaGreat
open Go.RowKit Go.Proofs.YtaflikgdlkaefaaGreat.Pl
set_option maxRecDepth 20000

def OneRel (w : World) (base : Nat) (s : Value) (l : List UInt8) (v : Nat) (x0 x1 : Value) (wr : World) : Prop :=
 ∃ (k u : Nat) (pre : List UInt8), x1 = .int .u64 (u : Int) ∧ OwnB wr base x0 (l ++ pre) ∧ pre ++ encF k u = enc v ∧ u < 128 ^ (k + 1) ∧ U64 u ∧ w.grownBy wr s.ownBlock ∧ Went w s x0
def OnePost (w : World) (base : Nat) (s : Value) (l k : List UInt8) (e : Ending) (w' : World) : Prop :=
 ∃ s', e = .returned s' ∧ OwnB w' base s' (l ++ k) ∧ w.grownBy w' s.ownBlock ∧ Went w s s'

theorem byte_or_bv (u : Nat) : [Value.int .u8 (bits .or .u8 ((u : Int) % 256) 128)] = bv [UInt8.ofNat (u % 128 + 128)] := by
 rw [Lib.u8_or128_any _ (by omega) (by omega)]
 simp only [bv, List.map, u8v]
 rw [toNat_ofNat (by omega)]
 congr 2
 omega
theorem byte_bv' (u : Nat) (h : u < 256) : [Value.int .u8 (u : Int)] = bv [UInt8.ofNat u] := by
 simp only [bv, List.map, u8v, toNat_ofNat h]

set_option maxRecDepth 100000 in
set_option maxHeartbeats 400000 in
theorem one_any (w : World) (base : Nat) (s : Value) (l : List UInt8) (v : Nat) (hv : U64 v) (hown : OwnB w base s l) (hb : base ≤ w.heap.size) (hl : l.length + 10 ≤ 140737488355328) :
  Calls Tryz.prog 80 #[s, .int .u64 (v : Int)] w (OnePost w base s l (enc v)) := by
 go_enter Tryz.func80, Tryz.ntmps80
 go_wp2_with fail
 go_loopw [0, 1] (fun x0 x1 wr => OneRel w base s l v x0 x1 wr) (fun _ x1 _ => (intOf x1).toNat)
 case atStart => exact ⟨9, v, [], rfl, by simpa using hown, rfl, lt_pow_of_lt hv.out, hv, World.grownBy.refl w _, Went.refl w s⟩
 case round =>
  obtain ⟨k, u, pre, rfl, hown', hpre, hu, hu64, hg, hwent⟩ := hrel
  have Hpre := Lib.hid hpre
  have Hu := Lib.hid hu
  clear hpre hu
  have hlen : (l ++ pre).length + 1 ≤ 140737488355328 := by
   have h1 := congrArg List.length Hpre.out
   have h2 := enc_len v
   have h3 := encF_len_pos k u
   rw [List.length_append] at h1 ⊢
   omega
  have hs := hg.size
  by_cases hlt : 128 ≤ u
  ·go_wp2_with (at_builtin; refine appN rfl rfl hown' (byte_or_bv u) rfl rfl rfl hlen (by omega) ?_; intro s1 w1 hown1 hg1 hat1)
   go_roundw
   case rel =>
    obtain ⟨k, rfl⟩ : ∃ k', k = k' + 1 := by
     cases k with
     | zero => have := Hu.out; simp at this; omega
     | succ k => exact ⟨k, rfl⟩
    refine ⟨k, u / 128, pre ++ [UInt8.ofNat (u % 128 + 128)], by go_num, by rw [← List.append_assoc]; exact hown1, ?_, div_lt_pow Hu.out, Nat.lt_of_le_of_lt (Nat.div_le_self _ _) hu64, grown_step hg hg1 hwent.row, hwent.step hs (Nat.le_succ _) hat1⟩
    rw [← Hpre.out]
    simp only [encF]
    rw [if_neg (by omega)]
    simp
   case measure => simp [intOf]; omega
  ·go_wp2_with (at_builtin; refine appN rfl rfl hown' (byte_bv' u (by omega)) rfl rfl rfl hlen (by omega) ?_; intro s1 w1 hown1 hg1 hat1)
   go_ret
   refine ⟨s1, rfl, ?_, grown_step hg hg1 hwent.row, hwent.step hs (Nat.le_succ _) hat1⟩
   rw [← Hpre.out]
   have e : encF k u = [UInt8.ofNat u] := by
    cases k with
    | zero => rfl
    | succ k => simp only [encF]; rw [if_pos (by omega)]
   rw [e, ← List.append_assoc]
   exact hown1
end Go.Proofs.YtaflikgdlkaefaaGreat
