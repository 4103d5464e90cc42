/- Vectors: the document's SameVec. -/
import Derived.Test.YtaflikgdlkaefaaM08
import Derived.Test.YtaflikgdlkaefaaM09
import Derived.Test.YtaflikgdlkaefaaM10
import Derived.Test.YtaflikgdlkaefaaM11
import Derived.Test.YtaflikgdlkaefaaM12
open List (getElem?_toArray getElem?_cons_succ getElem?_cons_zero)
namespace Go.Proofs.Ytaflikgdlkaefaa
open Go.RowKit Go.Proofs.Ytaflikgdlkaefaa.Pl Go.Proofs.Ytaflikgdlkaefaa.Sp Go.Proofs.Ytaflikgdlkaefaa.Ve
set_option maxRecDepth 20000

theorem take_eq_snoc {V V' : VL} {k : Nat} {p p' : Int × List Rg} (h : V.take k = V'.take k) (hp : V[k]? = some p) (hp' : V'[k]? = some p') (e : p = p') : V.take (k + 1) = V'.take (k + 1) := by
  rw [List.take_add_one, List.take_add_one, h, hp, hp', e]
set_option maxRecDepth 100000 in
set_option maxHeartbeats 6400000 in
theorem SameV_any (w : World) (A A' : Option Addr) (n n' c c' : Nat) (R R' : List RA) (V V' : VL) (hv : VS w A n c R V) (hv' : VS w A' n' c' R' V') (hl : n ≤ 1000000) (hm : Lim 1000000 V) (hm' : Lim 1000000 V') :
    Calls Try.prog 23 #[.agg #[.slice A n c], .agg #[.slice A' n' c']] w fun e w' => e = .returned (.bool (decide (V = V'))) ∧ Below w.heap.size w w' := by
  go_enter Try.func23, Try.ntmps23
  have hb0 : Below w.heap.size w (w.alloc (.cells #[.slice A n c] 27)) := balloc (Below.refl _ _) _
  have hb1 := balloc hb0 (.cells #[.slice A' n' c'] 27)
  have x0 : (w.alloc (.cells #[.slice A n c] 27)).cell? ⟨w.heap.size, 0, none⟩ = some (.slice A n c) := by simp
  have x1 := ((Below.refl _ (w.alloc (.cells #[.slice A n c] 27))).alloc (Nat.le_refl _) (.cells #[.slice A' n' c'] 27)).cell (p := ⟨w.heap.size, 0, none⟩) (by simp) |>.trans x0
  have x2 : ((w.alloc (.cells #[.slice A n c] 27)).alloc (.cells #[.slice A' n' c'] 27)).cell? ⟨w.heap.size + 1, 0, none⟩ = some (.slice A' n' c') := by
    have h : (w.alloc (.cells #[.slice A n c] 27)).heap.size = w.heap.size + 1 := by simp
    rw [← h]; simp
  have xs : w.heap.size + 1 < ((w.alloc (.cells #[.slice A n c] 27)).alloc (.cells #[.slice A' n' c'] 27)).heap.size := by simp
  by_cases hne : n = n'
  · subst hne
    have hd0 : ((n : Int) != (n : Int)) = false := by simp
    go_wp2_with fail
    generalize (w.alloc (.cells #[.slice A n c] 27)).alloc (.cells #[.slice A' n c'] 27) = W at *
    go_loopw [5] (fun x5 wr => ∃ (k : Nat), k ≤ n ∧ x5 = .int .i64 (k : Int) ∧ V.take k = V'.take k ∧ Below W.heap.size W wr) (fun x5 _ => n - (intOf x5).toNat)
    case atStart => exact ⟨0, by omega, rfl, by simp, Below.refl _ _⟩
    case round =>
      obtain ⟨k, hk, rfl, hT, hB⟩ := hrel
      have hbel := hb1.trans (hB.mono hb1.size)
      have y0 := (hB.cell (p := ⟨w.heap.size, 0, none⟩) (by dsimp only; omega)).trans x1
      have y1 := (hB.cell (p := ⟨w.heap.size + 1, 0, none⟩) xs).trans x2
      by_cases hlt : k < n
      · obtain ⟨q, b, o, _, hV, hq, rfl, hbW, c0, c1⟩ := hv.at_ hlt
        obtain ⟨q', b', o', _, hV', hq', rfl, hbW', c0', c1'⟩ := hv'.at_ hlt
        have hql : q.l.length ≤ 1000000 := hm _ (List.mem_of_getElem? hV)
        have hql' : q'.l.length ≤ 1000000 := hm' _ (List.mem_of_getElem? hV')
        replace c0 := (hbel.cell hbW).trans c0
        replace c1 := (hbel.cell hbW).trans c1
        replace c0' := (hbel.cell hbW').trans c0'
        replace c1' := (hbel.cell hbW').trans c1'
        have hd1 : decide ((k : Int) < (n : Int)) = true := by rw [decide_eq_true_eq]; omega
        have hn0 : (0 : Int) ≤ (k : Int) := by omega
        have hn1 : (k : Int) < (n : Int) := by omega
        have hst := Lib.hid (fun p => take_eq_snoc hT hV hV' p)
        have hnv : (q.r, q.l) ≠ (q'.r, q'.l) → decide (V = V') = false := fun h => by
          rw [decide_eq_false_iff_not]
          intro e
          rw [e, hV'] at hV
          exact h (Option.some.inj hV).symm
        have hsame := fun W2 (h : Below w.heap.size w W2) => SameR_any W2 q.A q'.A q.l.length q'.l.length q.c q'.c q.l q'.l (hq.1.below h) (hq'.1.below h) rfl rfl (by omega) (by omega) h.size h.size
        have HV := Lib.hid (And.intro hnv hsame)
        obtain ⟨r, A1, m1, l⟩ := q
        obtain ⟨r', A1', m1', l'⟩ := q'
        dsimp only at *
        clear hnv hsame hv hv' hm hm' hq hq' hV hV' hT x1 x2
        go_wp2_with fail
        have e0 := cellB y0
        have e1 := cellB y1
        have e2 := cellB c0
        have e3 := cellB c1
        have e4 := cellB c0'
        have e5 := cellB c1'
        by_cases g1 : r = r'
        · subst g1
          have d0 : ((r : Int) != (r : Int)) = false := by simp
          obtain ⟨p, hp⟩ : ∃ p, decide (l = l') = p := ⟨_, rfl⟩
          rw [hp] at HV
          have HP := Lib.hid hp
          clear hp
          refine bstartH (wr.heap) (by kernel_rfl) ?_
          refine btake 0 (oi := _) (v := ?_) (by simp only [List.getElem?_toArray, List.getElem?_cons_zero]; rfl) (by kernel_rfl) (by exact fun _ _ _ h => h) (by first | assumption | exact KB.refl _) (.inl ⟨by rfl, fun W hW => ?_⟩) ?_; rotate_left
          · (go_simp; first | done | with_reducible rfl)
          try simp only [Act.put, List.setIfInBounds_toArray, List.set_cons_zero, List.set_cons_succ]
          refine btake 1 (oi := _) (v := ?_) (by simp only [getElem?_toArray, getElem?_cons_succ, getElem?_cons_zero]; rfl) (by kernel_rfl) (by exact fun _ _ _ h => h) (by first | assumption | exact KB.refl _) (.inl ⟨by rfl, fun W hW => ?_⟩) ?_; rotate_left
          · (go_simp; first | done | with_reducible rfl)
          try simp only [Act.put, List.setIfInBounds_toArray, List.set_cons_zero, List.set_cons_succ]
          refine btake 2 (oi := _) (v := ?_) (by simp only [getElem?_toArray, getElem?_cons_succ, getElem?_cons_zero]; rfl) (by kernel_rfl) (by exact fun _ _ _ h => h) (by first | assumption | exact KB.refl _) (.inl ⟨by rfl, fun W hW => ?_⟩) ?_; rotate_left
          · (go_simp; first | done | with_reducible rfl)
          try simp only [Act.put, List.setIfInBounds_toArray, List.set_cons_zero, List.set_cons_succ]
          refine btake 3 (oi := _) (v := ?_) (by simp only [getElem?_toArray, getElem?_cons_succ, getElem?_cons_zero]; rfl) (by kernel_rfl) (by exact fun _ _ _ h => h) (by first | assumption | exact KB.refl _) (.inl ⟨by rfl, fun W hW => ?_⟩) ?_; rotate_left
          · (go_simp; first | done | with_reducible rfl)
          try simp only [Act.put, List.setIfInBounds_toArray, List.set_cons_zero, List.set_cons_succ]
          refine btake 4 (oi := _) (v := ?_) (by simp only [getElem?_toArray, getElem?_cons_succ, getElem?_cons_zero]; rfl) (by kernel_rfl) (by exact fun _ _ _ h => h) (by first | assumption | exact KB.refl _) (.inl ⟨by rfl, fun W hW => ?_⟩) ?_; rotate_left
          · (go_simp; first | done | with_reducible rfl)
          try simp only [Act.put, List.setIfInBounds_toArray, List.set_cons_zero, List.set_cons_succ]
          refine btake 5 (oi := _) (v := ?_) (by simp only [getElem?_toArray, getElem?_cons_succ, getElem?_cons_zero]; rfl) (by kernel_rfl) (by exact fun _ _ _ h => h) (by first | assumption | exact KB.refl _) (.inl ⟨by rfl, fun W hW => ?_⟩) ?_; rotate_left
          · (go_simp; first | done | with_reducible rfl)
          try simp only [Act.put, List.setIfInBounds_toArray, List.set_cons_zero, List.set_cons_succ]
          refine btake 6 (oi := _) (v := ?_) (by simp only [getElem?_toArray, getElem?_cons_succ, getElem?_cons_zero]; rfl) (by kernel_rfl) (by exact fun _ _ _ h => h) (by first | assumption | exact KB.refl _) (.inl ⟨by rfl, fun W hW => ?_⟩) ?_; rotate_left
          · (go_simp; first | done | with_reducible rfl)
          try simp only [Act.put, List.setIfInBounds_toArray, List.set_cons_zero, List.set_cons_succ]
          refine btake 7 (oi := _) (v := ?_) (by simp only [getElem?_toArray, getElem?_cons_succ, getElem?_cons_zero]; rfl) (by kernel_rfl) (by exact fun _ _ _ h => h) (by first | assumption | exact KB.refl _) (.inl ⟨by rfl, fun W hW => ?_⟩) ?_; rotate_left
          · (go_simp; first | done | with_reducible rfl)
          try simp only [Act.put, List.setIfInBounds_toArray, List.set_cons_zero, List.set_cons_succ]
          refine btake 8 (oi := _) (v := ?_) (by simp only [getElem?_toArray, getElem?_cons_succ, getElem?_cons_zero]; rfl) (by kernel_rfl) (by exact fun _ _ _ h => h) (by first | assumption | exact KB.refl _) (.inl ⟨by rfl, fun W hW => ?_⟩) ?_; rotate_left
          · (go_simp; first | done | with_reducible rfl)
          try simp only [Act.put, List.setIfInBounds_toArray, List.set_cons_zero, List.set_cons_succ]
          refine btake 9 (oi := _) (v := ?_) (by simp only [getElem?_toArray, getElem?_cons_succ, getElem?_cons_zero]; rfl) (by kernel_rfl) (by exact fun _ _ _ h => h) (by first | assumption | exact KB.refl _) (.inl ⟨by rfl, fun W hW => ?_⟩) ?_; rotate_left
          · (go_simp; first | done | with_reducible rfl)
          try simp only [Act.put, List.setIfInBounds_toArray, List.set_cons_zero, List.set_cons_succ]
          refine btake 10 (oi := _) (v := ?_) (by simp only [getElem?_toArray, getElem?_cons_succ, getElem?_cons_zero]; rfl) (by kernel_rfl) (by exact fun _ _ _ h => h) (by first | assumption | exact KB.refl _) (.inl ⟨by rfl, fun W hW => ?_⟩) ?_; rotate_left
          · (go_simp; first | done | with_reducible rfl)
          try simp only [Act.put, List.setIfInBounds_toArray, List.set_cons_zero, List.set_cons_succ]
          refine btake 11 (oi := _) (v := ?_) (by simp only [getElem?_toArray, getElem?_cons_succ, getElem?_cons_zero]; rfl) (by kernel_rfl) (by exact fun _ _ _ h => h) (by first | assumption | exact KB.refl _) (.inl ⟨by rfl, fun W hW => ?_⟩) ?_; rotate_left
          · (go_simp; first | done | with_reducible rfl)
          try simp only [Act.put, List.setIfInBounds_toArray, List.set_cons_zero, List.set_cons_succ]
          refine btake 12 (oi := _) (v := ?_) (by simp only [getElem?_toArray, getElem?_cons_succ, getElem?_cons_zero]; rfl) (by kernel_rfl) (by exact fun _ _ _ h => h) (by first | assumption | exact KB.refl _) (.inl ⟨by rfl, fun W hW => ?_⟩) ?_; rotate_left
          · (go_simp; first | done | with_reducible rfl)
          try simp only [Act.put, List.setIfInBounds_toArray, List.set_cons_zero, List.set_cons_succ]
          refine btake 13 (oi := _) (v := ?_) (by simp only [getElem?_toArray, getElem?_cons_succ, getElem?_cons_zero]; rfl) (by kernel_rfl) (by exact fun _ _ _ h => h) (by first | assumption | exact KB.refl _) (.inl ⟨by rfl, fun W hW => ?_⟩) ?_; rotate_left
          · (go_simp; first | done | with_reducible rfl)
          try simp only [Act.put, List.setIfInBounds_toArray, List.set_cons_zero, List.set_cons_succ]
          refine btake 14 (oi := _) (v := ?_) (by simp only [getElem?_toArray, getElem?_cons_succ, getElem?_cons_zero]; rfl) (by kernel_rfl) (by exact fun _ _ _ h => h) (by first | assumption | exact KB.refl _) (.inl ⟨by rfl, fun W hW => ?_⟩) ?_; rotate_left
          · (go_simp; first | done | with_reducible rfl)
          try simp only [Act.put, List.setIfInBounds_toArray, List.set_cons_zero, List.set_cons_succ]
          refine btake 15 (oi := _) (v := ?_) (by simp only [getElem?_toArray, getElem?_cons_succ, getElem?_cons_zero]; rfl) (by kernel_rfl) (by exact fun _ _ _ h => h) (by first | assumption | exact KB.refl _) (.inl ⟨by rfl, fun W hW => ?_⟩) ?_; rotate_left
          · (go_simp; first | done | with_reducible rfl)
          try simp only [Act.put, List.setIfInBounds_toArray, List.set_cons_zero, List.set_cons_succ]
          refine btake 16 (oi := _) (v := ?_) (by simp only [getElem?_toArray, getElem?_cons_succ, getElem?_cons_zero]; rfl) (by kernel_rfl) (by exact fun _ _ _ h => h) (by first | assumption | exact KB.refl _) (.inl ⟨by rfl, fun W hW => ?_⟩) ?_; rotate_left
          · (go_simp; first | done | with_reducible rfl)
          try simp only [Act.put, List.setIfInBounds_toArray, List.set_cons_zero, List.set_cons_succ]
          refine btake 17 (oi := _) (v := ?_) (by simp only [getElem?_toArray, getElem?_cons_succ, getElem?_cons_zero]; rfl) (by kernel_rfl) (by exact fun _ _ _ h => h) (by first | assumption | exact KB.refl _) (.inl ⟨by rfl, fun W hW => ?_⟩) ?_; rotate_left
          · (go_simp; first | done | with_reducible rfl)
          try simp only [Act.put, List.setIfInBounds_toArray, List.set_cons_zero, List.set_cons_succ]
          refine btake 18 (oi := _) (v := ?_) (by simp only [getElem?_toArray, getElem?_cons_succ, getElem?_cons_zero]; rfl) (by kernel_rfl) (by exact fun _ _ _ h => h) (by first | assumption | exact KB.refl _) (.inl ⟨by rfl, fun W hW => ?_⟩) ?_; rotate_left
          · (go_simp; first | done | with_reducible rfl)
          try simp only [Act.put, List.setIfInBounds_toArray, List.set_cons_zero, List.set_cons_succ]
          refine btake 19 (oi := _) (v := ?_) (by simp only [getElem?_toArray, getElem?_cons_succ, getElem?_cons_zero]; rfl) (by kernel_rfl) (by exact fun _ _ _ h => h) (by first | assumption | exact KB.refl _) (.inl ⟨by rfl, fun W hW => ?_⟩) ?_; rotate_left
          · (go_simp; first | done | with_reducible rfl)
          try simp only [Act.put, List.setIfInBounds_toArray, List.set_cons_zero, List.set_cons_succ]
          refine btake 20 (oi := _) (v := ?_) (by simp only [getElem?_toArray, getElem?_cons_succ, getElem?_cons_zero]; rfl) (by kernel_rfl) (by exact fun _ _ _ h => h) (by first | assumption | exact KB.refl _) (.inl ⟨by rfl, fun W hW => ?_⟩) ?_; rotate_left
          · (go_simp; first | done | with_reducible rfl)
          try simp only [Act.put, List.setIfInBounds_toArray, List.set_cons_zero, List.set_cons_succ]
          refine btake 21 (oi := _) (v := ?_) (by simp only [getElem?_toArray, getElem?_cons_succ, getElem?_cons_zero]; rfl) (by kernel_rfl) (by exact fun _ _ _ h => h) (by first | assumption | exact KB.refl _) (.inl ⟨by rfl, fun W hW => ?_⟩) ?_; rotate_left
          · (go_simp; first | done | with_reducible rfl)
          try simp only [Act.put, List.setIfInBounds_toArray, List.set_cons_zero, List.set_cons_succ]
          refine btake 22 (oi := _) (v := ?_) (by simp only [getElem?_toArray, getElem?_cons_succ, getElem?_cons_zero]; rfl) (by kernel_rfl) (by exact fun _ _ _ h => h) (by first | assumption | exact KB.refl _) (.inl ⟨by rfl, fun W hW => ?_⟩) ?_; rotate_left
          · (go_simp; first | done | with_reducible rfl)
          try simp only [Act.put, List.setIfInBounds_toArray, List.set_cons_zero, List.set_cons_succ]
          refine btake 23 (oi := _) (v := ?_) (by simp only [getElem?_toArray, getElem?_cons_succ, getElem?_cons_zero]; rfl) (by kernel_rfl) (by exact fun _ _ _ h => h) (by first | assumption | exact KB.refl _) (.inl ⟨by rfl, fun W hW => ?_⟩) ?_; rotate_left
          · (go_simp; first | done | with_reducible rfl)
          try simp only [Act.put, List.setIfInBounds_toArray, List.set_cons_zero, List.set_cons_succ]
          refine btake 24 (oi := _) (v := ?_) (by simp only [getElem?_toArray, getElem?_cons_succ, getElem?_cons_zero]; rfl) (by kernel_rfl) (by exact fun _ _ _ h => h) (by first | assumption | exact KB.refl _) (.inl ⟨by rfl, fun W hW => ?_⟩) ?_; rotate_left
          · (go_simp; first | done | with_reducible rfl)
          try simp only [Act.put, List.setIfInBounds_toArray, List.set_cons_zero, List.set_cons_succ]
          refine btake 25 (oi := _) (v := ?_) (by simp only [getElem?_toArray, getElem?_cons_succ, getElem?_cons_zero]; rfl) (by kernel_rfl) (by exact fun _ _ _ h => h) (by first | assumption | exact KB.refl _) (.inl ⟨by rfl, fun W hW => ?_⟩) ?_; rotate_left
          · (go_simp; first | done | with_reducible rfl)
          try simp only [Act.put, List.setIfInBounds_toArray, List.set_cons_zero, List.set_cons_succ]
          -- 26: newsreel/newsreelref1.SameSpan
          refine bopH 26 (o := _) (by simp only [getElem?_toArray, getElem?_cons_succ, getElem?_cons_zero]; rfl) (by kernel_rfl) (by first | assumption | exact KB.refl _) (by rfl) (fun K hK => ?_)
          go_simp
          refine (HV.out.2 _ hbel.drew).mono ?_
          rintro e w2 ⟨rfl, h2⟩
          have hkb : KB wr.heap w2 := KB.of ((Below.refl _ _).drew.trans h2)
          have HZ := Lib.hid (And.intro (hbel.drew.trans (h2.mono hbel.size)) (hB.drew.trans (h2.mono hB.size)))
          clear h2
          refine hK.out _ _ hkb ?_; clear hK K
          try simp only [Act.put, List.setIfInBounds_toArray, List.set_cons_zero, List.set_cons_succ]
          refine btake 27 (oi := _) (v := ?_) (by simp only [getElem?_toArray, getElem?_cons_succ, getElem?_cons_zero]; rfl) (by kernel_rfl) (by exact fun _ _ _ h => h) (by first | assumption | exact KB.refl _) (.inl ⟨by rfl, fun W hW => ?_⟩) ?_; rotate_left
          · (go_simp; first | done | with_reducible rfl)
          try simp only [Act.put, List.setIfInBounds_toArray, List.set_cons_zero, List.set_cons_succ]
          refine btake 28 (oi := _) (v := ?_) (by simp only [getElem?_toArray, getElem?_cons_succ, getElem?_cons_zero]; rfl) (by kernel_rfl) (by exact fun _ _ _ h => h) (by first | assumption | exact KB.refl _) (.inl ⟨by rfl, fun W hW => ?_⟩) ?_; rotate_left
          · (go_simp; first | done | with_reducible rfl)
          try simp only [Act.put, List.setIfInBounds_toArray, List.set_cons_zero, List.set_cons_succ]
          refine bdone (by kernel_rfl) ?_
          cases p with
          | false =>
            have HF := Lib.hid (show decide (V = V') = false from HV.out.1 fun e => by have := HP.out; rw [decide_eq_false_iff_not] at this; exact this (congrArg Prod.snd e))
            have hbz := HZ.out.1
            go_wp2_with fail
            go_ret
            exact ⟨ret_b HF.out.symm, hbz⟩
          | true =>
            have HT := Lib.hid (hst.out (by have := HP.out; rw [decide_eq_true_eq] at this; rw [this]))
            have hbz := HZ.out.2
            go_wp2_with fail
            go_roundw
            case rel => exact ⟨k + 1, by omega, by go_num, HT.out, hbz⟩
            case measure => simp [intOf]; omega
        · have d0 : ((r : Int) != (r' : Int)) = true := by simpa using g1
          have HF := Lib.hid (show decide (V = V') = false from HV.out.1 fun e => g1 (congrArg Prod.fst e))
          clear g1
          refine bstartH (wr.heap) (by kernel_rfl) ?_
          refine btake 0 (oi := _) (v := ?_) (by simp only [List.getElem?_toArray, List.getElem?_cons_zero]; rfl) (by kernel_rfl) (by exact fun _ _ _ h => h) (by first | assumption | exact KB.refl _) (.inl ⟨by rfl, fun W hW => ?_⟩) ?_; rotate_left
          · (go_simp; first | done | with_reducible rfl)
          try simp only [Act.put, List.setIfInBounds_toArray, List.set_cons_zero, List.set_cons_succ]
          refine btake 1 (oi := _) (v := ?_) (by simp only [getElem?_toArray, getElem?_cons_succ, getElem?_cons_zero]; rfl) (by kernel_rfl) (by exact fun _ _ _ h => h) (by first | assumption | exact KB.refl _) (.inl ⟨by rfl, fun W hW => ?_⟩) ?_; rotate_left
          · (go_simp; first | done | with_reducible rfl)
          try simp only [Act.put, List.setIfInBounds_toArray, List.set_cons_zero, List.set_cons_succ]
          refine btake 2 (oi := _) (v := ?_) (by simp only [getElem?_toArray, getElem?_cons_succ, getElem?_cons_zero]; rfl) (by kernel_rfl) (by exact fun _ _ _ h => h) (by first | assumption | exact KB.refl _) (.inl ⟨by rfl, fun W hW => ?_⟩) ?_; rotate_left
          · (go_simp; first | done | with_reducible rfl)
          try simp only [Act.put, List.setIfInBounds_toArray, List.set_cons_zero, List.set_cons_succ]
          refine btake 3 (oi := _) (v := ?_) (by simp only [getElem?_toArray, getElem?_cons_succ, getElem?_cons_zero]; rfl) (by kernel_rfl) (by exact fun _ _ _ h => h) (by first | assumption | exact KB.refl _) (.inl ⟨by rfl, fun W hW => ?_⟩) ?_; rotate_left
          · (go_simp; first | done | with_reducible rfl)
          try simp only [Act.put, List.setIfInBounds_toArray, List.set_cons_zero, List.set_cons_succ]
          refine btake 4 (oi := _) (v := ?_) (by simp only [getElem?_toArray, getElem?_cons_succ, getElem?_cons_zero]; rfl) (by kernel_rfl) (by exact fun _ _ _ h => h) (by first | assumption | exact KB.refl _) (.inl ⟨by rfl, fun W hW => ?_⟩) ?_; rotate_left
          · (go_simp; first | done | with_reducible rfl)
          try simp only [Act.put, List.setIfInBounds_toArray, List.set_cons_zero, List.set_cons_succ]
          refine btake 5 (oi := _) (v := ?_) (by simp only [getElem?_toArray, getElem?_cons_succ, getElem?_cons_zero]; rfl) (by kernel_rfl) (by exact fun _ _ _ h => h) (by first | assumption | exact KB.refl _) (.inl ⟨by rfl, fun W hW => ?_⟩) ?_; rotate_left
          · (go_simp; first | done | with_reducible rfl)
          try simp only [Act.put, List.setIfInBounds_toArray, List.set_cons_zero, List.set_cons_succ]
          refine btake 6 (oi := _) (v := ?_) (by simp only [getElem?_toArray, getElem?_cons_succ, getElem?_cons_zero]; rfl) (by kernel_rfl) (by exact fun _ _ _ h => h) (by first | assumption | exact KB.refl _) (.inl ⟨by rfl, fun W hW => ?_⟩) ?_; rotate_left
          · (go_simp; first | done | with_reducible rfl)
          try simp only [Act.put, List.setIfInBounds_toArray, List.set_cons_zero, List.set_cons_succ]
          refine btake 7 (oi := _) (v := ?_) (by simp only [getElem?_toArray, getElem?_cons_succ, getElem?_cons_zero]; rfl) (by kernel_rfl) (by exact fun _ _ _ h => h) (by first | assumption | exact KB.refl _) (.inl ⟨by rfl, fun W hW => ?_⟩) ?_; rotate_left
          · (go_simp; first | done | with_reducible rfl)
          try simp only [Act.put, List.setIfInBounds_toArray, List.set_cons_zero, List.set_cons_succ]
          refine btake 8 (oi := _) (v := ?_) (by simp only [getElem?_toArray, getElem?_cons_succ, getElem?_cons_zero]; rfl) (by kernel_rfl) (by exact fun _ _ _ h => h) (by first | assumption | exact KB.refl _) (.inl ⟨by rfl, fun W hW => ?_⟩) ?_; rotate_left
          · (go_simp; first | done | with_reducible rfl)
          try simp only [Act.put, List.setIfInBounds_toArray, List.set_cons_zero, List.set_cons_succ]
          refine btake 9 (oi := _) (v := ?_) (by simp only [getElem?_toArray, getElem?_cons_succ, getElem?_cons_zero]; rfl) (by kernel_rfl) (by exact fun _ _ _ h => h) (by first | assumption | exact KB.refl _) (.inl ⟨by rfl, fun W hW => ?_⟩) ?_; rotate_left
          · (go_simp; first | done | with_reducible rfl)
          try simp only [Act.put, List.setIfInBounds_toArray, List.set_cons_zero, List.set_cons_succ]
          refine btake 10 (oi := _) (v := ?_) (by simp only [getElem?_toArray, getElem?_cons_succ, getElem?_cons_zero]; rfl) (by kernel_rfl) (by exact fun _ _ _ h => h) (by first | assumption | exact KB.refl _) (.inl ⟨by rfl, fun W hW => ?_⟩) ?_; rotate_left
          · (go_simp; first | done | with_reducible rfl)
          try simp only [Act.put, List.setIfInBounds_toArray, List.set_cons_zero, List.set_cons_succ]
          refine btake 11 (oi := _) (v := ?_) (by simp only [getElem?_toArray, getElem?_cons_succ, getElem?_cons_zero]; rfl) (by kernel_rfl) (by exact fun _ _ _ h => h) (by first | assumption | exact KB.refl _) (.inl ⟨by rfl, fun W hW => ?_⟩) ?_; rotate_left
          · (go_simp; first | done | with_reducible rfl)
          try simp only [Act.put, List.setIfInBounds_toArray, List.set_cons_zero, List.set_cons_succ]
          refine btake 12 (oi := _) (v := ?_) (by simp only [getElem?_toArray, getElem?_cons_succ, getElem?_cons_zero]; rfl) (by kernel_rfl) (by exact fun _ _ _ h => h) (by first | assumption | exact KB.refl _) (.inl ⟨by rfl, fun W hW => ?_⟩) ?_; rotate_left
          · (go_simp; first | done | with_reducible rfl)
          try simp only [Act.put, List.setIfInBounds_toArray, List.set_cons_zero, List.set_cons_succ]
          refine btake 13 (oi := _) (v := ?_) (by simp only [getElem?_toArray, getElem?_cons_succ, getElem?_cons_zero]; rfl) (by kernel_rfl) (by exact fun _ _ _ h => h) (by first | assumption | exact KB.refl _) (.inl ⟨by rfl, fun W hW => ?_⟩) ?_; rotate_left
          · (go_simp; first | done | with_reducible rfl)
          try simp only [Act.put, List.setIfInBounds_toArray, List.set_cons_zero, List.set_cons_succ]
          refine btake 14 (oi := _) (v := undef) (by simp only [getElem?_toArray, getElem?_cons_succ, getElem?_cons_zero]; rfl) (by kernel_rfl) (by exact fun _ _ _ h => h) (by first | assumption | exact KB.refl _) (.inr ⟨by rfl, rfl⟩) ?_
          try simp only [Act.put, List.setIfInBounds_toArray, List.set_cons_zero, List.set_cons_succ]
          refine btake 15 (oi := _) (v := undef) (by simp only [getElem?_toArray, getElem?_cons_succ, getElem?_cons_zero]; rfl) (by kernel_rfl) (by exact fun _ _ _ h => h) (by first | assumption | exact KB.refl _) (.inr ⟨by rfl, rfl⟩) ?_
          try simp only [Act.put, List.setIfInBounds_toArray, List.set_cons_zero, List.set_cons_succ]
          refine btake 16 (oi := _) (v := undef) (by simp only [getElem?_toArray, getElem?_cons_succ, getElem?_cons_zero]; rfl) (by kernel_rfl) (by exact fun _ _ _ h => h) (by first | assumption | exact KB.refl _) (.inr ⟨by rfl, rfl⟩) ?_
          try simp only [Act.put, List.setIfInBounds_toArray, List.set_cons_zero, List.set_cons_succ]
          refine btake 17 (oi := _) (v := undef) (by simp only [getElem?_toArray, getElem?_cons_succ, getElem?_cons_zero]; rfl) (by kernel_rfl) (by exact fun _ _ _ h => h) (by first | assumption | exact KB.refl _) (.inr ⟨by rfl, rfl⟩) ?_
          try simp only [Act.put, List.setIfInBounds_toArray, List.set_cons_zero, List.set_cons_succ]
          refine btake 18 (oi := _) (v := undef) (by simp only [getElem?_toArray, getElem?_cons_succ, getElem?_cons_zero]; rfl) (by kernel_rfl) (by exact fun _ _ _ h => h) (by first | assumption | exact KB.refl _) (.inr ⟨by rfl, rfl⟩) ?_
          try simp only [Act.put, List.setIfInBounds_toArray, List.set_cons_zero, List.set_cons_succ]
          refine btake 19 (oi := _) (v := undef) (by simp only [getElem?_toArray, getElem?_cons_succ, getElem?_cons_zero]; rfl) (by kernel_rfl) (by exact fun _ _ _ h => h) (by first | assumption | exact KB.refl _) (.inr ⟨by rfl, rfl⟩) ?_
          try simp only [Act.put, List.setIfInBounds_toArray, List.set_cons_zero, List.set_cons_succ]
          refine btake 20 (oi := _) (v := undef) (by simp only [getElem?_toArray, getElem?_cons_succ, getElem?_cons_zero]; rfl) (by kernel_rfl) (by exact fun _ _ _ h => h) (by first | assumption | exact KB.refl _) (.inr ⟨by rfl, rfl⟩) ?_
          try simp only [Act.put, List.setIfInBounds_toArray, List.set_cons_zero, List.set_cons_succ]
          refine btake 21 (oi := _) (v := undef) (by simp only [getElem?_toArray, getElem?_cons_succ, getElem?_cons_zero]; rfl) (by kernel_rfl) (by exact fun _ _ _ h => h) (by first | assumption | exact KB.refl _) (.inr ⟨by rfl, rfl⟩) ?_
          try simp only [Act.put, List.setIfInBounds_toArray, List.set_cons_zero, List.set_cons_succ]
          refine btake 22 (oi := _) (v := undef) (by simp only [getElem?_toArray, getElem?_cons_succ, getElem?_cons_zero]; rfl) (by kernel_rfl) (by exact fun _ _ _ h => h) (by first | assumption | exact KB.refl _) (.inr ⟨by rfl, rfl⟩) ?_
          try simp only [Act.put, List.setIfInBounds_toArray, List.set_cons_zero, List.set_cons_succ]
          refine btake 23 (oi := _) (v := undef) (by simp only [getElem?_toArray, getElem?_cons_succ, getElem?_cons_zero]; rfl) (by kernel_rfl) (by exact fun _ _ _ h => h) (by first | assumption | exact KB.refl _) (.inr ⟨by rfl, rfl⟩) ?_
          try simp only [Act.put, List.setIfInBounds_toArray, List.set_cons_zero, List.set_cons_succ]
          refine btake 24 (oi := _) (v := undef) (by simp only [getElem?_toArray, getElem?_cons_succ, getElem?_cons_zero]; rfl) (by kernel_rfl) (by exact fun _ _ _ h => h) (by first | assumption | exact KB.refl _) (.inr ⟨by rfl, rfl⟩) ?_
          try simp only [Act.put, List.setIfInBounds_toArray, List.set_cons_zero, List.set_cons_succ]
          refine btake 25 (oi := _) (v := undef) (by simp only [getElem?_toArray, getElem?_cons_succ, getElem?_cons_zero]; rfl) (by kernel_rfl) (by exact fun _ _ _ h => h) (by first | assumption | exact KB.refl _) (.inr ⟨by rfl, rfl⟩) ?_
          try simp only [Act.put, List.setIfInBounds_toArray, List.set_cons_zero, List.set_cons_succ]
          refine btake 26 (oi := _) (v := undef) (by simp only [getElem?_toArray, getElem?_cons_succ, getElem?_cons_zero]; rfl) (by kernel_rfl) (by exact fun _ _ _ h => h) (by first | assumption | exact KB.refl _) (.inr ⟨by rfl, rfl⟩) ?_
          try simp only [Act.put, List.setIfInBounds_toArray, List.set_cons_zero, List.set_cons_succ]
          refine btake 27 (oi := _) (v := undef) (by simp only [getElem?_toArray, getElem?_cons_succ, getElem?_cons_zero]; rfl) (by kernel_rfl) (by exact fun _ _ _ h => h) (by first | assumption | exact KB.refl _) (.inr ⟨by rfl, rfl⟩) ?_
          try simp only [Act.put, List.setIfInBounds_toArray, List.set_cons_zero, List.set_cons_succ]
          refine btake 28 (oi := _) (v := ?_) (by simp only [getElem?_toArray, getElem?_cons_succ, getElem?_cons_zero]; rfl) (by kernel_rfl) (by exact fun _ _ _ h => h) (by first | assumption | exact KB.refl _) (.inl ⟨by rfl, fun W hW => ?_⟩) ?_; rotate_left
          · (go_simp; first | done | with_reducible rfl)
          try simp only [Act.put, List.setIfInBounds_toArray, List.set_cons_zero, List.set_cons_succ]
          refine bdone (by kernel_rfl) ?_
          have hbz := hbel.drew
          go_wp2_with fail
          go_ret
          exact ⟨ret_b HF.out.symm, hbz⟩
      · obtain rfl : k = n := by omega
        have hd1 : decide ((k : Int) < (k : Int)) = false := by rw [decide_eq_false_iff_not]; omega
        have hF : decide (V = V') = true := by
          rw [decide_eq_true_eq]
          rw [List.take_of_length_le (by rw [hv.len]; omega), List.take_of_length_le (by rw [hv'.len]; omega)] at hT
          exact hT
        have HF := Lib.hid hF
        clear hT hv hv' hm hm' hF
        go_wp2_with fail
        go_ret
        exact ⟨ret_b HF.out.symm, hbel⟩
  · have hd0 : ((n : Int) != (n' : Int)) = true := by simp; omega
    have HF := Lib.hid (show decide (V = V') = false by
      rw [decide_eq_false_iff_not]
      intro e
      exact hne (by rw [← hv.len, ← hv'.len, e]))
    clear hv hv' hm hm' hne
    go_wp2_with fail
    go_ret
    exact ⟨ret_b HF.out.symm, hb1⟩
end Go.Proofs.Ytaflikgdlkaefaa
/- Vectors: vector.Same. -/
namespace Go.Proofs.Ytaflikgdlkaefaa
open Go.RowKit Go.Maps Go.Proofs.Ytaflikgdlkaefaa.Pl Go.Proofs.Ytaflikgdlkaefaa.Sp Go.Proofs.Ytaflikgdlkaefaa.Ve
set_option maxRecDepth 20000

set_option maxRecDepth 100000 in
theorem REq_any (w : World) {B B' : Nat} (A A' : Option Addr) (n n' c c' : Nat) (l m : List Rg) (hl : Sl w B A (rv l)) (hm : Sl w B' A' (rv m)) (h0 : n = l.length) (h1 : n' = m.length) (hn : n ≤ 1000000000) (hn' : n' ≤ 1000000000) (_ : B ≤ w.heap.size) (_ : B' ≤ w.heap.size) :
    Calls Try.prog 37 #[.slice A n c, .slice A' n' c'] w fun e w' => e = .returned (.bool (decide (l = m))) ∧ Below w.heap.size w w' := by
  by_cases hne : n = n'
  · subst hne
    have HN := Lib.hid (And.intro h0 h1)
    clear h0 h1
    go_enter Try.func37, Try.ntmps37
    go_wp2_with fail
    go_loopw [13] (fun x5 wr => ∃ k : Nat, k ≤ n ∧ x5 = .int .i64 (k : Int) ∧ l.take k = m.take k ∧ Below w.heap.size w wr) (fun x5 _ => n - (intOf x5).toNat)
    case atStart => exact ⟨0, by omega, rfl, rfl, Below.refl _ _⟩
    case round =>
      obtain ⟨k, hk, rfl, htk, hbel⟩ := hrel
      by_cases hlt : k < n
      · have hkl : k < l.length := by have := HN.out.1; omega
        have hkm : k < m.length := by have := HN.out.2; omega
        obtain ⟨b, o, rfl, hb1, hb2, c0, c1⟩ := rgAt hl hkl
        obtain ⟨b', o', rfl, hb3, hb4, d0, d1⟩ := rgAt hm hkm
        have HE := Lib.hid (And.intro (fun h : l[k]?.getD ⟨0, 0⟩ = m[k]?.getD ⟨0, 0⟩ => show l.take (k + 1) = m.take (k + 1) by
          rw [List.getElem?_eq_getElem hkl, List.getElem?_eq_getElem hkm, Option.getD_some, Option.getD_some] at h
          rw [List.take_succ_eq_append_getElem hkl, List.take_succ_eq_append_getElem hkm, htk, h]) (fun (h : ¬ l[k]?.getD ⟨0, 0⟩ = m[k]?.getD ⟨0, 0⟩) (e : l = m) => h (by rw [e])))
        generalize l[k]?.getD ⟨0, 0⟩ = x at *
        generalize m[k]?.getD ⟨0, 0⟩ = y at *
        have hd1 : decide ((k : Int) < (n : Int)) = true := by rw [decide_eq_true_eq]; omega
        obtain ⟨q, hq⟩ : ∃ q, decide (x = y) = q := ⟨_, rfl⟩
        have heq := fun W => ne2R W x y
        rw [hq] at heq
        unfold Rg.v at heq
        have HT := Lib.hid htk
        replace c0 := (hbel.cell hb2).trans c0
        replace c1 := (hbel.cell hb2).trans c1
        replace d0 := (hbel.cell hb4).trans d0
        replace d1 := (hbel.cell hb4).trans d1
        clear htk hl hm hkl hkm
        go_wp2_with fail
        have hb0 : (0 : Int) ≤ (k : Int) := by omega
        have hb1 : (k : Int) < (n : Int) := by omega
        have q0 := cellB c0
        have q1 := cellB c1
        have q2 := cellB d0
        have q3 := cellB d1
        refine bstart (by kernel_rfl) ?_
        refine btake 0 (oi := _) (v := ?_) (by simp only [List.getElem?_toArray, List.getElem?_cons_zero]; rfl) (by kernel_rfl) (by exact fun _ _ _ h => h) (by first | assumption | exact KB.refl _) (.inl ⟨by rfl, fun W hW => ?_⟩) ?_; rotate_left
        · (go_simp; first | done | with_reducible rfl)
        try simp only [Act.put, List.setIfInBounds_toArray, List.set_cons_zero, List.set_cons_succ]
        refine btake 1 (oi := _) (v := ?_) (by simp only [getElem?_toArray, getElem?_cons_succ, getElem?_cons_zero]; rfl) (by kernel_rfl) (by exact fun _ _ _ h => h) (by first | assumption | exact KB.refl _) (.inl ⟨by rfl, fun W hW => ?_⟩) ?_; rotate_left
        · (go_simp; first | done | with_reducible rfl)
        try simp only [Act.put, List.setIfInBounds_toArray, List.set_cons_zero, List.set_cons_succ]
        refine btake 2 (oi := _) (v := ?_) (by simp only [getElem?_toArray, getElem?_cons_succ, getElem?_cons_zero]; rfl) (by kernel_rfl) (by exact fun _ _ _ h => h) (by first | assumption | exact KB.refl _) (.inl ⟨by rfl, fun W hW => ?_⟩) ?_; rotate_left
        · (go_simp; first | done | with_reducible rfl)
        try simp only [Act.put, List.setIfInBounds_toArray, List.set_cons_zero, List.set_cons_succ]
        refine btake 3 (oi := _) (v := ?_) (by simp only [getElem?_toArray, getElem?_cons_succ, getElem?_cons_zero]; rfl) (by kernel_rfl) (by exact fun _ _ _ h => h) (by first | assumption | exact KB.refl _) (.inl ⟨by rfl, fun W hW => ?_⟩) ?_; rotate_left
        · (go_simp; first | done | with_reducible rfl)
        try simp only [Act.put, List.setIfInBounds_toArray, List.set_cons_zero, List.set_cons_succ]
        refine btake 4 (oi := _) (v := ?_) (by simp only [getElem?_toArray, getElem?_cons_succ, getElem?_cons_zero]; rfl) (by kernel_rfl) (by exact fun _ _ _ h => h) (by first | assumption | exact KB.refl _) (.inl ⟨by rfl, fun W hW => ?_⟩) ?_; rotate_left
        · (go_simp; first | done | with_reducible rfl)
        try simp only [Act.put, List.setIfInBounds_toArray, List.set_cons_zero, List.set_cons_succ]
        refine btake 5 (oi := _) (v := ?_) (by simp only [getElem?_toArray, getElem?_cons_succ, getElem?_cons_zero]; rfl) (by kernel_rfl) (by exact fun _ _ _ h => h) (by first | assumption | exact KB.refl _) (.inl ⟨by rfl, fun W hW => ?_⟩) ?_; rotate_left
        · (go_simp; first | done | with_reducible rfl)
        try simp only [Act.put, List.setIfInBounds_toArray, List.set_cons_zero, List.set_cons_succ]
        refine btake 6 (oi := _) (v := ?_) (by simp only [getElem?_toArray, getElem?_cons_succ, getElem?_cons_zero]; rfl) (by kernel_rfl) (by exact fun _ _ _ h => h) (by first | assumption | exact KB.refl _) (.inl ⟨by rfl, fun W hW => ?_⟩) ?_; rotate_left
        · (go_simp; first | done | with_reducible rfl)
        try simp only [Act.put, List.setIfInBounds_toArray, List.set_cons_zero, List.set_cons_succ]
        refine btake 7 (oi := _) (v := ?_) (by simp only [getElem?_toArray, getElem?_cons_succ, getElem?_cons_zero]; rfl) (by kernel_rfl) (by exact fun _ _ _ h => h) (by first | assumption | exact KB.refl _) (.inl ⟨by rfl, fun W hW => ?_⟩) ?_; rotate_left
        · (go_simp; first | done | with_reducible rfl)
        try simp only [Act.put, List.setIfInBounds_toArray, List.set_cons_zero, List.set_cons_succ]
        refine btake 8 (oi := _) (v := ?_) (by simp only [getElem?_toArray, getElem?_cons_succ, getElem?_cons_zero]; rfl) (by kernel_rfl) (by exact fun _ _ _ h => h) (by first | assumption | exact KB.refl _) (.inl ⟨by rfl, fun W hW => ?_⟩) ?_; rotate_left
        · (go_simp; first | done | with_reducible rfl)
        try simp only [Act.put, List.setIfInBounds_toArray, List.set_cons_zero, List.set_cons_succ]
        refine bdone (by kernel_rfl) ?_
        have hbd := hbel.drew
        clear q0 q1 q2 q3 c0 c1 d0 d1 heq hbel
        by_cases hxy : x = y
        · obtain rfl : q = true := by rw [← hq, decide_eq_true_eq]; exact hxy
          clear hq
          go_wp2_with fail
          go_roundw
          case rel => exact ⟨k + 1, hlt, by go_num, HE.out.1 hxy, hbd⟩
          case measure => simp [intOf]; omega
        · obtain rfl : q = false := by rw [← hq, decide_eq_false_iff_not]; exact hxy
          clear hq
          go_wp2_with fail
          go_ret
          exact ⟨ret_b (by rw [eq_comm, decide_eq_false_iff_not]; exact HE.out.2 hxy), hbd⟩
      · obtain rfl : k = n := by omega
        have HD := Lib.hid (show l = m by rw [← List.take_length (l := l), ← HN.out.1, htk, HN.out.2, List.take_length])
        have hd1 : decide ((k : Int) < (k : Int)) = false := by rw [decide_eq_false_iff_not]; omega
        clear htk
        go_wp2_with fail
        go_ret
        exact ⟨ret_b (by rw [eq_comm, decide_eq_true_eq]; exact HD.out), hbel⟩
  · go_enter Try.func37, Try.ntmps37
    go_wp2_with fail
    go_ret
    exact ⟨ret_b (by rw [eq_comm, decide_eq_false_iff_not]; rintro rfl; exact hne (by omega)), Below.refl _ _⟩
set_option maxRecDepth 100000 in
set_option maxHeartbeats 3200000 in
theorem sameC_any (w : World) (r r' : Int) (A A' : Option Addr) (n n' c c' : Nat) (l l' : List Rg) (hq : RSt w ⟨r, A, c, l⟩) (hq' : RSt w ⟨r', A', c', l'⟩) (h0 : n = l.length) (h1 : n' = l'.length) (hl : n ≤ 1000000) (hl' : n' ≤ 1000000) :
    Calls Try.prog 36 #[.agg #[.int .i64 r, .slice A n c], .agg #[.int .i64 r', .slice A' n' c']] w fun e w' => e = .returned (.bool (decide ((r, l) = (r', l')))) ∧ Below w.heap.size w w' := by
  have hb0 : Below w.heap.size w ((w.alloc (.cells #[.int .i64 r, .slice A n c] 61)).alloc (.cells #[.int .i64 r', .slice A' n' c'] 61)) := balloc (balloc (Below.refl _ _) _) _
  have a0 : At ((w.alloc (.cells #[.int .i64 r, .slice A n c] 61)).alloc (.cells #[.int .i64 r', .slice A' n' c'] 61)) w.heap.size [.int .i64 r, .slice A n c] := (At.new w 61 #[.int .i64 r, .slice A n c]).alloc _
  have a1 : At ((w.alloc (.cells #[.int .i64 r, .slice A n c] 61)).alloc (.cells #[.int .i64 r', .slice A' n' c'] 61)) (w.heap.size + 1) [.int .i64 r', .slice A' n' c'] := by
    have := At.new (w.alloc (.cells #[.int .i64 r, .slice A n c] 61)) 61 #[.int .i64 r', .slice A' n' c']
    rw [World.size_alloc] at this
    exact this
  have y0 := a0.c 0 rfl
  have y1 := a0.c 1 rfl
  have y2 := a1.c 0 rfl
  have y3 := a1.c 1 rfl
  have HE := Lib.hid (fun W (h : Below w.heap.size w W) => REq_any W A A' n n' c c' l l' (hq.1.below h) (hq'.1.below h) h0 h1 (by omega) (by omega) h.size h.size)
  have hP : decide ((r, l) = (r', l')) = (decide (r = r') && decide (l = l')) := by
    rw [Bool.eq_iff_iff]
    simp
  obtain ⟨P, hPP⟩ : ∃ P, decide ((r, l) = (r', l')) = P := ⟨_, rfl⟩
  rw [hPP] at hP ⊢
  obtain ⟨Q, hQQ⟩ : ∃ Q, decide (l = l') = Q := ⟨_, rfl⟩
  rw [hQQ] at hP HE
  clear hq hq' hl hl' a0 a1 h0 h1 hPP hQQ
  go_enter Try.func36, Try.ntmps36
  by_cases g : r = r'
  · have d0 : ((r : Int) == (r' : Int)) = true := by simpa using g
    have HF := Lib.hid (show P = Q by rw [hP, decide_eq_true g, Bool.true_and])
    clear g hP
    go_wp2_with fail
    refine (HE.out _ hb0).mono ?_
    rintro e w2 ⟨rfl, h2⟩
    have hbz := hb0.trans (h2.mono hb0.size)
    go_wp2_with fail
    go_ret
    exact ⟨ret_b HF.out.symm, hbz⟩
  · have d0 : ((r : Int) == (r' : Int)) = false := by simpa using g
    have HF := Lib.hid (show P = false by rw [hP, decide_eq_false g, Bool.false_and])
    clear g hP
    go_wp2_with fail
    go_ret
    exact ⟨ret_b HF.out.symm, hb0⟩
set_option maxRecDepth 100000 in
set_option maxHeartbeats 6400000 in
theorem EqF_any (w : World) (A A' : Option Addr) (n n' c c' : Nat) (R R' : List RA) (V V' : VL) (hv : VS w A n c R V) (hv' : VS w A' n' c' R' V') (hl : n ≤ 1000000) (hm : Lim 1000000 V) (hm' : Lim 1000000 V') :
    Calls Try.prog 35 #[.slice A n c, .slice A' n' c', .func (.func 36) #[] #[]] w fun e w' => e = .returned (.bool (decide (V = V'))) ∧ Below w.heap.size w w' := by
  go_enter Try.func35, Try.ntmps35
  by_cases hne : n = n'
  · subst hne
    have hd0 : ((n : Int) != (n : Int)) = false := by simp
    go_wp2_with fail
    go_loopw [17] (fun x17 wr => ∃ (k : Nat), k ≤ n ∧ x17 = .int .i64 (k : Int) ∧ V.take k = V'.take k ∧ Below w.heap.size w wr) (fun x17 _ => n - (intOf x17).toNat)
    case atStart => exact ⟨0, by omega, rfl, by simp, Below.refl _ _⟩
    case round =>
      obtain ⟨k, hk, rfl, hT, hbel⟩ := hrel
      by_cases hlt : k < n
      · obtain ⟨q, b, o, _, hV, hq, rfl, hbW, c0, c1⟩ := hv.at_ hlt
        obtain ⟨q', b', o', _, hV', hq', rfl, hbW', c0', c1'⟩ := hv'.at_ hlt
        have hql : q.l.length ≤ 1000000 := hm _ (List.mem_of_getElem? hV)
        have hql' : q'.l.length ≤ 1000000 := hm' _ (List.mem_of_getElem? hV')
        replace c0 := (hbel.cell hbW).trans c0
        replace c1 := (hbel.cell hbW).trans c1
        replace c0' := (hbel.cell hbW').trans c0'
        replace c1' := (hbel.cell hbW').trans c1'
        have hd1 : decide ((k : Int) < (n : Int)) = true := by rw [decide_eq_true_eq]; omega
        have hn0 : (0 : Int) ≤ (k : Int) := by omega
        have hn1 : (k : Int) < (n : Int) := by omega
        have hst := Lib.hid (fun p => take_eq_snoc hT hV hV' p)
        have hnv : (q.r, q.l) ≠ (q'.r, q'.l) → decide (V = V') = false := fun h => by
          rw [decide_eq_false_iff_not]
          intro e
          rw [e, hV'] at hV
          exact h (Option.some.inj hV).symm
        have hsame := fun W2 (h : Below w.heap.size w W2) => sameC_any W2 q.r q'.r q.A q'.A q.l.length q'.l.length q.c q'.c q.l q'.l (hq.below h) (hq'.below h) rfl rfl (by omega) (by omega)
        obtain ⟨p, hp⟩ : ∃ p, decide ((q.r, q.l) = (q'.r, q'.l)) = p := ⟨_, rfl⟩
        rw [hp] at hsame
        have HV := Lib.hid (And.intro hnv hsame)
        have HP := Lib.hid hp
        obtain ⟨r, A1, m1, l⟩ := q
        obtain ⟨r', A1', m1', l'⟩ := q'
        dsimp only at *
        obtain ⟨ln, hln⟩ : ∃ n, l.length = n := ⟨_, rfl⟩
        obtain ⟨ln', hln'⟩ : ∃ n, l'.length = n := ⟨_, rfl⟩
        rw [hln] at c1 HV
        rw [hln'] at c1' HV
        clear hnv hsame hv hv' hm hm' hq hq' hV hV' hT hp hql hql' hln hln'
        have hbx := (hbel.alloc hbel.size (.cells #[.int .i64 r, .slice A1 ln m1] 61))
        have hbx2 := (hbx.alloc hbx.size (.cells #[.int .i64 r', .slice A1' ln' m1'] 61))
        have hbk := balloc (Below.refl wr.heap.size wr) (.cells #[.int .i64 r, .slice A1 ln m1] 61)
        have hbW2 : b' < wr.heap.size := Nat.lt_of_lt_of_le hbW' hbel.size
        have d0' := (hbk.cell (p := ⟨b', o' + k * 2, none⟩) hbW2).trans c0'
        have d1' := (hbk.cell (p := ⟨b', o' + k * 2 + 1, none⟩) hbW2).trans c1'
        have z0 := ((At.new wr 61 #[.int .i64 r, .slice A1 ln m1]).alloc (.cells #[.int .i64 r', .slice A1' ln' m1'] 61)).c 0 rfl
        have z1 := ((At.new wr 61 #[.int .i64 r, .slice A1 ln m1]).alloc (.cells #[.int .i64 r', .slice A1' ln' m1'] 61)).c 1 rfl
        go_wp2_with fail
        refine (HV.out.2 _ hbx2).mono ?_
        rintro e w2 ⟨rfl, h2⟩
        have hbz := hbx2.trans (h2.mono hbx2.size)
        clear h2 hbx hbx2 hbk c0 c1 c0' c1' d0' d1' z0 z1 hbel
        cases p with
        | false =>
          have HF := Lib.hid (show decide (V = V') = false from HV.out.1 fun e => by have := HP.out; rw [decide_eq_false_iff_not] at this; exact this e)
          go_wp2_with fail
          go_ret
          exact ⟨ret_b HF.out.symm, hbz⟩
        | true =>
          have HT := Lib.hid (hst.out (by have := HP.out; rw [decide_eq_true_eq] at this; exact this))
          go_wp2_with fail
          go_roundw
          case rel => exact ⟨k + 1, by omega, by go_num, HT.out, hbz⟩
          case measure => simp [intOf]; omega
      · obtain rfl : k = n := by omega
        have hd1 : decide ((k : Int) < (k : Int)) = false := by rw [decide_eq_false_iff_not]; omega
        have hF : decide (V = V') = true := by
          rw [decide_eq_true_eq]
          rw [List.take_of_length_le (by rw [hv.len]; omega), List.take_of_length_le (by rw [hv'.len]; omega)] at hT
          exact hT
        have HF := Lib.hid hF
        clear hT hv hv' hm hm' hF
        go_wp2_with fail
        go_ret
        exact ⟨ret_b HF.out.symm, hbel⟩
  · have hd0 : ((n : Int) != (n' : Int)) = true := by simp; omega
    have HF := Lib.hid (show decide (V = V') = false by
      rw [decide_eq_false_iff_not]
      intro e
      exact hne (by rw [← hv.len, ← hv'.len, e]))
    clear hv hv' hm hm' hne
    go_wp2_with fail
    go_ret
    exact ⟨ret_b HF.out.symm, Below.refl _ _⟩
def sameV (V V' : VL) : Bool := rightV V && rightV V' && decide (V = V')
set_option maxRecDepth 100000 in
set_option maxHeartbeats 6400000 in
theorem Same_any (w : World) (A A' : Option Addr) (n n' c c' : Nat) (R R' : List RA) (V V' : VL) (hv : VS w A n c R V) (hv' : VS w A' n' c' R' V') (hl : n ≤ 1000000) (hl' : n' ≤ 1000000) (hm : Lim 1000000 V) (hm' : Lim 1000000 V') :
    Calls Try.prog 14 #[.agg #[.slice A n c], .agg #[.slice A' n' c']] w fun e w' => e = .returned (.bool (sameV V V')) ∧ Below w.heap.size w w' := by
  have hb0 : Below w.heap.size w ((w.alloc (.cells #[.slice A n c] 27)).alloc (.cells #[.slice A' n' c'] 27)) := balloc (balloc (Below.refl _ _) _) _
  have a0 : At ((w.alloc (.cells #[.slice A n c] 27)).alloc (.cells #[.slice A' n' c'] 27)) w.heap.size [.slice A n c] := (At.new w 27 #[.slice A n c]).alloc _
  have a1 : At ((w.alloc (.cells #[.slice A n c] 27)).alloc (.cells #[.slice A' n' c'] 27)) (w.heap.size + 1) [.slice A' n' c'] := by
    have := At.new (w.alloc (.cells #[.slice A n c] 27)) 27 #[.slice A' n' c']
    rw [World.size_alloc] at this
    exact this
  obtain ⟨p, hp⟩ : ∃ p, rightV V = p := ⟨_, rfl⟩
  obtain ⟨q, hq⟩ : ∃ q, rightV V' = q := ⟨_, rfl⟩
  have HR := Lib.hid (fun W (hW : Below w.heap.size w W) => VRight_any W A n c R V (hv.below hW) hl hm)
  have HR' := Lib.hid (fun W (hW : Below w.heap.size w W) => VRight_any W A' n' c' R' V' (hv'.below hW) hl' hm')
  have HE := Lib.hid (fun W (hW : Below w.heap.size w W) => EqF_any W A A' n n' c c' R R' V V' (hv.below hW) (hv'.below hW) hl hm hm')
  have hS : sameV V V' = (p && q && decide (V = V')) := by rw [sameV, hp, hq]
  rw [hp] at HR
  rw [hq] at HR'
  obtain ⟨S, hSS⟩ : ∃ S, sameV V V' = S := ⟨_, rfl⟩
  obtain ⟨D, hDD⟩ : ∃ D, decide (V = V') = D := ⟨_, rfl⟩
  rw [hSS] at hS ⊢
  rw [hDD] at hS HE
  clear hv hv' hl hl' hm hm' hp hq hSS hDD
  go_enter Try.func14, Try.ntmps14
  go_wp2_with fail
  generalize (w.alloc (.cells #[.slice A n c] 27)).alloc (.cells #[.slice A' n' c'] 27) = W at *
  refine (HR.out _ hb0).mono ?_
  rintro e w1 ⟨rfl, h1⟩
  have b0 := a0.below h1
  have b1 := a1.below h1
  have hbz := hb0.trans (h1.mono hb0.size)
  clear h1 a0 a1
  cases p with
  | false =>
    have HF := Lib.hid (show S = false by rw [hS]; rfl)
    clear hS
    go_wp2_with fail
    go_ret
    exact ⟨ret_b HF.out.symm, hbz⟩
  | true =>
    have y1 := b1.c 0 rfl
    go_wp2_with fail
    refine (HR'.out _ hbz).mono ?_
    rintro e w2 ⟨rfl, h2⟩
    have d0 := b0.below h2
    have d1 := b1.below h2
    have hby := hbz.trans (h2.mono hbz.size)
    clear h2 b0 b1 y1
    cases q with
    | false =>
      have HF := Lib.hid (show S = false by rw [hS]; rfl)
      clear hS
      go_wp2_with fail
      go_ret
      exact ⟨ret_b HF.out.symm, hby⟩
    | true =>
      have HF := Lib.hid (show S = D by rw [hS]; rfl)
      have z0 := d0.c 0 rfl
      have z1 := d1.c 0 rfl
      clear hS d0 d1
      go_wp2_with fail
      refine (HE.out _ hby).mono ?_
      rintro e w3 ⟨rfl, h3⟩
      have hbx := hby.trans (h3.mono hby.size)
      clear z0 z1 h3
      go_wp2_with fail
      go_ret
      exact ⟨ret_b HF.out.symm, hbx⟩
end Go.Proofs.Ytaflikgdlkaefaa
/- Vectors: their bytes, and what bytes tell. -/
namespace Go.Proofs.Ytaflikgdlkaefaa.Ve
open Go.Proofs.Ytaflikgdlkaefaa.Sp Go.Proofs.Ytaflikgdlkaefaa.Dt Go.Proofs.Ytaflikgdlkaefaa.Pl

/-- the numbers of the ranges behind e -/
def gapsN (e : Int) : List Rg → List Nat
  | [] => []
  | x :: t => (x.a - e - 2).toNat :: (x.b - x.a).toNat :: gapsN x.b t
def rowN (l : List Rg) : List Nat := (firstS l).toNat :: (extraS l).length :: gapsN (firstS l) (extraS l)
def rowB (p : Int × List Rg) : List UInt8 := UInt8.ofNat p.1.toNat :: encs (rowN p.2)
def flatV (V : VL) : List UInt8 := V.flatMap rowB
def bytesV (V : VL) : List UInt8 := if rightV V = true then enc V.length ++ flatV V else []
/-- two numbers -/
def twoS (b : List UInt8) : Nat × Nat × Nat × Nat :=
  if (takeS b).2.2 ≠ 0 then (0, 0, 0, (takeS b).2.2)
  else if (takeS (b.drop (takeS b).2.1)).2.2 ≠ 0 then (0, 0, 0, (takeS (b.drop (takeS b).2.1)).2.2)
  else ((takeS b).1, (takeS (b.drop (takeS b).2.1)).1, (takeS b).2.1 + (takeS (b.drop (takeS b).2.1)).2.1, 0)
def Mx : Nat := 1099511627775
/-- m ranges more, from k on -/
def goG (b : List UInt8) : Nat → List Rg → Nat → Nat → List Rg × Nat × Nat
  | 0, o, _, k => (o, k, 0)
  | m + 1, o, e, k =>
    if (twoS (b.drop k)).2.2.2 ≠ 0 then ([], 0, (twoS (b.drop k)).2.2.2)
    else if Mx < e + 2 + min (twoS (b.drop k)).1 Mx + min (twoS (b.drop k)).2.1 Mx then ([], 0, 21)
    else goG b m (o ++ [⟨((e + 2 + (twoS (b.drop k)).1 : Nat) : Int), ((e + 2 + (twoS (b.drop k)).1 + (twoS (b.drop k)).2.1 : Nat) : Int)⟩]) (e + 2 + (twoS (b.drop k)).1 + (twoS (b.drop k)).2.1) (k + (twoS (b.drop k)).2.2.1)
def baseR (n : Nat) : List Rg := if 0 < n then [⟨1, (n : Int)⟩] else []
/-- a row's ranges, from k on -/
def rowS (b : List UInt8) (k : Nat) : List Rg × Nat × Nat :=
  if (twoS (b.drop k)).2.2.2 ≠ 0 then ([], 0, (twoS (b.drop k)).2.2.2)
  else if Mx < (twoS (b.drop k)).1 ∨ (twoS (b.drop k)).1 = 0 ∧ (twoS (b.drop k)).2.1 = 0 then ([], 0, 21)
  else goG b (twoS (b.drop k)).2.1 (baseR (twoS (b.drop k)).1) (twoS (b.drop k)).1 (k + (twoS (b.drop k)).2.2.1)
/-- m rows more, from k on -/
def goT (b : List UInt8) : Nat → VL → Int → Nat → VL × Nat × Nat
  | 0, V, _, k => (V, k, 0)
  | m + 1, V, last, k =>
    if b.length ≤ k then ([], 0, 20)
    else if 64 ≤ at_ b k ∨ (at_ b k : Int) ≤ last then ([], 0, 21)
    else if (rowS b (k + 1)).2.2 ≠ 0 then ([], 0, (rowS b (k + 1)).2.2)
    else goT b m (V ++ [((at_ b k : Int), (rowS b (k + 1)).1)]) (at_ b k : Int) (rowS b (k + 1)).2.1
def takeV (b : List UInt8) : VL × Nat × Nat :=
  if (takeS b).2.2 ≠ 0 then ([], 0, (takeS b).2.2) else if (takeS b).1 > 64 then ([], 0, 21) else goT b (takeS b).1 [] (-1) (takeS b).2.1
theorem twoS_ok {b : List UInt8} {x y n : Nat} (h : twoS b = (x, y, n, 0)) : 2 ≤ n ∧ n ≤ b.length ∧ encs [x, y] = b.take n ∧ x < 18446744073709551616 ∧ y < 18446744073709551616 := by
  unfold twoS at h
  by_cases h1 : (takeS b).2.2 ≠ 0
  · rw [if_pos h1] at h; simp only [Prod.mk.injEq] at h; exact absurd h.2.2.2 h1
  rw [if_neg h1] at h
  obtain ⟨a1, _, a3, a4, a5⟩ := takeS_ok b (by omega)
  by_cases h2 : (takeS (b.drop (takeS b).2.1)).2.2 ≠ 0
  · rw [if_pos h2] at h; simp only [Prod.mk.injEq] at h; exact absurd h.2.2.2 h2
  rw [if_neg h2] at h
  obtain ⟨b1, _, b3, b4, b5⟩ := takeS_ok (b.drop (takeS b).2.1) (by omega)
  simp only [Prod.mk.injEq] at h
  obtain ⟨rfl, rfl, rfl, _⟩ := h
  rw [List.length_drop] at b3
  refine ⟨by omega, by omega, ?_, a5, b5⟩
  rw [List.take_add, ← a4, ← b4]
  simp [encs]
theorem twoS_bad {b : List UInt8} (h : (twoS b).2.2.2 ≠ 0) : twoS b = (0, 0, 0, (twoS b).2.2.2) := by
  unfold twoS at h ⊢
  by_cases h1 : (takeS b).2.2 ≠ 0
  · rw [if_pos h1]
  rw [if_neg h1] at h ⊢
  by_cases h2 : (takeS (b.drop (takeS b).2.1)).2.2 ≠ 0
  · rw [if_pos h2]
  · rw [if_neg h2] at h; exact absurd rfl h
theorem twoS_enc {x y : Nat} (hx : x < 18446744073709551616) (hy : y < 18446744073709551616) (t : List UInt8) : twoS (encs [x, y] ++ t) = (x, y, (encs [x, y]).length, 0) := by
  have e : encs [x, y] ++ t = enc x ++ (enc y ++ t) := by simp [encs]
  have h1 := take_enc x hx (enc y ++ t)
  have h2 := take_enc y hy t
  rw [e]
  unfold twoS
  simp only [h1]
  rw [List.drop_left' rfl]
  simp only [h2]
  simp [encs]
theorem gapsN_len : ∀ (e : Int) (l : List Rg), (gapsN e l).length = 2 * l.length
  | _, [] => rfl
  | e, x :: t => by simp [gapsN, gapsN_len x.b t]; omega
/-- ranges behind e: what goG tells of them -/
theorem goG_gaps (b t : List UInt8) : ∀ (l o : List Rg) (e k : Nat), okR ((e : Int) + 2) l = true → b.drop k = encs (gapsN (e : Int) l) ++ t →
    goG b l.length o e k = (o ++ l, k + (encs (gapsN (e : Int) l)).length, 0)
  | [], o, e, k, _, _ => by simp [goG, gapsN, encs]
  | x :: l, o, e, k, h, hb => by
    obtain ⟨h1, h2, h3⟩ := okR_cons.1 h
    rw [ok_iff] at h2
    obtain ⟨h4, h5, h6⟩ := h2
    unfold mx at h6
    have hb' : b.drop k = encs [(x.a - e - 2).toNat, (x.b - x.a).toNat] ++ (encs (gapsN x.b l) ++ t) := by
      rw [hb, gapsN]
      simp [encs]
    have h2' := twoS_enc (x := (x.a - e - 2).toNat) (y := (x.b - x.a).toNat) (by omega) (by omega) (encs (gapsN x.b l) ++ t)
    rw [List.length_cons, goG, hb', h2']
    dsimp only
    have e1 : e + 2 + (x.a - e - 2).toNat = x.a.toNat := by omega
    have e2 : e + 2 + (x.a - e - 2).toNat + (x.b - x.a).toNat = x.b.toNat := by omega
    rw [if_neg (by simp), if_neg (by unfold Mx; omega), e2, e1]
    have hxb : ((x.b.toNat : Nat) : Int) = x.b := by omega
    have hxa : ((x.a.toNat : Nat) : Int) = x.a := by omega
    have ih := goG_gaps b t l (o ++ [⟨((x.a.toNat : Nat) : Int), ((x.b.toNat : Nat) : Int)⟩]) x.b.toNat (k + (encs [(x.a - e - 2).toNat, (x.b - x.a).toNat]).length) (by rw [hxb]; exact h3) (by
      rw [hxb]
      exact drop_eq_of hb')
    rw [ih, hxb, hxa]
    have e3 : gapsN (e : Int) (x :: l) = [(x.a - e - 2).toNat, (x.b - x.a).toNat] ++ gapsN x.b l := rfl
    rw [e3, encs_append, List.length_append]
    simp [Nat.add_assoc]
theorem first_extra {l : List Rg} (h : right l = true) : 0 ≤ firstS l ∧ firstS l ≤ mx ∧ okR (firstS l + 2) (extraS l) = true ∧ l = baseR (firstS l).toNat ++ extraS l := by
  unfold extraS
  have hf : firstS l = firstR l := by rw [firstS, if_pos h]
  rw [hf]
  cases l with
  | nil => simp [firstR, baseR, mx, okR]
  | cons x t =>
    obtain ⟨h1, h2, h3⟩ := okR_cons.1 h
    rw [ok_iff] at h2
    unfold firstR
    dsimp only
    by_cases hx : x.a = 1
    · simp only [hx, if_true]
      rw [if_pos (by omega)]
      refine ⟨by omega, h2.2.2, by simpa using h3, ?_⟩
      rw [baseR, if_pos (by omega)]
      obtain ⟨a, b⟩ := x
      dsimp only at *
      simp only [List.drop_succ_cons, List.drop_zero, List.singleton_append, List.cons.injEq, Rg.mk.injEq, and_true]
      omega
    · simp only [hx, if_false]
      rw [if_neg (by omega)]
      refine ⟨by omega, by unfold mx; omega, okR_cons.2 ⟨by omega, ok_iff.2 h2, h3⟩, by simp [baseR]⟩
theorem rowS_row {b t : List UInt8} {l : List Rg} {k : Nat} (h : right l = true) (hne : l ≠ []) (hlen : l.length < 18446744073709551616) (hb : b.drop k = encs (rowN l) ++ t) :
    rowS b k = (l, k + (encs (rowN l)).length, 0) := by
  obtain ⟨h1, h2, h3, h4⟩ := first_extra h
  unfold mx at h2
  have hel : (extraS l).length ≤ l.length := by
    have := congrArg List.length h4
    rw [List.length_append] at this
    omega
  have hb' : b.drop k = encs [(firstS l).toNat, (extraS l).length] ++ (encs (gapsN (firstS l) (extraS l)) ++ t) := by
    rw [hb, rowN]
    simp [encs]
  have h2' := twoS_enc (x := (firstS l).toNat) (y := (extraS l).length) (by omega) (by omega) (encs (gapsN (firstS l) (extraS l)) ++ t)
  have hF : (((firstS l).toNat : Nat) : Int) = firstS l := by omega
  have e3 : rowN l = [(firstS l).toNat, (extraS l).length] ++ gapsN (firstS l) (extraS l) := rfl
  unfold rowS
  rw [hb', h2']
  dsimp only
  rw [if_neg (by simp), if_neg (by
    rintro (h5 | ⟨h5, h6⟩)
    · unfold Mx at h5; omega
    · apply hne
      rw [h4, h5, List.eq_nil_of_length_eq_zero h6]
      rfl), goG_gaps b t (extraS l) _ _ _ (by rw [hF]; exact h3) (by rw [hF]; exact drop_eq_of hb'), ← h4, hF, e3, encs_append, List.length_append]
  simp [Nat.add_assoc]
theorem at_drop {b : List UInt8} {k : Nat} {c : UInt8} {t : List UInt8} (h : b.drop k = c :: t) : k < b.length ∧ at_ b k = c.toNat := by
  have h1 : (b.drop k)[0]? = some c := by rw [h]; rfl
  rw [List.getElem?_drop, Nat.add_zero] at h1
  refine ⟨(List.getElem?_eq_some_iff.1 h1).1, ?_⟩
  unfold at_
  rw [h1]
  rfl
theorem goT_flat (b t : List UInt8) : ∀ (V O : VL) (last : Int) (k : Nat), okV last V = true → -1 ≤ last → (∀ p ∈ V, p.2.length < 18446744073709551616) → b.drop k = flatV V ++ t →
    goT b V.length O last k = (O ++ V, k + (flatV V).length, 0)
  | [], O, last, k, _, _, _, _ => by simp [goT, flatV]
  | p :: V, O, last, k, h, hl, hlen, hb => by
    obtain ⟨h1, h2, h3, h4, h5⟩ := okV_cons.1 h
    have hb1 : b.drop k = UInt8.ofNat p.1.toNat :: (encs (rowN p.2) ++ (flatV V ++ t)) := by
      rw [hb]
      simp [flatV, rowB]
    obtain ⟨a1, a2⟩ := at_drop hb1
    rw [toNat_ofNat (by omega)] at a2
    have hb2 : b.drop (k + 1) = encs (rowN p.2) ++ (flatV V ++ t) := by
      rw [← List.drop_drop, hb1]
      rfl
    have hp : ((p.1.toNat : Nat) : Int) = p.1 := by omega
    have hr := rowS_row h4 h3 (hlen p (by simp)) hb2
    rw [List.length_cons, goT, if_neg (by omega), a2, if_neg (by omega), hr]
    dsimp only
    rw [if_neg (by simp), hp, goT_flat b t V _ p.1 _ h5 (by omega) (fun q hq => hlen q (by simp [hq])) (drop_eq_of hb2)]
    have : (flatV (p :: V)).length = 1 + (encs (rowN p.2)).length + (flatV V).length := by simp [flatV, rowB]; omega
    rw [this]
    simp [Nat.add_assoc]
theorem takeV_bytes {V : VL} (h : rightV V = true) (hlen : ∀ p ∈ V, p.2.length < 18446744073709551616) (t : List UInt8) : takeV (bytesV V ++ t) = (V, (bytesV V).length, 0) := by
  have hl : V.length ≤ 64 := by
    have key : ∀ {V : VL} {last : Int}, okV last V = true → last < 64 → (V.length : Int) ≤ 63 - last := by
      intro V
      induction V with
      | nil => intro last _ hl; simp only [List.length_nil]; omega
      | cons q t ih =>
        intro last h hl
        obtain ⟨h1, h2, h3, h4, h5⟩ := okV_cons.1 h
        have := ih h5 h2
        simp only [List.length_cons]
        omega
    have := key h (by omega)
    omega
  rw [bytesV, if_pos h]
  have hq := take_enc V.length (by omega) (flatV V ++ t)
  rw [← List.append_assoc] at hq
  unfold takeV
  simp only [hq]
  rw [if_neg (by simp), if_neg (by omega), goT_flat _ t V [] (-1) _ h (by omega) hlen (by rw [List.append_assoc, List.drop_left' rfl])]
  simp
end Go.Proofs.Ytaflikgdlkaefaa.Ve
