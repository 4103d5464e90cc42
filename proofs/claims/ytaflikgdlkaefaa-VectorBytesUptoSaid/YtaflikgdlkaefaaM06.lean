/- Ranges: the document's SpanAdd. -/
import Derived.Test.YtaflikgdlkaefaaM04
import Derived.Test.YtaflikgdlkaefaaM05
open List (getElem?_toArray getElem?_cons_succ getElem?_cons_zero)
namespace Go.Proofs.Ytaflikgdlkaefaa
open Go.RowKit Go.Proofs.Ytaflikgdlkaefaa.Pl Go.Proofs.Ytaflikgdlkaefaa.Sp
set_option maxRecDepth 20000

theorem stands_at {w : World} {g : Nat} {s : Rg} (h : StandsR w g s) : At w g [.int .i64 s.a, .int .i64 s.b] := by
  obtain ⟨h1, h2, h3, h5, h6⟩ := h
  refine ⟨h1, fun i v hv => ?_⟩
  match i, hv with
  | 0, hv => cases hv; exact ⟨h2, h5⟩
  | 1, hv => cases hv; exact ⟨h3, h6⟩
theorem right_one_ok (r : Rg) : right [r] = r.ok := by
  unfold right okR okR
  rw [Bool.and_true]
  cases h : r.ok with
  | false => simp
  | true => have := ok_iff.1 h; simp; omega
theorem take_succR {l : List Rg} {k : Nat} (hk : k < l.length) : l.take (k + 1) = l.take k ++ [l[k]?.getD ⟨0, 0⟩] := by
  rw [List.take_succ_eq_append_getElem hk, List.getElem?_eq_getElem hk, Option.getD_some]
set_option maxRecDepth 100000 in
set_option maxHeartbeats 12800000 in
theorem RRAddOk_any (w : World) (A : Option Addr) (n c : Nat) (l : List Rg) (r : Rg) (hb : Sl w w.heap.size A (rv l)) (h0 : n = l.length) (hl : n ≤ 10000000) (hc : n ≤ c) (_hcm : c ≤ maxLen) (hp : right l = true) (hr : r.ok = true) :
    Calls Try.prog 54 #[.slice A n c, r.v] w (RAns w (addR l r)) := by
  unfold Rg.v
  have hb0 := boxR w r
  have hst0 := StandsR.new w 44 r
  have HL := Lib.hid (fun W (hW : Below w.heap.size w W) => RRRight_any W A n c l ((hb.below hW).more hW.size) h0 (by omega))
  have HR := Lib.hid (fun W g (hW : Sl W W.heap.size (some ⟨g, 0, none⟩) (rv [r])) => RRRight_any W (some ⟨g, 0, none⟩) 1 1 [r] hW rfl (by omega))
  rw [hp] at HL
  rw [right_one_ok, hr] at HR
  have HN := Lib.hid (And.intro h0 (right_ok hp))
  have hr' := ok_iff.1 hr
  unfold mx at hr'
  obtain ⟨r1, r2, r3⟩ := hr'
  clear h0 hp hr
  go_enter Try.func54, Try.ntmps54
  go_wp2_with fail
  refine (HL.out _ hb0).mono ?_
  rintro e w1 ⟨rfl, h1⟩
  have hst1 := hst0.below h1
  have hbz1 := hb0.trans (h1.mono hb0.size)
  clear hst0 hb0 h1
  generalize hgb : w.heap.size = gb at hst1 ⊢
  have m0 := hst1.2.1
  have m1 := hst1.2.2.1
  go_wp2_with fail
  refine (HR.out _ _ (Sl.oneR w1 r)).mono ?_
  rintro e w2 ⟨rfl, h2⟩
  have hb1 := hbz1.alloc hbz1.size (.cells #[.int .i64 r.a, .int .i64 r.b] 44)
  have hbz2 := hb1.trans (h2.mono hb1.size)
  have hst2 := (hst1.below (boxR w1 r)).below h2
  have hgb2 : w.heap.size ≤ gb := by omega
  clear h2 hb1 hst1 m0 m1 hbz1 hgb
  have hgb := hgb2
  clear hgb2
  go_wp2_with fail
  go_loopw [5, 6] (fun x5 x6 wr => ∃ (i : Nat) (o : Value), i ≤ n ∧ x6 = .int .i64 (i : Int) ∧ o = x5 ∧ OwnR wr w.heap.size o (l.take i) ∧ o.ownBlock ≠ some gb ∧ StandsR wr gb r ∧ (∀ j, j < i → (l[j]?.getD ⟨0, 0⟩).b < r.a - 1) ∧ Below w.heap.size w wr) (fun _ x6 _ => n - (intOf x6).toNat)
  case atStart => exact ⟨0, _, by omega, rfl, rfl, OwnR.nil _ _, (fun e => (by cases e)), hst2, (fun j hj => by omega), hbz2⟩
  case round =>
    clear hst2 hbz2
    obtain ⟨i0, x5, hi0, rfl, rfl, hown, hne, hst, hall, hbel⟩ := hrel
    have w1' : IntKind.i64.wrap (r.a - 1) = r.a - 1 := by rw [IntKind.wrap_i64]; omega
    have q0 := cellB hst.2.1
    by_cases hlt : i0 < n
    · have hil : i0 < l.length := by have := HN.out.1; omega
      obtain ⟨b2, o2, hA2, _, hb2W, d0, d1⟩ := rgAt hb hil
      replace d0 := (hbel.cell hb2W).trans d0
      replace d1 := (hbel.cell hb2W).trans d1
      have f1 := cellB d1
      have hts := take_succR hil
      have hex : (l[i0]?.getD ⟨0, 0⟩).b < r.a - 1 ∨ (i0 = l.length ∨ ¬ (l[i0]?.getD ⟨0, 0⟩).b < r.a - 1) := by
        by_cases h : (l[i0]?.getD ⟨0, 0⟩).b < r.a - 1
        · exact .inl h
        · exact .inr (.inr h)
      have hall2 : (l[i0]?.getD ⟨0, 0⟩).b < r.a - 1 → ∀ j, j < i0 + 1 → (l[j]?.getD ⟨0, 0⟩).b < r.a - 1 := fun h j hj => by
        rcases Nat.lt_succ_iff_lt_or_eq.1 hj with h9 | rfl
        · exact hall j h9
        · exact h
      obtain ⟨z, hz⟩ : ∃ z, l[i0]?.getD ⟨0, 0⟩ = z := ⟨_, rfl⟩
      rw [hz] at d0 d1 f1 hts hall2
      have HEX0 := Lib.hid (show z.b < r.a - 1 ∨ (i0 = l.length ∨ ¬ (l[i0]?.getD ⟨0, 0⟩).b < r.a - 1) from hz ▸ hex)
      clear hz hex
      have hdi : decide ((i0 : Int) < (n : Int)) = true := by rw [decide_eq_true_eq]; omega
      have hx0 : (0 : Int) ≤ (i0 : Int) := by omega
      have hx1 : (i0 : Int) < (n : Int) := by omega
      by_cases hzb : z.b < r.a - 1
      · have dz : decide (z.b < r.a - 1) = true := by rw [decide_eq_true_eq]; exact hzb
        have HALL := Lib.hid (hall2 hzb)
        have HTS := Lib.hid hts
        have hTL : (l.take i0).length + 1 ≤ 1000000000 := by rw [List.length_take]; omega
        have HTL := Lib.hid hTL
        clear hall hall2 hts hzb HEX0 hTL
        subst hA2
        go_wp2_with fail
        refine bstart (by kernel_rfl) ?_
        refine btake 0 (oi := _) (v := ?_) (by simp only [List.getElem?_toArray, List.getElem?_cons_zero]; rfl) (by kernel_rfl) (by exact fun _ _ _ h => h) (by first | assumption | exact KB.refl _) (.inl ⟨by rfl, fun W hW => ?_⟩) ?_; rotate_left
        · (go_simp; first | done | with_reducible rfl)
        try simp only [Act.put, List.setIfInBounds_toArray, List.set_cons_zero, List.set_cons_succ]
        refine btake 1 (oi := _) (v := ?_) (by simp only [getElem?_toArray, getElem?_cons_succ, getElem?_cons_zero]; rfl) (by kernel_rfl) (by exact fun _ _ _ h => h) (by first | assumption | exact KB.refl _) (.inl ⟨by rfl, fun W hW => ?_⟩) ?_; rotate_left
        · (go_simp; first | done | with_reducible rfl)
        try simp only [Act.put, List.setIfInBounds_toArray, List.set_cons_zero, List.set_cons_succ]
        refine btake 2 (oi := _) (v := ?_) (by simp only [getElem?_toArray, getElem?_cons_succ, getElem?_cons_zero]; rfl) (by kernel_rfl) (by exact fun _ _ _ h => h) (by first | assumption | exact KB.refl _) (.inl ⟨by rfl, fun W hW => ?_⟩) ?_; rotate_left
        · (go_simp; first | done | with_reducible rfl)
        try simp only [Act.put, List.setIfInBounds_toArray, List.set_cons_zero, List.set_cons_succ]
        refine btake 3 (oi := _) (v := ?_) (by simp only [getElem?_toArray, getElem?_cons_succ, getElem?_cons_zero]; rfl) (by kernel_rfl) (by exact fun _ _ _ h => h) (by first | assumption | exact KB.refl _) (.inl ⟨by rfl, fun W hW => ?_⟩) ?_; rotate_left
        · (go_simp; first | done | with_reducible rfl)
        try simp only [Act.put, List.setIfInBounds_toArray, List.set_cons_zero, List.set_cons_succ]
        refine btake 4 (oi := _) (v := ?_) (by simp only [getElem?_toArray, getElem?_cons_succ, getElem?_cons_zero]; rfl) (by kernel_rfl) (by exact fun _ _ _ h => h) (by first | assumption | exact KB.refl _) (.inl ⟨by rfl, fun W hW => ?_⟩) ?_; rotate_left
        · (go_simp; first | done | with_reducible rfl)
        try simp only [Act.put, List.setIfInBounds_toArray, List.set_cons_zero, List.set_cons_succ]
        refine btake 5 (oi := _) (v := ?_) (by simp only [getElem?_toArray, getElem?_cons_succ, getElem?_cons_zero]; rfl) (by kernel_rfl) (by exact fun _ _ _ h => h) (by first | assumption | exact KB.refl _) (.inl ⟨by rfl, fun W hW => ?_⟩) ?_; rotate_left
        · (go_simp; first | done | with_reducible rfl)
        try simp only [Act.put, List.setIfInBounds_toArray, List.set_cons_zero, List.set_cons_succ]
        refine btake 6 (oi := _) (v := ?_) (by simp only [getElem?_toArray, getElem?_cons_succ, getElem?_cons_zero]; rfl) (by kernel_rfl) (by exact fun _ _ _ h => h) (by first | assumption | exact KB.refl _) (.inl ⟨by rfl, fun W hW => ?_⟩) ?_; rotate_left
        · (go_simp; first | done | with_reducible rfl)
        try simp only [Act.put, List.setIfInBounds_toArray, List.set_cons_zero, List.set_cons_succ]
        refine btake 7 (oi := _) (v := ?_) (by simp only [getElem?_toArray, getElem?_cons_succ, getElem?_cons_zero]; rfl) (by kernel_rfl) (by exact fun _ _ _ h => h) (by first | assumption | exact KB.refl _) (.inl ⟨by rfl, fun W hW => ?_⟩) ?_; rotate_left
        · (go_simp; first | done | with_reducible rfl)
        try simp only [Act.put, List.setIfInBounds_toArray, List.set_cons_zero, List.set_cons_succ]
        refine btake 8 (oi := _) (v := ?_) (by simp only [getElem?_toArray, getElem?_cons_succ, getElem?_cons_zero]; rfl) (by kernel_rfl) (by exact fun _ _ _ h => h) (by first | assumption | exact KB.refl _) (.inl ⟨by rfl, fun W hW => ?_⟩) ?_; rotate_left
        · (go_simp; first | done | with_reducible rfl)
        try simp only [Act.put, List.setIfInBounds_toArray, List.set_cons_zero, List.set_cons_succ]
        refine btake 9 (oi := _) (v := ?_) (by simp only [getElem?_toArray, getElem?_cons_succ, getElem?_cons_zero]; rfl) (by kernel_rfl) (by exact fun _ _ _ h => h) (by first | assumption | exact KB.refl _) (.inl ⟨by rfl, fun W hW => ?_⟩) ?_; rotate_left
        · (go_simp; first | done | with_reducible rfl)
        try simp only [Act.put, List.setIfInBounds_toArray, List.set_cons_zero, List.set_cons_succ]
        refine btake 10 (oi := _) (v := ?_) (by simp only [getElem?_toArray, getElem?_cons_succ, getElem?_cons_zero]; rfl) (by kernel_rfl) (by exact fun _ _ _ h => h) (by first | assumption | exact KB.refl _) (.inl ⟨by rfl, fun W hW => ?_⟩) ?_; rotate_left
        · (go_simp; first | done | with_reducible rfl)
        try simp only [Act.put, List.setIfInBounds_toArray, List.set_cons_zero, List.set_cons_succ]
        refine btake 11 (oi := _) (v := ?_) (by simp only [getElem?_toArray, getElem?_cons_succ, getElem?_cons_zero]; rfl) (by kernel_rfl) (by exact fun _ _ _ h => h) (by first | assumption | exact KB.refl _) (.inl ⟨by rfl, fun W hW => ?_⟩) ?_; rotate_left
        · (go_simp; first | done | with_reducible rfl)
        try simp only [Act.put, List.setIfInBounds_toArray, List.set_cons_zero, List.set_cons_succ]
        refine btake 12 (oi := _) (v := ?_) (by simp only [getElem?_toArray, getElem?_cons_succ, getElem?_cons_zero]; rfl) (by kernel_rfl) (by exact fun _ _ _ h => h) (by first | assumption | exact KB.refl _) (.inl ⟨by rfl, fun W hW => ?_⟩) ?_; rotate_left
        · (go_simp; first | done | with_reducible rfl)
        try simp only [Act.put, List.setIfInBounds_toArray, List.set_cons_zero, List.set_cons_succ]
        refine btake 13 (oi := _) (v := ?_) (by simp only [getElem?_toArray, getElem?_cons_succ, getElem?_cons_zero]; rfl) (by kernel_rfl) (by exact fun _ _ _ h => h) (by first | assumption | exact KB.refl _) (.inl ⟨by rfl, fun W hW => ?_⟩) ?_; rotate_left
        · (go_simp; first | done | with_reducible rfl)
        try simp only [Act.put, List.setIfInBounds_toArray, List.set_cons_zero, List.set_cons_succ]
        refine btake 14 (oi := _) (v := ?_) (by simp only [getElem?_toArray, getElem?_cons_succ, getElem?_cons_zero]; rfl) (by kernel_rfl) (by exact fun _ _ _ h => h) (by first | assumption | exact KB.refl _) (.inl ⟨by rfl, fun W hW => ?_⟩) ?_; rotate_left
        · (go_simp; first | done | with_reducible rfl)
        try simp only [Act.put, List.setIfInBounds_toArray, List.set_cons_zero, List.set_cons_succ]
        refine bdone (by kernel_rfl) ?_
        have hbq := hbel.drew
        have howq := hown.below (Below.refl _ _).drew
        have hstq := hst.below (Below.refl _ _).drew
        replace d0 : wr.drew.cell? _ = _ := d0
        replace d1 : wr.drew.cell? _ = _ := d1
        generalize wr.drew = wq at hbq howq hstq d0 d1 ⊢
        clear q0 f1 hown hst hbel
        have how3 := howq.below (boxR wq z)
        have hbx3 := hbq.alloc hbq.size (.cells #[.int .i64 z.a, .int .i64 z.b] 44)
        have hst3 := hstq.below (boxR wq z)
        have hsl3 := Sl.oneR wq z
        clear howq
        go_wp2_with (at_builtin; refine appR rfl rfl how3 hsl3 rfl rfl rfl (by rw [List.length_singleton]; exact HTL.out) hbx3.size ?_; intro v7 w7 h7 hg7 hat7)
        have hne7 : v7.ownBlock ≠ some gb := by
          rcases hat7 with h | h
          · rw [h]; exact hne
          · rw [h]; intro e; injection e with e; have h1 := hstq.1; simp at e; omega
        go_roundw
        case rel => exact ⟨i0 + 1, _, by omega, by go_num, rfl, by rw [HTS.out]; exact h7, hne7, hst3.grown hg7 hne, HALL.out, own_belowR hbx3 hbx3.size how3 hg7⟩
        case measure => simp [intOf] <;> omega
      · have dz : decide (z.b < r.a - 1) = false := by rw [decide_eq_false_iff_not]; exact hzb
        have HEX := Lib.hid (HEX0.out.resolve_left hzb)
        clear hall2 hts hzb HEX0
        subst hA2
        go_wp2_with fail
        refine bstart (by kernel_rfl) ?_
        refine btake 0 (oi := _) (v := ?_) (by simp only [List.getElem?_toArray, List.getElem?_cons_zero]; rfl) (by kernel_rfl) (by exact fun _ _ _ h => h) (by first | assumption | exact KB.refl _) (.inl ⟨by rfl, fun W hW => ?_⟩) ?_; rotate_left
        · (go_simp; first | done | with_reducible rfl)
        try simp only [Act.put, List.setIfInBounds_toArray, List.set_cons_zero, List.set_cons_succ]
        refine btake 1 (oi := _) (v := ?_) (by simp only [getElem?_toArray, getElem?_cons_succ, getElem?_cons_zero]; rfl) (by kernel_rfl) (by exact fun _ _ _ h => h) (by first | assumption | exact KB.refl _) (.inl ⟨by rfl, fun W hW => ?_⟩) ?_; rotate_left
        · (go_simp; first | done | with_reducible rfl)
        try simp only [Act.put, List.setIfInBounds_toArray, List.set_cons_zero, List.set_cons_succ]
        refine btake 2 (oi := _) (v := ?_) (by simp only [getElem?_toArray, getElem?_cons_succ, getElem?_cons_zero]; rfl) (by kernel_rfl) (by exact fun _ _ _ h => h) (by first | assumption | exact KB.refl _) (.inl ⟨by rfl, fun W hW => ?_⟩) ?_; rotate_left
        · (go_simp; first | done | with_reducible rfl)
        try simp only [Act.put, List.setIfInBounds_toArray, List.set_cons_zero, List.set_cons_succ]
        refine btake 3 (oi := _) (v := ?_) (by simp only [getElem?_toArray, getElem?_cons_succ, getElem?_cons_zero]; rfl) (by kernel_rfl) (by exact fun _ _ _ h => h) (by first | assumption | exact KB.refl _) (.inl ⟨by rfl, fun W hW => ?_⟩) ?_; rotate_left
        · (go_simp; first | done | with_reducible rfl)
        try simp only [Act.put, List.setIfInBounds_toArray, List.set_cons_zero, List.set_cons_succ]
        refine btake 4 (oi := _) (v := ?_) (by simp only [getElem?_toArray, getElem?_cons_succ, getElem?_cons_zero]; rfl) (by kernel_rfl) (by exact fun _ _ _ h => h) (by first | assumption | exact KB.refl _) (.inl ⟨by rfl, fun W hW => ?_⟩) ?_; rotate_left
        · (go_simp; first | done | with_reducible rfl)
        try simp only [Act.put, List.setIfInBounds_toArray, List.set_cons_zero, List.set_cons_succ]
        refine btake 5 (oi := _) (v := ?_) (by simp only [getElem?_toArray, getElem?_cons_succ, getElem?_cons_zero]; rfl) (by kernel_rfl) (by exact fun _ _ _ h => h) (by first | assumption | exact KB.refl _) (.inl ⟨by rfl, fun W hW => ?_⟩) ?_; rotate_left
        · (go_simp; first | done | with_reducible rfl)
        try simp only [Act.put, List.setIfInBounds_toArray, List.set_cons_zero, List.set_cons_succ]
        refine btake 6 (oi := _) (v := ?_) (by simp only [getElem?_toArray, getElem?_cons_succ, getElem?_cons_zero]; rfl) (by kernel_rfl) (by exact fun _ _ _ h => h) (by first | assumption | exact KB.refl _) (.inl ⟨by rfl, fun W hW => ?_⟩) ?_; rotate_left
        · (go_simp; first | done | with_reducible rfl)
        try simp only [Act.put, List.setIfInBounds_toArray, List.set_cons_zero, List.set_cons_succ]
        refine btake 7 (oi := _) (v := ?_) (by simp only [getElem?_toArray, getElem?_cons_succ, getElem?_cons_zero]; rfl) (by kernel_rfl) (by exact fun _ _ _ h => h) (by first | assumption | exact KB.refl _) (.inl ⟨by rfl, fun W hW => ?_⟩) ?_; rotate_left
        · (go_simp; first | done | with_reducible rfl)
        try simp only [Act.put, List.setIfInBounds_toArray, List.set_cons_zero, List.set_cons_succ]
        refine btake 8 (oi := _) (v := ?_) (by simp only [getElem?_toArray, getElem?_cons_succ, getElem?_cons_zero]; rfl) (by kernel_rfl) (by exact fun _ _ _ h => h) (by first | assumption | exact KB.refl _) (.inl ⟨by rfl, fun W hW => ?_⟩) ?_; rotate_left
        · (go_simp; first | done | with_reducible rfl)
        try simp only [Act.put, List.setIfInBounds_toArray, List.set_cons_zero, List.set_cons_succ]
        refine btake 9 (oi := _) (v := ?_) (by simp only [getElem?_toArray, getElem?_cons_succ, getElem?_cons_zero]; rfl) (by kernel_rfl) (by exact fun _ _ _ h => h) (by first | assumption | exact KB.refl _) (.inl ⟨by rfl, fun W hW => ?_⟩) ?_; rotate_left
        · (go_simp; first | done | with_reducible rfl)
        try simp only [Act.put, List.setIfInBounds_toArray, List.set_cons_zero, List.set_cons_succ]
        refine btake 10 (oi := _) (v := ?_) (by simp only [getElem?_toArray, getElem?_cons_succ, getElem?_cons_zero]; rfl) (by kernel_rfl) (by exact fun _ _ _ h => h) (by first | assumption | exact KB.refl _) (.inl ⟨by rfl, fun W hW => ?_⟩) ?_; rotate_left
        · (go_simp; first | done | with_reducible rfl)
        try simp only [Act.put, List.setIfInBounds_toArray, List.set_cons_zero, List.set_cons_succ]
        refine btake 11 (oi := _) (v := ?_) (by simp only [getElem?_toArray, getElem?_cons_succ, getElem?_cons_zero]; rfl) (by kernel_rfl) (by exact fun _ _ _ h => h) (by first | assumption | exact KB.refl _) (.inl ⟨by rfl, fun W hW => ?_⟩) ?_; rotate_left
        · (go_simp; first | done | with_reducible rfl)
        try simp only [Act.put, List.setIfInBounds_toArray, List.set_cons_zero, List.set_cons_succ]
        refine btake 12 (oi := _) (v := ?_) (by simp only [getElem?_toArray, getElem?_cons_succ, getElem?_cons_zero]; rfl) (by kernel_rfl) (by exact fun _ _ _ h => h) (by first | assumption | exact KB.refl _) (.inl ⟨by rfl, fun W hW => ?_⟩) ?_; rotate_left
        · (go_simp; first | done | with_reducible rfl)
        try simp only [Act.put, List.setIfInBounds_toArray, List.set_cons_zero, List.set_cons_succ]
        refine btake 13 (oi := _) (v := ?_) (by simp only [getElem?_toArray, getElem?_cons_succ, getElem?_cons_zero]; rfl) (by kernel_rfl) (by exact fun _ _ _ h => h) (by first | assumption | exact KB.refl _) (.inl ⟨by rfl, fun W hW => ?_⟩) ?_; rotate_left
        · (go_simp; first | done | with_reducible rfl)
        try simp only [Act.put, List.setIfInBounds_toArray, List.set_cons_zero, List.set_cons_succ]
        refine btake 14 (oi := _) (v := ?_) (by simp only [getElem?_toArray, getElem?_cons_succ, getElem?_cons_zero]; rfl) (by kernel_rfl) (by exact fun _ _ _ h => h) (by first | assumption | exact KB.refl _) (.inl ⟨by rfl, fun W hW => ?_⟩) ?_; rotate_left
        · (go_simp; first | done | with_reducible rfl)
        try simp only [Act.put, List.setIfInBounds_toArray, List.set_cons_zero, List.set_cons_succ]
        refine bdone (by kernel_rfl) ?_
        replace hbel := hbel.drew
        replace hown := hown.below (Below.refl _ _).drew
        replace hst := hst.below (Below.refl _ _).drew
        generalize wr.drew = wq at hbel hown hst ⊢
        clear q0 f1 d0 d1
        have hadd := add_at l r i0 (by have := HN.out.1; omega) hall (by have h9 := HEX.out; omega)
        have hlow : w.heap.size ≤ gb := hgb
        obtain ⟨M, hM0⟩ : ∃ M, mergeR (l.drop i0) r = M := ⟨_, rfl⟩
        rw [hM0] at hadd
        have HADD := Lib.hid hadd
        have hneO := hne
        clear hadd hall HEX hne
        go_wp2_with fail
        go_loopw [6] (fun x6 wr => ∃ (i : Nat) (x y : Int), i ≤ n ∧ x6 = .int .i64 (i : Int) ∧ OwnR wr w.heap.size x5 (l.take i0) ∧ StandsR wr gb ⟨x, y⟩ ∧ 1 ≤ x ∧ x ≤ y ∧ y ≤ 1099511627775 ∧ mergeR (l.drop i) ⟨x, y⟩ = M ∧ Below w.heap.size w wr) (fun x6 _ => n - (intOf x6).toNat)
        case atStart => exact ⟨i0, r.a, r.b, by omega, rfl, hown, hst, r1, r2, r3, hM0, hbel⟩
        case round =>
          clear hown hst hbel hM0
          obtain ⟨i, x, y, hi, rfl, how1, hst1, x1, x2, x3, hM, hbel1⟩ := hrel
          have m0 := hst1.2.1
          have m1 := hst1.2.2.1
          have q0 := cellB m0
          have q1 := cellB m1
          by_cases hli : i < n
          · have hil : i < l.length := by have := HN.out.1; omega
            obtain ⟨b3, o3, hA3, _, hb2W, d0, d1⟩ := rgAt hb hil
            obtain ⟨rfl, rfl⟩ : b2 = b3 ∧ o2 = o3 := by cases hA3; exact ⟨rfl, rfl⟩
            clear hA3
            have c0 := cellB d0
            have c1 := cellB d1
            have hzo := ok_iff.1 (HN.out.2 _ (List.getElem_mem hil))
            rw [show l[i] = l[i]?.getD ⟨0, 0⟩ by rw [List.getElem?_eq_getElem hil]; rfl] at hzo
            unfold mx at hzo
            have hstep := merge_step (r := ⟨x, y⟩) hil
            have hst9 : i < l.length ∧ ¬ (l[i]?.getD ⟨0, 0⟩).a ≤ (⟨x, y⟩ : Rg).b + 1 ∨ (l[i]?.getD ⟨0, 0⟩).a ≤ y + 1 := by
              by_cases h : (l[i]?.getD ⟨0, 0⟩).a ≤ y + 1
              · exact .inr h
              · exact .inl ⟨hil, h⟩
            have HST := Lib.hid (show (l[i]?.getD ⟨0, 0⟩).a ≤ y + 1 ∨ (i = l.length ∨ i < l.length ∧ ¬ (l[i]?.getD ⟨0, 0⟩).a ≤ (⟨x, y⟩ : Rg).b + 1) from hst9.elim (fun h => .inr (.inr h)) .inl)
            replace d0 := (hbel1.cell hb2W).trans d0
            replace d1 := (hbel1.cell hb2W).trans d1
            have f0 := cellB d0
            have f1 := cellB d1
            obtain ⟨z, hz⟩ : ∃ z, l[i]?.getD ⟨0, 0⟩ = z := ⟨_, rfl⟩
            rw [hz] at hzo hstep d0 d1 f0 f1 c0 c1
            have HSTz := Lib.hid (show z.a ≤ y + 1 ∨ (i = l.length ∨ i < l.length ∧ ¬ (l[i]?.getD ⟨0, 0⟩).a ≤ (⟨x, y⟩ : Rg).b + 1) from hz ▸ HST.out)
            clear HST hst9 hz
            have hdi : decide ((i : Int) < (n : Int)) = true := by rw [decide_eq_true_eq]; omega
            have hi0 : (0 : Int) ≤ (i : Int) := by omega
            have hi1 : (i : Int) < (n : Int) := by omega
            have wy : IntKind.i64.wrap (y + 1) = y + 1 := by rw [IntKind.wrap_i64]; omega
            skip
            by_cases hza : z.a ≤ y + 1
            · have dz : decide (z.a ≤ y + 1) = true := by rw [decide_eq_true_eq]; exact hza
              rw [hstep hza] at hM
              have HM := Lib.hid hM
              clear hstep hM HSTz hza
              go_wp2_with fail
              refine bstart (by kernel_rfl) ?_
              refine btake 0 (oi := _) (v := ?_) (by simp only [List.getElem?_toArray, List.getElem?_cons_zero]; rfl) (by kernel_rfl) (by exact fun _ _ _ h => h) (by first | assumption | exact KB.refl _) (.inl ⟨by rfl, fun W hW => ?_⟩) ?_; rotate_left
              · (go_simp; first | done | with_reducible rfl)
              try simp only [Act.put, List.setIfInBounds_toArray, List.set_cons_zero, List.set_cons_succ]
              refine btake 1 (oi := _) (v := ?_) (by simp only [getElem?_toArray, getElem?_cons_succ, getElem?_cons_zero]; rfl) (by kernel_rfl) (by exact fun _ _ _ h => h) (by first | assumption | exact KB.refl _) (.inl ⟨by rfl, fun W hW => ?_⟩) ?_; rotate_left
              · (go_simp; first | done | with_reducible rfl)
              try simp only [Act.put, List.setIfInBounds_toArray, List.set_cons_zero, List.set_cons_succ]
              refine btake 2 (oi := _) (v := ?_) (by simp only [getElem?_toArray, getElem?_cons_succ, getElem?_cons_zero]; rfl) (by kernel_rfl) (by exact fun _ _ _ h => h) (by first | assumption | exact KB.refl _) (.inl ⟨by rfl, fun W hW => ?_⟩) ?_; rotate_left
              · (go_simp; first | done | with_reducible rfl)
              try simp only [Act.put, List.setIfInBounds_toArray, List.set_cons_zero, List.set_cons_succ]
              refine btake 3 (oi := _) (v := ?_) (by simp only [getElem?_toArray, getElem?_cons_succ, getElem?_cons_zero]; rfl) (by kernel_rfl) (by exact fun _ _ _ h => h) (by first | assumption | exact KB.refl _) (.inl ⟨by rfl, fun W hW => ?_⟩) ?_; rotate_left
              · (go_simp; first | done | with_reducible rfl)
              try simp only [Act.put, List.setIfInBounds_toArray, List.set_cons_zero, List.set_cons_succ]
              refine btake 4 (oi := _) (v := ?_) (by simp only [getElem?_toArray, getElem?_cons_succ, getElem?_cons_zero]; rfl) (by kernel_rfl) (by exact fun _ _ _ h => h) (by first | assumption | exact KB.refl _) (.inl ⟨by rfl, fun W hW => ?_⟩) ?_; rotate_left
              · (go_simp; first | done | with_reducible rfl)
              try simp only [Act.put, List.setIfInBounds_toArray, List.set_cons_zero, List.set_cons_succ]
              refine btake 5 (oi := _) (v := ?_) (by simp only [getElem?_toArray, getElem?_cons_succ, getElem?_cons_zero]; rfl) (by kernel_rfl) (by exact fun _ _ _ h => h) (by first | assumption | exact KB.refl _) (.inl ⟨by rfl, fun W hW => ?_⟩) ?_; rotate_left
              · (go_simp; first | done | with_reducible rfl)
              try simp only [Act.put, List.setIfInBounds_toArray, List.set_cons_zero, List.set_cons_succ]
              refine btake 6 (oi := _) (v := ?_) (by simp only [getElem?_toArray, getElem?_cons_succ, getElem?_cons_zero]; rfl) (by kernel_rfl) (by exact fun _ _ _ h => h) (by first | assumption | exact KB.refl _) (.inl ⟨by rfl, fun W hW => ?_⟩) ?_; rotate_left
              · (go_simp; first | done | with_reducible rfl)
              try simp only [Act.put, List.setIfInBounds_toArray, List.set_cons_zero, List.set_cons_succ]
              refine btake 7 (oi := _) (v := ?_) (by simp only [getElem?_toArray, getElem?_cons_succ, getElem?_cons_zero]; rfl) (by kernel_rfl) (by exact fun _ _ _ h => h) (by first | assumption | exact KB.refl _) (.inl ⟨by rfl, fun W hW => ?_⟩) ?_; rotate_left
              · (go_simp; first | done | with_reducible rfl)
              try simp only [Act.put, List.setIfInBounds_toArray, List.set_cons_zero, List.set_cons_succ]
              refine btake 8 (oi := _) (v := ?_) (by simp only [getElem?_toArray, getElem?_cons_succ, getElem?_cons_zero]; rfl) (by kernel_rfl) (by exact fun _ _ _ h => h) (by first | assumption | exact KB.refl _) (.inl ⟨by rfl, fun W hW => ?_⟩) ?_; rotate_left
              · (go_simp; first | done | with_reducible rfl)
              try simp only [Act.put, List.setIfInBounds_toArray, List.set_cons_zero, List.set_cons_succ]
              refine btake 9 (oi := _) (v := ?_) (by simp only [getElem?_toArray, getElem?_cons_succ, getElem?_cons_zero]; rfl) (by kernel_rfl) (by exact fun _ _ _ h => h) (by first | assumption | exact KB.refl _) (.inl ⟨by rfl, fun W hW => ?_⟩) ?_; rotate_left
              · (go_simp; first | done | with_reducible rfl)
              try simp only [Act.put, List.setIfInBounds_toArray, List.set_cons_zero, List.set_cons_succ]
              refine btake 10 (oi := _) (v := ?_) (by simp only [getElem?_toArray, getElem?_cons_succ, getElem?_cons_zero]; rfl) (by kernel_rfl) (by exact fun _ _ _ h => h) (by first | assumption | exact KB.refl _) (.inl ⟨by rfl, fun W hW => ?_⟩) ?_; rotate_left
              · (go_simp; first | done | with_reducible rfl)
              try simp only [Act.put, List.setIfInBounds_toArray, List.set_cons_zero, List.set_cons_succ]
              refine btake 11 (oi := _) (v := ?_) (by simp only [getElem?_toArray, getElem?_cons_succ, getElem?_cons_zero]; rfl) (by kernel_rfl) (by exact fun _ _ _ h => h) (by first | assumption | exact KB.refl _) (.inl ⟨by rfl, fun W hW => ?_⟩) ?_; rotate_left
              · (go_simp; first | done | with_reducible rfl)
              try simp only [Act.put, List.setIfInBounds_toArray, List.set_cons_zero, List.set_cons_succ]
              refine btake 12 (oi := _) (v := ?_) (by simp only [getElem?_toArray, getElem?_cons_succ, getElem?_cons_zero]; rfl) (by kernel_rfl) (by exact fun _ _ _ h => h) (by first | assumption | exact KB.refl _) (.inl ⟨by rfl, fun W hW => ?_⟩) ?_; rotate_left
              · (go_simp; first | done | with_reducible rfl)
              try simp only [Act.put, List.setIfInBounds_toArray, List.set_cons_zero, List.set_cons_succ]
              refine btake 13 (oi := _) (v := ?_) (by simp only [getElem?_toArray, getElem?_cons_succ, getElem?_cons_zero]; rfl) (by kernel_rfl) (by exact fun _ _ _ h => h) (by first | assumption | exact KB.refl _) (.inl ⟨by rfl, fun W hW => ?_⟩) ?_; rotate_left
              · (go_simp; first | done | with_reducible rfl)
              try simp only [Act.put, List.setIfInBounds_toArray, List.set_cons_zero, List.set_cons_succ]
              refine btake 14 (oi := _) (v := ?_) (by simp only [getElem?_toArray, getElem?_cons_succ, getElem?_cons_zero]; rfl) (by kernel_rfl) (by exact fun _ _ _ h => h) (by first | assumption | exact KB.refl _) (.inl ⟨by rfl, fun W hW => ?_⟩) ?_; rotate_left
              · (go_simp; first | done | with_reducible rfl)
              try simp only [Act.put, List.setIfInBounds_toArray, List.set_cons_zero, List.set_cons_succ]
              refine bdone (by kernel_rfl) ?_
              have hbq := hbel1.drew
              have howq := how1.below (Below.refl _ _).drew
              have hstq := hst1.below (Below.refl _ _).drew
              generalize wr.drew = wq at hbq howq hstq ⊢
              have n0 := hstq.2.1
              have n1 := hstq.2.2.1
              have n2 := hstq.2.2.2.1
              have n3 := hstq.2.2.2.2
              obtain ⟨a', ha'⟩ : ∃ a', min x z.a = a' := ⟨_, rfl⟩
              obtain ⟨b', hb'⟩ : ∃ b', max y z.b = b' := ⟨_, rfl⟩
              have HAB := Lib.hid (show min x z.a = a' ∧ max y z.b = b' ∧ 1 ≤ a' ∧ a' ≤ b' ∧ b' ≤ 1099511627775 by
                omega)
              clear hzo m0 m1 q0 q1 f0 f1 d0 d1 how1 hst1 hbel1
              have hS0 : KB w.heap wq.drew := KB.of hbq.drew
              go_wp2_with fail
              refine bstartH (w.heap) (by kernel_rfl) ?_
              refine btake 0 (oi := _) (v := ?_) (by simp only [List.getElem?_toArray, List.getElem?_cons_zero]; rfl) (by kernel_rfl) (by exact fun _ _ _ h => h) (by first | assumption | exact KB.refl _ | exact kb0 _) (.inl ⟨by rfl, fun W hW => ?_⟩) ?_; rotate_left
              · (go_simp; first | done | with_reducible rfl)
              try simp only [Act.put, List.setIfInBounds_toArray, List.set_cons_zero, List.set_cons_succ]
              refine btake 2 (oi := _) (v := ?_) (by simp only [getElem?_toArray, getElem?_cons_succ, getElem?_cons_zero]; rfl) (by kernel_rfl) (by exact fun _ _ _ h => h) (by first | assumption | exact KB.refl _ | exact kb0 _) (.inl ⟨by rfl, fun W hW => ?_⟩) ?_; rotate_left
              · (go_simp; first | done | with_reducible rfl)
              try simp only [Act.put, List.setIfInBounds_toArray, List.set_cons_zero, List.set_cons_succ]
              refine btake 3 (oi := _) (v := ?_) (by simp only [getElem?_toArray, getElem?_cons_succ, getElem?_cons_zero]; rfl) (by kernel_rfl) (by exact fun _ _ _ h => h) (by first | assumption | exact KB.refl _ | exact kb0 _) (.inl ⟨by rfl, fun W hW => ?_⟩) ?_; rotate_left
              · (go_simp; first | done | with_reducible rfl)
              try simp only [Act.put, List.setIfInBounds_toArray, List.set_cons_zero, List.set_cons_succ]
              refine btake 4 (oi := _) (v := ?_) (by simp only [getElem?_toArray, getElem?_cons_succ, getElem?_cons_zero]; rfl) (by kernel_rfl) (by exact fun _ _ _ h => h) (by first | assumption | exact KB.refl _ | exact kb0 _) (.inl ⟨by rfl, fun W hW => ?_⟩) ?_; rotate_left
              · (go_simp; first | done | with_reducible rfl)
              try simp only [Act.put, List.setIfInBounds_toArray, List.set_cons_zero, List.set_cons_succ]
              refine btake 5 (oi := _) (v := ?_) (by simp only [getElem?_toArray, getElem?_cons_succ, getElem?_cons_zero]; rfl) (by kernel_rfl) (by exact fun _ _ _ h => h) (by first | assumption | exact KB.refl _ | exact kb0 _) (.inl ⟨by rfl, fun W hW => ?_⟩) ?_; rotate_left
              · (go_simp; first | done | with_reducible rfl)
              try simp only [Act.put, List.setIfInBounds_toArray, List.set_cons_zero, List.set_cons_succ]
              refine btake 6 (oi := _) (v := ?_) (by simp only [getElem?_toArray, getElem?_cons_succ, getElem?_cons_zero]; rfl) (by kernel_rfl) (by exact fun _ _ _ h => h) (by first | assumption | exact KB.refl _ | exact kb0 _) (.inl ⟨by rfl, fun W hW => ?_⟩) ?_; rotate_left
              · (go_simp; first | done | with_reducible rfl)
              try simp only [Act.put, List.setIfInBounds_toArray, List.set_cons_zero, List.set_cons_succ]
              refine btake 8 (oi := _) (v := ?_) (by simp only [getElem?_toArray, getElem?_cons_succ, getElem?_cons_zero]; rfl) (by kernel_rfl) (by exact fun _ _ _ h => h) (by first | assumption | exact KB.refl _ | exact kb0 _) (.inl ⟨by rfl, fun W hW => ?_⟩) ?_; rotate_left
              · (go_simp; first | done | with_reducible rfl)
              try simp only [Act.put, List.setIfInBounds_toArray, List.set_cons_zero, List.set_cons_succ]
              refine btake 10 (oi := _) (v := ?_) (by simp only [getElem?_toArray, getElem?_cons_succ, getElem?_cons_zero]; rfl) (by kernel_rfl) (by exact fun _ _ _ h => h) (by first | assumption | exact KB.refl _ | exact kb0 _) (.inl ⟨by rfl, fun W hW => ?_⟩) ?_; rotate_left
              · (go_simp; first | done | with_reducible rfl)
              try simp only [Act.put, List.setIfInBounds_toArray, List.set_cons_zero, List.set_cons_succ]
              refine btake 11 (oi := _) (v := ?_) (by simp only [getElem?_toArray, getElem?_cons_succ, getElem?_cons_zero]; rfl) (by kernel_rfl) (by exact fun _ _ _ h => h) (by first | assumption | exact KB.refl _ | exact kb0 _) (.inl ⟨by rfl, fun W hW => ?_⟩) ?_; rotate_left
              · (go_simp; first | done | with_reducible rfl)
              try simp only [Act.put, List.setIfInBounds_toArray, List.set_cons_zero, List.set_cons_succ]
              refine btake 12 (oi := _) (v := ?_) (by simp only [getElem?_toArray, getElem?_cons_succ, getElem?_cons_zero]; rfl) (by kernel_rfl) (by exact fun _ _ _ h => h) (by first | assumption | exact KB.refl _ | exact kb0 _) (.inl ⟨by rfl, fun W hW => ?_⟩) ?_; rotate_left
              · (go_simp; first | done | with_reducible rfl)
              try simp only [Act.put, List.setIfInBounds_toArray, List.set_cons_zero, List.set_cons_succ]
              refine btake 13 (oi := _) (v := ?_) (by simp only [getElem?_toArray, getElem?_cons_succ, getElem?_cons_zero]; rfl) (by kernel_rfl) (by exact fun _ _ _ h => h) (by first | assumption | exact KB.refl _ | exact kb0 _) (.inl ⟨by rfl, fun W hW => ?_⟩) ?_; rotate_left
              · (go_simp; first | done | with_reducible rfl)
              try simp only [Act.put, List.setIfInBounds_toArray, List.set_cons_zero, List.set_cons_succ]
              refine btake 14 (oi := _) (v := ?_) (by simp only [getElem?_toArray, getElem?_cons_succ, getElem?_cons_zero]; rfl) (by kernel_rfl) (by exact fun _ _ _ h => h) (by first | assumption | exact KB.refl _ | exact kb0 _) (.inl ⟨by rfl, fun W hW => ?_⟩) ?_; rotate_left
              · (go_simp; first | done | with_reducible rfl)
              try simp only [Act.put, List.setIfInBounds_toArray, List.set_cons_zero, List.set_cons_succ]
              refine bopH2 1 9 (oi := _) (oj := _) (by simp only [getElem?_toArray, getElem?_cons_succ, getElem?_cons_zero]; rfl) (by simp only [getElem?_toArray, getElem?_cons_succ, getElem?_cons_zero]; rfl) (by kernel_rfl) (by first | assumption | exact KB.refl _ | exact kb0 _) (by rfl) (by rfl) (fun K hK => ?_) (fun K hK => ?_)
              · -- 1: Op.load 2 (Operand.tmp 55)
                go_simp
                have hkb := hS0
                refine hK.out _ _ hkb ?_; clear hK K
                try simp only [Act.put, List.setIfInBounds_toArray, List.set_cons_zero, List.set_cons_succ]
                refine btake 7 (oi := _) (v := ?_) (by simp only [getElem?_toArray, getElem?_cons_succ, getElem?_cons_zero]; rfl) (by kernel_rfl) (by exact fun _ _ _ h => h) (by first | assumption | exact KB.refl _ | exact kb0 _) (.inl ⟨by rfl, fun W hW => ?_⟩) ?_; rotate_left
                · (go_simp; first | done | with_reducible rfl)
                try simp only [Act.put, List.setIfInBounds_toArray, List.set_cons_zero, List.set_cons_succ]
                -- 9: Op.load 2 (Operand.tmp 63)
                refine bopH 9 (o := _) (by simp only [getElem?_toArray, getElem?_cons_succ, getElem?_cons_zero]; rfl) (by kernel_rfl) (by first | assumption | exact KB.refl _ | exact kb0 _) (by rfl) (fun K hK => ?_)
                go_simp
                have hkb := hS0
                refine hK.out _ _ hkb ?_; clear hK K
                try simp only [Act.put, List.setIfInBounds_toArray, List.set_cons_zero, List.set_cons_succ]
                refine btake 15 (oi := _) (v := ?_) (by simp only [getElem?_toArray, getElem?_cons_succ, getElem?_cons_zero]; rfl) (by kernel_rfl) (by exact fun _ _ _ h => h) (by first | assumption | exact KB.refl _ | exact kb0 _) (.inl ⟨by rfl, fun W hW => ?_⟩) ?_; rotate_left
                · (go_simp; first | done | with_reducible rfl)
                try simp only [Act.put, List.setIfInBounds_toArray, List.set_cons_zero, List.set_cons_succ]
                refine btake 16 (oi := _) (v := ?_) (by simp only [getElem?_toArray, getElem?_cons_succ, getElem?_cons_zero]; rfl) (by kernel_rfl) (by exact fun _ _ _ h => h) (by first | assumption | exact KB.refl _ | exact kb0 _) (.inl ⟨by rfl, fun W hW => ?_⟩) ?_; rotate_left
                · (go_simp; first | done | with_reducible rfl)
                try simp only [Act.put, List.setIfInBounds_toArray, List.set_cons_zero, List.set_cons_succ]
                -- 17: Op.store 2 (Operand.tmp 71) (Operand.tmp 62)
                refine bopH 17 (o := _) (by simp only [getElem?_toArray, getElem?_cons_succ, getElem?_cons_zero]; rfl) (by kernel_rfl) (by first | assumption | exact KB.refl _ | exact kb0 _) (by rfl) (fun K hK => ?_)
                go_simp
                have hkb : KB w.heap (wq.setCell ⟨gb, 0, none⟩ (.int .i64 a')).drew := KB.of (hbq.setCell hgb _).drew
                refine hK.out _ _ hkb ?_; clear hK K
                try simp only [Act.put, List.setIfInBounds_toArray, List.set_cons_zero, List.set_cons_succ]
                refine btake 18 (oi := _) (v := ?_) (by simp only [getElem?_toArray, getElem?_cons_succ, getElem?_cons_zero]; rfl) (by kernel_rfl) (by exact fun _ _ _ h => h) (by first | assumption | exact KB.refl _ | exact kb0 _) (.inl ⟨by rfl, fun W hW => ?_⟩) ?_; rotate_left
                · (go_simp; first | done | with_reducible rfl)
                try simp only [Act.put, List.setIfInBounds_toArray, List.set_cons_zero, List.set_cons_succ]
                -- 19: Op.store 2 (Operand.tmp 72) (Operand.tmp 70)
                refine bopH 19 (o := _) (by simp only [getElem?_toArray, getElem?_cons_succ, getElem?_cons_zero]; rfl) (by kernel_rfl) (by first | assumption | exact KB.refl _ | exact kb0 _) (by rfl) (fun K hK => ?_)
                go_simp
                have hkb : KB w.heap ((wq.setCell ⟨gb, 0, none⟩ (.int .i64 a')).setCell ⟨gb, 1, none⟩ (.int .i64 b')).drew := KB.of ((hbq.setCell hgb _).setCell hgb _).drew
                refine hK.out _ _ hkb ?_; clear hK K
                try simp only [Act.put, List.setIfInBounds_toArray, List.set_cons_zero, List.set_cons_succ]
                refine bdone (by kernel_rfl) ?_
                have how9 := ownsRow_setCell_other (ownsRow_setCell_other howq (a := ⟨gb, 0, none⟩) hneO (.int .i64 a')) (a := ⟨gb, 1, none⟩) hneO (.int .i64 b')
                have hst9 := hstq.put ⟨a', b'⟩
                have hbq9 := ((hbq.setCell (p := ⟨gb, 0, none⟩) hgb (.int .i64 a')).setCell (p := ⟨gb, 1, none⟩) hgb (.int .i64 b')).drew
                clear c0 c1 n0 n1 n2 n3 ha' hb' hS0
                go_wp2_with fail
                go_roundw
                case rel => exact ⟨i + 1, a', b', by omega, by go_num, OwnR.below how9 (Below.refl _ _).drew, hst9.below (Below.refl _ _).drew, HAB.out.2.2.1, HAB.out.2.2.2.1, HAB.out.2.2.2.2, by rw [← HAB.out.1, ← HAB.out.2.1]; exact HM.out, hbq9⟩
                case measure => simp [intOf] <;> omega
              · -- 9: Op.load 2 (Operand.tmp 63)
                go_simp
                have hkb := hS0
                refine hK.out _ _ hkb ?_; clear hK K
                try simp only [Act.put, List.setIfInBounds_toArray, List.set_cons_zero, List.set_cons_succ]
                refine btake 15 (oi := _) (v := ?_) (by simp only [getElem?_toArray, getElem?_cons_succ, getElem?_cons_zero]; rfl) (by kernel_rfl) (by exact fun _ _ _ h => h) (by first | assumption | exact KB.refl _ | exact kb0 _) (.inl ⟨by rfl, fun W hW => ?_⟩) ?_; rotate_left
                · (go_simp; first | done | with_reducible rfl)
                try simp only [Act.put, List.setIfInBounds_toArray, List.set_cons_zero, List.set_cons_succ]
                -- 1: Op.load 2 (Operand.tmp 55)
                refine bopH 1 (o := _) (by simp only [getElem?_toArray, getElem?_cons_succ, getElem?_cons_zero]; rfl) (by kernel_rfl) (by first | assumption | exact KB.refl _ | exact kb0 _) (by rfl) (fun K hK => ?_)
                go_simp
                have hkb := hS0
                refine hK.out _ _ hkb ?_; clear hK K
                try simp only [Act.put, List.setIfInBounds_toArray, List.set_cons_zero, List.set_cons_succ]
                refine btake 7 (oi := _) (v := ?_) (by simp only [getElem?_toArray, getElem?_cons_succ, getElem?_cons_zero]; rfl) (by kernel_rfl) (by exact fun _ _ _ h => h) (by first | assumption | exact KB.refl _ | exact kb0 _) (.inl ⟨by rfl, fun W hW => ?_⟩) ?_; rotate_left
                · (go_simp; first | done | with_reducible rfl)
                try simp only [Act.put, List.setIfInBounds_toArray, List.set_cons_zero, List.set_cons_succ]
                refine btake 16 (oi := _) (v := ?_) (by simp only [getElem?_toArray, getElem?_cons_succ, getElem?_cons_zero]; rfl) (by kernel_rfl) (by exact fun _ _ _ h => h) (by first | assumption | exact KB.refl _ | exact kb0 _) (.inl ⟨by rfl, fun W hW => ?_⟩) ?_; rotate_left
                · (go_simp; first | done | with_reducible rfl)
                try simp only [Act.put, List.setIfInBounds_toArray, List.set_cons_zero, List.set_cons_succ]
                -- 17: Op.store 2 (Operand.tmp 71) (Operand.tmp 62)
                refine bopH 17 (o := _) (by simp only [getElem?_toArray, getElem?_cons_succ, getElem?_cons_zero]; rfl) (by kernel_rfl) (by first | assumption | exact KB.refl _ | exact kb0 _) (by rfl) (fun K hK => ?_)
                go_simp
                have hkb : KB w.heap (wq.setCell ⟨gb, 0, none⟩ (.int .i64 a')).drew := KB.of (hbq.setCell hgb _).drew
                refine hK.out _ _ hkb ?_; clear hK K
                try simp only [Act.put, List.setIfInBounds_toArray, List.set_cons_zero, List.set_cons_succ]
                refine btake 18 (oi := _) (v := ?_) (by simp only [getElem?_toArray, getElem?_cons_succ, getElem?_cons_zero]; rfl) (by kernel_rfl) (by exact fun _ _ _ h => h) (by first | assumption | exact KB.refl _ | exact kb0 _) (.inl ⟨by rfl, fun W hW => ?_⟩) ?_; rotate_left
                · (go_simp; first | done | with_reducible rfl)
                try simp only [Act.put, List.setIfInBounds_toArray, List.set_cons_zero, List.set_cons_succ]
                -- 19: Op.store 2 (Operand.tmp 72) (Operand.tmp 70)
                refine bopH 19 (o := _) (by simp only [getElem?_toArray, getElem?_cons_succ, getElem?_cons_zero]; rfl) (by kernel_rfl) (by first | assumption | exact KB.refl _ | exact kb0 _) (by rfl) (fun K hK => ?_)
                go_simp
                have hkb : KB w.heap ((wq.setCell ⟨gb, 0, none⟩ (.int .i64 a')).setCell ⟨gb, 1, none⟩ (.int .i64 b')).drew := KB.of ((hbq.setCell hgb _).setCell hgb _).drew
                refine hK.out _ _ hkb ?_; clear hK K
                try simp only [Act.put, List.setIfInBounds_toArray, List.set_cons_zero, List.set_cons_succ]
                refine bdone (by kernel_rfl) ?_
                have how9 := ownsRow_setCell_other (ownsRow_setCell_other howq (a := ⟨gb, 0, none⟩) hneO (.int .i64 a')) (a := ⟨gb, 1, none⟩) hneO (.int .i64 b')
                have hst9 := hstq.put ⟨a', b'⟩
                have hbq9 := ((hbq.setCell (p := ⟨gb, 0, none⟩) hgb (.int .i64 a')).setCell (p := ⟨gb, 1, none⟩) hgb (.int .i64 b')).drew
                clear c0 c1 n0 n1 n2 n3 ha' hb' hS0
                go_wp2_with fail
                go_roundw
                case rel => exact ⟨i + 1, a', b', by omega, by go_num, OwnR.below how9 (Below.refl _ _).drew, hst9.below (Below.refl _ _).drew, HAB.out.2.2.1, HAB.out.2.2.2.1, HAB.out.2.2.2.2, by rw [← HAB.out.1, ← HAB.out.2.1]; exact HM.out, hbq9⟩
                case measure => simp [intOf] <;> omega
            · have dz : decide (z.a ≤ y + 1) = false := by rw [decide_eq_false_iff_not]; exact hza
              have HST := Lib.hid (HSTz.out.resolve_left hza)
              clear hstep hza HSTz
              go_wp2_with fail
              refine bstart (by kernel_rfl) ?_
              refine btake 0 (oi := _) (v := ?_) (by simp only [List.getElem?_toArray, List.getElem?_cons_zero]; rfl) (by kernel_rfl) (by exact fun _ _ _ h => h) (by first | assumption | exact KB.refl _) (.inl ⟨by rfl, fun W hW => ?_⟩) ?_; rotate_left
              · (go_simp; first | done | with_reducible rfl)
              try simp only [Act.put, List.setIfInBounds_toArray, List.set_cons_zero, List.set_cons_succ]
              refine btake 1 (oi := _) (v := ?_) (by simp only [getElem?_toArray, getElem?_cons_succ, getElem?_cons_zero]; rfl) (by kernel_rfl) (by exact fun _ _ _ h => h) (by first | assumption | exact KB.refl _) (.inl ⟨by rfl, fun W hW => ?_⟩) ?_; rotate_left
              · (go_simp; first | done | with_reducible rfl)
              try simp only [Act.put, List.setIfInBounds_toArray, List.set_cons_zero, List.set_cons_succ]
              refine btake 2 (oi := _) (v := ?_) (by simp only [getElem?_toArray, getElem?_cons_succ, getElem?_cons_zero]; rfl) (by kernel_rfl) (by exact fun _ _ _ h => h) (by first | assumption | exact KB.refl _) (.inl ⟨by rfl, fun W hW => ?_⟩) ?_; rotate_left
              · (go_simp; first | done | with_reducible rfl)
              try simp only [Act.put, List.setIfInBounds_toArray, List.set_cons_zero, List.set_cons_succ]
              refine btake 3 (oi := _) (v := ?_) (by simp only [getElem?_toArray, getElem?_cons_succ, getElem?_cons_zero]; rfl) (by kernel_rfl) (by exact fun _ _ _ h => h) (by first | assumption | exact KB.refl _) (.inl ⟨by rfl, fun W hW => ?_⟩) ?_; rotate_left
              · (go_simp; first | done | with_reducible rfl)
              try simp only [Act.put, List.setIfInBounds_toArray, List.set_cons_zero, List.set_cons_succ]
              refine btake 4 (oi := _) (v := ?_) (by simp only [getElem?_toArray, getElem?_cons_succ, getElem?_cons_zero]; rfl) (by kernel_rfl) (by exact fun _ _ _ h => h) (by first | assumption | exact KB.refl _) (.inl ⟨by rfl, fun W hW => ?_⟩) ?_; rotate_left
              · (go_simp; first | done | with_reducible rfl)
              try simp only [Act.put, List.setIfInBounds_toArray, List.set_cons_zero, List.set_cons_succ]
              refine btake 5 (oi := _) (v := ?_) (by simp only [getElem?_toArray, getElem?_cons_succ, getElem?_cons_zero]; rfl) (by kernel_rfl) (by exact fun _ _ _ h => h) (by first | assumption | exact KB.refl _) (.inl ⟨by rfl, fun W hW => ?_⟩) ?_; rotate_left
              · (go_simp; first | done | with_reducible rfl)
              try simp only [Act.put, List.setIfInBounds_toArray, List.set_cons_zero, List.set_cons_succ]
              refine btake 6 (oi := _) (v := ?_) (by simp only [getElem?_toArray, getElem?_cons_succ, getElem?_cons_zero]; rfl) (by kernel_rfl) (by exact fun _ _ _ h => h) (by first | assumption | exact KB.refl _) (.inl ⟨by rfl, fun W hW => ?_⟩) ?_; rotate_left
              · (go_simp; first | done | with_reducible rfl)
              try simp only [Act.put, List.setIfInBounds_toArray, List.set_cons_zero, List.set_cons_succ]
              refine btake 7 (oi := _) (v := ?_) (by simp only [getElem?_toArray, getElem?_cons_succ, getElem?_cons_zero]; rfl) (by kernel_rfl) (by exact fun _ _ _ h => h) (by first | assumption | exact KB.refl _) (.inl ⟨by rfl, fun W hW => ?_⟩) ?_; rotate_left
              · (go_simp; first | done | with_reducible rfl)
              try simp only [Act.put, List.setIfInBounds_toArray, List.set_cons_zero, List.set_cons_succ]
              refine btake 8 (oi := _) (v := ?_) (by simp only [getElem?_toArray, getElem?_cons_succ, getElem?_cons_zero]; rfl) (by kernel_rfl) (by exact fun _ _ _ h => h) (by first | assumption | exact KB.refl _) (.inl ⟨by rfl, fun W hW => ?_⟩) ?_; rotate_left
              · (go_simp; first | done | with_reducible rfl)
              try simp only [Act.put, List.setIfInBounds_toArray, List.set_cons_zero, List.set_cons_succ]
              refine btake 9 (oi := _) (v := ?_) (by simp only [getElem?_toArray, getElem?_cons_succ, getElem?_cons_zero]; rfl) (by kernel_rfl) (by exact fun _ _ _ h => h) (by first | assumption | exact KB.refl _) (.inl ⟨by rfl, fun W hW => ?_⟩) ?_; rotate_left
              · (go_simp; first | done | with_reducible rfl)
              try simp only [Act.put, List.setIfInBounds_toArray, List.set_cons_zero, List.set_cons_succ]
              refine btake 10 (oi := _) (v := ?_) (by simp only [getElem?_toArray, getElem?_cons_succ, getElem?_cons_zero]; rfl) (by kernel_rfl) (by exact fun _ _ _ h => h) (by first | assumption | exact KB.refl _) (.inl ⟨by rfl, fun W hW => ?_⟩) ?_; rotate_left
              · (go_simp; first | done | with_reducible rfl)
              try simp only [Act.put, List.setIfInBounds_toArray, List.set_cons_zero, List.set_cons_succ]
              refine btake 11 (oi := _) (v := ?_) (by simp only [getElem?_toArray, getElem?_cons_succ, getElem?_cons_zero]; rfl) (by kernel_rfl) (by exact fun _ _ _ h => h) (by first | assumption | exact KB.refl _) (.inl ⟨by rfl, fun W hW => ?_⟩) ?_; rotate_left
              · (go_simp; first | done | with_reducible rfl)
              try simp only [Act.put, List.setIfInBounds_toArray, List.set_cons_zero, List.set_cons_succ]
              refine btake 12 (oi := _) (v := ?_) (by simp only [getElem?_toArray, getElem?_cons_succ, getElem?_cons_zero]; rfl) (by kernel_rfl) (by exact fun _ _ _ h => h) (by first | assumption | exact KB.refl _) (.inl ⟨by rfl, fun W hW => ?_⟩) ?_; rotate_left
              · (go_simp; first | done | with_reducible rfl)
              try simp only [Act.put, List.setIfInBounds_toArray, List.set_cons_zero, List.set_cons_succ]
              refine btake 13 (oi := _) (v := ?_) (by simp only [getElem?_toArray, getElem?_cons_succ, getElem?_cons_zero]; rfl) (by kernel_rfl) (by exact fun _ _ _ h => h) (by first | assumption | exact KB.refl _) (.inl ⟨by rfl, fun W hW => ?_⟩) ?_; rotate_left
              · (go_simp; first | done | with_reducible rfl)
              try simp only [Act.put, List.setIfInBounds_toArray, List.set_cons_zero, List.set_cons_succ]
              refine btake 14 (oi := _) (v := ?_) (by simp only [getElem?_toArray, getElem?_cons_succ, getElem?_cons_zero]; rfl) (by kernel_rfl) (by exact fun _ _ _ h => h) (by first | assumption | exact KB.refl _) (.inl ⟨by rfl, fun W hW => ?_⟩) ?_; rotate_left
              · (go_simp; first | done | with_reducible rfl)
              try simp only [Act.put, List.setIfInBounds_toArray, List.set_cons_zero, List.set_cons_succ]
              refine bdone (by kernel_rfl) ?_
              have hbq := hbel1.drew
              have howq := how1.below (Below.refl _ _).drew
              have hstq := hst1.below (Below.refl _ _).drew
              generalize wr.drew = wq at hbq howq hstq ⊢
              clear f0 f1 d0 d1 how1 hst1 hbel1
              have hq9 := merge_stop (l := l) (r := ⟨x, y⟩) (i := i) (by have h9 := HST.out; simp only at h9 ⊢; omega)
              rw [hq9] at hM
              have hadd9 := HADD.out
              rw [← hM] at hadd9
              obtain ⟨A2, hs2, hS2⟩ := sl_postR (some ⟨b2, o2, none⟩) n c i hi hc
              have hSq := hb.below hbq
              have hSd := hS2 wq w.heap.size l HN.out.1.symm hSq
              have hA0 : AtS gb [.int .i64 x, .int .i64 y] wq := stands_at hstq
              have e0 := AtS.e (g := gb) (vs := [.int .i64 x, .int .i64 y]) 0 rfl
              have e1 := AtS.e (g := gb) (vs := [.int .i64 x, .int .i64 y]) 1 rfl
              have how2 := howq.below ((Below.refl wq.heap.size wq).drew.alloc (Nat.le_refl _) (.cells #[.int .i64 x, .int .i64 y] 44))
              have hA2 := At.below hA0 ((Below.refl wq.heap.size wq).drew.alloc (Nat.le_refl _) (.cells #[.int .i64 x, .int .i64 y] 44))
              have hbx2 := hbq.drew.alloc hbq.size (.cells #[.int .i64 x, .int .i64 y] 44)
              have hsl2 := Sl.oneR wq.drew ⟨x, y⟩
              have hSd2 := hSd.below (((Below.refl wq.heap.size wq).drew.alloc (Nat.le_refl _) (.cells #[.int .i64 x, .int .i64 y] 44)).mono hbq.size)
              have hTL : (l.take i0).length ≤ 10000000 := by rw [List.length_take]; omega
              have hDL : (l.drop i).length = n - i := by rw [List.length_drop, ← HN.out.1] <;> omega
              have hneq := hneO
              clear hq9 hM hSq hSd HST hstq howq m0 m1 q0 q1
              go_wp2_with fail
              have hS0 : AtS gb [.int .i64 x, .int .i64 y] wq.drew := hA0.drew
              refine bstartS (AtS gb [.int .i64 x, .int .i64 y]) (by kernel_rfl) ?_
              refine btakeS 0 (oi := _) (v := ?_) (by simp only [List.getElem?_toArray, List.getElem?_cons_zero]; rfl) (by kernel_rfl) (by exact fun _ _ _ h => h) (by first | assumption | exact KB.refl _) (.inl ⟨by rfl, fun W hW => ?_⟩) ?_; rotate_left
              · (go_simp; first | done | with_reducible rfl)
              try simp only [Act.put, List.setIfInBounds_toArray, List.set_cons_zero, List.set_cons_succ]
              refine btakeS 1 (oi := _) (v := ?_) (by simp only [getElem?_toArray, getElem?_cons_succ, getElem?_cons_zero]; rfl) (by kernel_rfl) (by exact fun _ _ _ h => h) (by first | assumption | exact KB.refl _) (.inl ⟨by rfl, fun W hW => ?_⟩) ?_; rotate_left
              · (go_simp; first | done | with_reducible rfl)
              try simp only [Act.put, List.setIfInBounds_toArray, List.set_cons_zero, List.set_cons_succ]
              refine btakeS 4 (oi := _) (v := ?_) (by simp only [getElem?_toArray, getElem?_cons_succ, getElem?_cons_zero]; rfl) (by kernel_rfl) (by exact fun _ _ _ h => h) (by first | assumption | exact KB.refl _) (.inl ⟨by rfl, fun W hW => ?_⟩) ?_; rotate_left
              · (go_simp; first | done | with_reducible rfl)
              try simp only [Act.put, List.setIfInBounds_toArray, List.set_cons_zero, List.set_cons_succ]
              refine btakeS 5 (oi := _) (v := ?_) (by simp only [getElem?_toArray, getElem?_cons_succ, getElem?_cons_zero]; rfl) (by kernel_rfl) (by exact fun _ _ _ h => h) (by first | assumption | exact KB.refl _) (.inl ⟨by rfl, fun W hW => ?_⟩) ?_; rotate_left
              · (go_simp; first | done | with_reducible rfl)
              try simp only [Act.put, List.setIfInBounds_toArray, List.set_cons_zero, List.set_cons_succ]
              refine btakeS 6 (oi := _) (v := ?_) (by simp only [getElem?_toArray, getElem?_cons_succ, getElem?_cons_zero]; rfl) (by kernel_rfl) (by exact fun _ _ _ h => h) (by first | assumption | exact KB.refl _) (.inl ⟨by rfl, fun W hW => ?_⟩) ?_; rotate_left
              · refine exec_postR (x := .tmp 79) (y := .tmp 80) (A := some ⟨b2, o2, none⟩) (m := n) (c := c) (j := i) ?_ ?_ ?_ hs2 _ <;> rfl
              try simp only [Act.put, List.setIfInBounds_toArray, List.set_cons_zero, List.set_cons_succ]
              -- 2: Op.buildSlice 40 1 #[(0, Operand.tmp 76)]
              refine bopS 2 (o := _) (by simp only [getElem?_toArray, getElem?_cons_succ, getElem?_cons_zero]; rfl) (by kernel_rfl) (by rfl) (fun K hK => ?_)
              go_simp
              have hkb : AtS gb [.int .i64 x, .int .i64 y] (wq.drew.alloc (.cells #[.int .i64 x, .int .i64 y] 44)) := hA2
              refine hK.out _ _ hkb ?_; clear hK K
              try simp only [Act.put, List.setIfInBounds_toArray, List.set_cons_zero, List.set_cons_succ]
              -- 3: Op.call { callee := Callee.builtin Builtin.append, args := #[Operand.tmp 75, Operand.tmp 77], argTypes := #[40, 40] }
              refine bopS 3 (o := _) (by simp only [getElem?_toArray, getElem?_cons_succ, getElem?_cons_zero]; rfl) (by kernel_rfl) (by rfl) (fun K hK => ?_)
              refine wp_appR rfl how2 hsl2 rfl rfl rfl (by rw [List.length_singleton]; omega) hbx2.size ?_
              intro v7 w7 h7 hg7 hat7
              have hb7 := own_belowR hbx2 hbx2.size how2 hg7
              have hA7 : At w7 gb [.int .i64 x, .int .i64 y] := At.grown hA2 hg7 hneq
              have hkb : AtS gb [.int .i64 x, .int .i64 y] w7 := hA7
              have hne7 : v7.ownBlock ≠ some gb := by
                rcases hat7 with h | h
                · rw [h]; exact hneq
                · rw [h]; intro e; injection e with e; have h1 := hA0.1; simp at e; omega
              refine hK.out _ _ hkb ?_; clear hK K
              try simp only [Act.put, List.setIfInBounds_toArray, List.set_cons_zero, List.set_cons_succ]
              -- 7: Op.call { callee := Callee.builtin Builtin.append, args := #[Operand.tmp 78, Operand.tmp 81], argTypes := #[40, 40] }
              refine bopS 7 (o := _) (by simp only [getElem?_toArray, getElem?_cons_succ, getElem?_cons_zero]; rfl) (by kernel_rfl) (by rfl) (fun K hK => ?_)
              refine wp_appR rfl h7 (hSd2.grown hg7 (fun g e => (how2.lt g e).1)) hDL.symm rfl rfl (by rw [hDL, List.length_append, List.length_singleton]; omega) hb7.size ?_
              intro v8 w8 h8 hg8 hat8
              have hb8 := own_belowR hb7 hb7.size h7 hg8
              have hkb : AtS gb [.int .i64 x, .int .i64 y] w8 := At.grown hA7 hg8 hne7
              refine hK.out _ _ hkb ?_; clear hK K
              try simp only [Act.put, List.setIfInBounds_toArray, List.set_cons_zero, List.set_cons_succ]
              refine btakeS 8 (oi := _) (v := ?_) (by simp only [getElem?_toArray, getElem?_cons_succ, getElem?_cons_zero]; rfl) (by kernel_rfl) (by exact fun _ _ _ h => h) (by first | assumption | exact KB.refl _) (.inl ⟨by rfl, fun W hW => ?_⟩) ?_; rotate_left
              · (go_simp; first | done | with_reducible rfl)
              try simp only [Act.put, List.setIfInBounds_toArray, List.set_cons_zero, List.set_cons_succ]
              refine bdoneS (by kernel_rfl) ?_
              clear hkb e0 e1 hS0 hA0
              have hb9 := hb8
              rw [List.append_assoc, List.singleton_append, ← hadd9] at h8
              clear hadd9
              go_wp2_with fail
              go_ret
              exact RAns.of h8 hb9

          · obtain rfl : i = n := by omega
            have hdi : decide ((i : Int) < (i : Int)) = false := by rw [decide_eq_false_iff_not]; omega
            have HST := Lib.hid (show i = l.length ∨ i < l.length ∧ ¬ (l[i]?.getD ⟨0, 0⟩).a ≤ (⟨x, y⟩ : Rg).b + 1 from .inl HN.out.1)
            go_wp2_with fail
            refine bstart (by kernel_rfl) ?_
            refine btake 0 (oi := _) (v := ?_) (by simp only [List.getElem?_toArray, List.getElem?_cons_zero]; rfl) (by kernel_rfl) (by exact fun _ _ _ h => h) (by first | assumption | exact KB.refl _) (.inl ⟨by rfl, fun W hW => ?_⟩) ?_; rotate_left
            · (go_simp; first | done | with_reducible rfl)
            try simp only [Act.put, List.setIfInBounds_toArray, List.set_cons_zero, List.set_cons_succ]
            refine btake 1 (oi := _) (v := ?_) (by simp only [getElem?_toArray, getElem?_cons_succ, getElem?_cons_zero]; rfl) (by kernel_rfl) (by exact fun _ _ _ h => h) (by first | assumption | exact KB.refl _) (.inl ⟨by rfl, fun W hW => ?_⟩) ?_; rotate_left
            · (go_simp; first | done | with_reducible rfl)
            try simp only [Act.put, List.setIfInBounds_toArray, List.set_cons_zero, List.set_cons_succ]
            refine btake 2 (oi := _) (v := ?_) (by simp only [getElem?_toArray, getElem?_cons_succ, getElem?_cons_zero]; rfl) (by kernel_rfl) (by exact fun _ _ _ h => h) (by first | assumption | exact KB.refl _) (.inl ⟨by rfl, fun W hW => ?_⟩) ?_; rotate_left
            · (go_simp; first | done | with_reducible rfl)
            try simp only [Act.put, List.setIfInBounds_toArray, List.set_cons_zero, List.set_cons_succ]
            refine btake 3 (oi := _) (v := ?_) (by simp only [getElem?_toArray, getElem?_cons_succ, getElem?_cons_zero]; rfl) (by kernel_rfl) (by exact fun _ _ _ h => h) (by first | assumption | exact KB.refl _) (.inl ⟨by rfl, fun W hW => ?_⟩) ?_; rotate_left
            · (go_simp; first | done | with_reducible rfl)
            try simp only [Act.put, List.setIfInBounds_toArray, List.set_cons_zero, List.set_cons_succ]
            refine btake 4 (oi := _) (v := ?_) (by simp only [getElem?_toArray, getElem?_cons_succ, getElem?_cons_zero]; rfl) (by kernel_rfl) (by exact fun _ _ _ h => h) (by first | assumption | exact KB.refl _) (.inl ⟨by rfl, fun W hW => ?_⟩) ?_; rotate_left
            · (go_simp; first | done | with_reducible rfl)
            try simp only [Act.put, List.setIfInBounds_toArray, List.set_cons_zero, List.set_cons_succ]
            refine btake 5 (oi := _) (v := undef) (by simp only [getElem?_toArray, getElem?_cons_succ, getElem?_cons_zero]; rfl) (by kernel_rfl) (by exact fun _ _ _ h => h) (by first | assumption | exact KB.refl _) (.inr ⟨by rfl, rfl⟩) ?_
            try simp only [Act.put, List.setIfInBounds_toArray, List.set_cons_zero, List.set_cons_succ]
            refine btake 6 (oi := _) (v := undef) (by simp only [getElem?_toArray, getElem?_cons_succ, getElem?_cons_zero]; rfl) (by kernel_rfl) (by exact fun _ _ _ h => h) (by first | assumption | exact KB.refl _) (.inr ⟨by rfl, rfl⟩) ?_
            try simp only [Act.put, List.setIfInBounds_toArray, List.set_cons_zero, List.set_cons_succ]
            refine btake 7 (oi := _) (v := undef) (by simp only [getElem?_toArray, getElem?_cons_succ, getElem?_cons_zero]; rfl) (by kernel_rfl) (by exact fun _ _ _ h => h) (by first | assumption | exact KB.refl _) (.inr ⟨by rfl, rfl⟩) ?_
            try simp only [Act.put, List.setIfInBounds_toArray, List.set_cons_zero, List.set_cons_succ]
            refine btake 8 (oi := _) (v := undef) (by simp only [getElem?_toArray, getElem?_cons_succ, getElem?_cons_zero]; rfl) (by kernel_rfl) (by exact fun _ _ _ h => h) (by first | assumption | exact KB.refl _) (.inr ⟨by rfl, rfl⟩) ?_
            try simp only [Act.put, List.setIfInBounds_toArray, List.set_cons_zero, List.set_cons_succ]
            refine btake 9 (oi := _) (v := undef) (by simp only [getElem?_toArray, getElem?_cons_succ, getElem?_cons_zero]; rfl) (by kernel_rfl) (by exact fun _ _ _ h => h) (by first | assumption | exact KB.refl _) (.inr ⟨by rfl, rfl⟩) ?_
            try simp only [Act.put, List.setIfInBounds_toArray, List.set_cons_zero, List.set_cons_succ]
            refine btake 10 (oi := _) (v := undef) (by simp only [getElem?_toArray, getElem?_cons_succ, getElem?_cons_zero]; rfl) (by kernel_rfl) (by exact fun _ _ _ h => h) (by first | assumption | exact KB.refl _) (.inr ⟨by rfl, rfl⟩) ?_
            try simp only [Act.put, List.setIfInBounds_toArray, List.set_cons_zero, List.set_cons_succ]
            refine btake 11 (oi := _) (v := undef) (by simp only [getElem?_toArray, getElem?_cons_succ, getElem?_cons_zero]; rfl) (by kernel_rfl) (by exact fun _ _ _ h => h) (by first | assumption | exact KB.refl _) (.inr ⟨by rfl, rfl⟩) ?_
            try simp only [Act.put, List.setIfInBounds_toArray, List.set_cons_zero, List.set_cons_succ]
            refine btake 12 (oi := _) (v := undef) (by simp only [getElem?_toArray, getElem?_cons_succ, getElem?_cons_zero]; rfl) (by kernel_rfl) (by exact fun _ _ _ h => h) (by first | assumption | exact KB.refl _) (.inr ⟨by rfl, rfl⟩) ?_
            try simp only [Act.put, List.setIfInBounds_toArray, List.set_cons_zero, List.set_cons_succ]
            refine btake 13 (oi := _) (v := undef) (by simp only [getElem?_toArray, getElem?_cons_succ, getElem?_cons_zero]; rfl) (by kernel_rfl) (by exact fun _ _ _ h => h) (by first | assumption | exact KB.refl _) (.inr ⟨by rfl, rfl⟩) ?_
            try simp only [Act.put, List.setIfInBounds_toArray, List.set_cons_zero, List.set_cons_succ]
            refine btake 14 (oi := _) (v := ?_) (by simp only [getElem?_toArray, getElem?_cons_succ, getElem?_cons_zero]; rfl) (by kernel_rfl) (by exact fun _ _ _ h => h) (by first | assumption | exact KB.refl _) (.inl ⟨by rfl, fun W hW => ?_⟩) ?_; rotate_left
            · (go_simp; first | done | with_reducible rfl)
            try simp only [Act.put, List.setIfInBounds_toArray, List.set_cons_zero, List.set_cons_succ]
            refine bdone (by kernel_rfl) ?_
            have hbq := hbel1.drew
            have howq := how1.below (Below.refl _ _).drew
            have hstq := hst1.below (Below.refl _ _).drew
            generalize wr.drew = wq at hbq howq hstq ⊢
            clear how1 hst1 hbel1
            have hq9 := merge_stop (l := l) (r := ⟨x, y⟩) (i := i) (by have h9 := HST.out; simp only at h9 ⊢; omega)
            rw [hq9] at hM
            have hadd9 := HADD.out
            rw [← hM] at hadd9
            obtain ⟨A2, hs2, hS2⟩ := sl_postR (some ⟨b2, o2, none⟩) i c i hi hc
            have hSq := hb.below hbq
            have hSd := hS2 wq w.heap.size l HN.out.1.symm hSq
            have hA0 : AtS gb [.int .i64 x, .int .i64 y] wq := stands_at hstq
            have e0 := AtS.e (g := gb) (vs := [.int .i64 x, .int .i64 y]) 0 rfl
            have e1 := AtS.e (g := gb) (vs := [.int .i64 x, .int .i64 y]) 1 rfl
            have how2 := howq.below ((Below.refl wq.heap.size wq).drew.alloc (Nat.le_refl _) (.cells #[.int .i64 x, .int .i64 y] 44))
            have hA2 := At.below hA0 ((Below.refl wq.heap.size wq).drew.alloc (Nat.le_refl _) (.cells #[.int .i64 x, .int .i64 y] 44))
            have hbx2 := hbq.drew.alloc hbq.size (.cells #[.int .i64 x, .int .i64 y] 44)
            have hsl2 := Sl.oneR wq.drew ⟨x, y⟩
            have hSd2 := hSd.below (((Below.refl wq.heap.size wq).drew.alloc (Nat.le_refl _) (.cells #[.int .i64 x, .int .i64 y] 44)).mono hbq.size)
            have hTL : (l.take i0).length ≤ 10000000 := by rw [List.length_take]; omega
            have hDL : (l.drop i).length = 0 := by rw [List.length_drop, ← HN.out.1] <;> omega
            have hneq := hneO
            clear hq9 hM hSq hSd HST hstq howq m0 m1 q0 q1
            go_wp2_with fail
            have hS0 : AtS gb [.int .i64 x, .int .i64 y] wq.drew := hA0.drew
            refine bstartS (AtS gb [.int .i64 x, .int .i64 y]) (by kernel_rfl) ?_
            refine btakeS 0 (oi := _) (v := ?_) (by simp only [List.getElem?_toArray, List.getElem?_cons_zero]; rfl) (by kernel_rfl) (by exact fun _ _ _ h => h) (by first | assumption | exact KB.refl _) (.inl ⟨by rfl, fun W hW => ?_⟩) ?_; rotate_left
            · (go_simp; first | done | with_reducible rfl)
            try simp only [Act.put, List.setIfInBounds_toArray, List.set_cons_zero, List.set_cons_succ]
            refine btakeS 1 (oi := _) (v := ?_) (by simp only [getElem?_toArray, getElem?_cons_succ, getElem?_cons_zero]; rfl) (by kernel_rfl) (by exact fun _ _ _ h => h) (by first | assumption | exact KB.refl _) (.inl ⟨by rfl, fun W hW => ?_⟩) ?_; rotate_left
            · (go_simp; first | done | with_reducible rfl)
            try simp only [Act.put, List.setIfInBounds_toArray, List.set_cons_zero, List.set_cons_succ]
            refine btakeS 4 (oi := _) (v := ?_) (by simp only [getElem?_toArray, getElem?_cons_succ, getElem?_cons_zero]; rfl) (by kernel_rfl) (by exact fun _ _ _ h => h) (by first | assumption | exact KB.refl _) (.inl ⟨by rfl, fun W hW => ?_⟩) ?_; rotate_left
            · (go_simp; first | done | with_reducible rfl)
            try simp only [Act.put, List.setIfInBounds_toArray, List.set_cons_zero, List.set_cons_succ]
            refine btakeS 5 (oi := _) (v := ?_) (by simp only [getElem?_toArray, getElem?_cons_succ, getElem?_cons_zero]; rfl) (by kernel_rfl) (by exact fun _ _ _ h => h) (by first | assumption | exact KB.refl _) (.inl ⟨by rfl, fun W hW => ?_⟩) ?_; rotate_left
            · (go_simp; first | done | with_reducible rfl)
            try simp only [Act.put, List.setIfInBounds_toArray, List.set_cons_zero, List.set_cons_succ]
            refine btakeS 6 (oi := _) (v := ?_) (by simp only [getElem?_toArray, getElem?_cons_succ, getElem?_cons_zero]; rfl) (by kernel_rfl) (by exact fun _ _ _ h => h) (by first | assumption | exact KB.refl _) (.inl ⟨by rfl, fun W hW => ?_⟩) ?_; rotate_left
            · refine exec_postR (x := .tmp 79) (y := .tmp 80) (A := some ⟨b2, o2, none⟩) (m := i) (c := c) (j := i) ?_ ?_ ?_ hs2 _ <;> rfl
            try simp only [Act.put, List.setIfInBounds_toArray, List.set_cons_zero, List.set_cons_succ]
            -- 2: Op.buildSlice 40 1 #[(0, Operand.tmp 76)]
            refine bopS 2 (o := _) (by simp only [getElem?_toArray, getElem?_cons_succ, getElem?_cons_zero]; rfl) (by kernel_rfl) (by rfl) (fun K hK => ?_)
            go_simp
            have hkb : AtS gb [.int .i64 x, .int .i64 y] (wq.drew.alloc (.cells #[.int .i64 x, .int .i64 y] 44)) := hA2
            refine hK.out _ _ hkb ?_; clear hK K
            try simp only [Act.put, List.setIfInBounds_toArray, List.set_cons_zero, List.set_cons_succ]
            -- 3: Op.call { callee := Callee.builtin Builtin.append, args := #[Operand.tmp 75, Operand.tmp 77], argTypes := #[40, 40] }
            refine bopS 3 (o := _) (by simp only [getElem?_toArray, getElem?_cons_succ, getElem?_cons_zero]; rfl) (by kernel_rfl) (by rfl) (fun K hK => ?_)
            refine wp_appR rfl how2 hsl2 rfl rfl rfl (by rw [List.length_singleton]; omega) hbx2.size ?_
            intro v7 w7 h7 hg7 hat7
            have hb7 := own_belowR hbx2 hbx2.size how2 hg7
            have hA7 : At w7 gb [.int .i64 x, .int .i64 y] := At.grown hA2 hg7 hneq
            have hkb : AtS gb [.int .i64 x, .int .i64 y] w7 := hA7
            have hne7 : v7.ownBlock ≠ some gb := by
              rcases hat7 with h | h
              · rw [h]; exact hneq
              · rw [h]; intro e; injection e with e; have h1 := hA0.1; simp at e; omega
            refine hK.out _ _ hkb ?_; clear hK K
            try simp only [Act.put, List.setIfInBounds_toArray, List.set_cons_zero, List.set_cons_succ]
            -- 7: Op.call { callee := Callee.builtin Builtin.append, args := #[Operand.tmp 78, Operand.tmp 81], argTypes := #[40, 40] }
            refine bopS 7 (o := _) (by simp only [getElem?_toArray, getElem?_cons_succ, getElem?_cons_zero]; rfl) (by kernel_rfl) (by rfl) (fun K hK => ?_)
            refine wp_appR rfl h7 (hSd2.grown hg7 (fun g e => (how2.lt g e).1)) hDL.symm rfl rfl (by rw [hDL, List.length_append, List.length_singleton]; omega) hb7.size ?_
            intro v8 w8 h8 hg8 hat8
            have hb8 := own_belowR hb7 hb7.size h7 hg8
            have hkb : AtS gb [.int .i64 x, .int .i64 y] w8 := At.grown hA7 hg8 hne7
            refine hK.out _ _ hkb ?_; clear hK K
            try simp only [Act.put, List.setIfInBounds_toArray, List.set_cons_zero, List.set_cons_succ]
            refine btakeS 8 (oi := _) (v := ?_) (by simp only [getElem?_toArray, getElem?_cons_succ, getElem?_cons_zero]; rfl) (by kernel_rfl) (by exact fun _ _ _ h => h) (by first | assumption | exact KB.refl _) (.inl ⟨by rfl, fun W hW => ?_⟩) ?_; rotate_left
            · (go_simp; first | done | with_reducible rfl)
            try simp only [Act.put, List.setIfInBounds_toArray, List.set_cons_zero, List.set_cons_succ]
            refine bdoneS (by kernel_rfl) ?_
            clear hkb e0 e1 hS0 hA0
            have hb9 := hb8
            rw [List.append_assoc, List.singleton_append, ← hadd9] at h8
            clear hadd9
            go_wp2_with fail
            go_ret
            exact RAns.of h8 hb9

    · obtain rfl : i0 = n := by omega
      have hdi : decide ((i0 : Int) < (i0 : Int)) = false := by rw [decide_eq_false_iff_not]; omega
      have HEX := Lib.hid (show i0 = l.length ∨ ¬ (l[i0]?.getD ⟨0, 0⟩).b < r.a - 1 from .inl HN.out.1)
      go_wp2_with fail
      refine bstart (by kernel_rfl) ?_
      refine btake 0 (oi := _) (v := ?_) (by simp only [List.getElem?_toArray, List.getElem?_cons_zero]; rfl) (by kernel_rfl) (by exact fun _ _ _ h => h) (by first | assumption | exact KB.refl _) (.inl ⟨by rfl, fun W hW => ?_⟩) ?_; rotate_left
      · (go_simp; first | done | with_reducible rfl)
      try simp only [Act.put, List.setIfInBounds_toArray, List.set_cons_zero, List.set_cons_succ]
      refine btake 1 (oi := _) (v := ?_) (by simp only [getElem?_toArray, getElem?_cons_succ, getElem?_cons_zero]; rfl) (by kernel_rfl) (by exact fun _ _ _ h => h) (by first | assumption | exact KB.refl _) (.inl ⟨by rfl, fun W hW => ?_⟩) ?_; rotate_left
      · (go_simp; first | done | with_reducible rfl)
      try simp only [Act.put, List.setIfInBounds_toArray, List.set_cons_zero, List.set_cons_succ]
      refine btake 2 (oi := _) (v := ?_) (by simp only [getElem?_toArray, getElem?_cons_succ, getElem?_cons_zero]; rfl) (by kernel_rfl) (by exact fun _ _ _ h => h) (by first | assumption | exact KB.refl _) (.inl ⟨by rfl, fun W hW => ?_⟩) ?_; rotate_left
      · (go_simp; first | done | with_reducible rfl)
      try simp only [Act.put, List.setIfInBounds_toArray, List.set_cons_zero, List.set_cons_succ]
      refine btake 3 (oi := _) (v := ?_) (by simp only [getElem?_toArray, getElem?_cons_succ, getElem?_cons_zero]; rfl) (by kernel_rfl) (by exact fun _ _ _ h => h) (by first | assumption | exact KB.refl _) (.inl ⟨by rfl, fun W hW => ?_⟩) ?_; rotate_left
      · (go_simp; first | done | with_reducible rfl)
      try simp only [Act.put, List.setIfInBounds_toArray, List.set_cons_zero, List.set_cons_succ]
      refine btake 4 (oi := _) (v := ?_) (by simp only [getElem?_toArray, getElem?_cons_succ, getElem?_cons_zero]; rfl) (by kernel_rfl) (by exact fun _ _ _ h => h) (by first | assumption | exact KB.refl _) (.inl ⟨by rfl, fun W hW => ?_⟩) ?_; rotate_left
      · (go_simp; first | done | with_reducible rfl)
      try simp only [Act.put, List.setIfInBounds_toArray, List.set_cons_zero, List.set_cons_succ]
      refine btake 5 (oi := _) (v := undef) (by simp only [getElem?_toArray, getElem?_cons_succ, getElem?_cons_zero]; rfl) (by kernel_rfl) (by exact fun _ _ _ h => h) (by first | assumption | exact KB.refl _) (.inr ⟨by rfl, rfl⟩) ?_
      try simp only [Act.put, List.setIfInBounds_toArray, List.set_cons_zero, List.set_cons_succ]
      refine btake 6 (oi := _) (v := undef) (by simp only [getElem?_toArray, getElem?_cons_succ, getElem?_cons_zero]; rfl) (by kernel_rfl) (by exact fun _ _ _ h => h) (by first | assumption | exact KB.refl _) (.inr ⟨by rfl, rfl⟩) ?_
      try simp only [Act.put, List.setIfInBounds_toArray, List.set_cons_zero, List.set_cons_succ]
      refine btake 7 (oi := _) (v := undef) (by simp only [getElem?_toArray, getElem?_cons_succ, getElem?_cons_zero]; rfl) (by kernel_rfl) (by exact fun _ _ _ h => h) (by first | assumption | exact KB.refl _) (.inr ⟨by rfl, rfl⟩) ?_
      try simp only [Act.put, List.setIfInBounds_toArray, List.set_cons_zero, List.set_cons_succ]
      refine btake 8 (oi := _) (v := undef) (by simp only [getElem?_toArray, getElem?_cons_succ, getElem?_cons_zero]; rfl) (by kernel_rfl) (by exact fun _ _ _ h => h) (by first | assumption | exact KB.refl _) (.inr ⟨by rfl, rfl⟩) ?_
      try simp only [Act.put, List.setIfInBounds_toArray, List.set_cons_zero, List.set_cons_succ]
      refine btake 9 (oi := _) (v := undef) (by simp only [getElem?_toArray, getElem?_cons_succ, getElem?_cons_zero]; rfl) (by kernel_rfl) (by exact fun _ _ _ h => h) (by first | assumption | exact KB.refl _) (.inr ⟨by rfl, rfl⟩) ?_
      try simp only [Act.put, List.setIfInBounds_toArray, List.set_cons_zero, List.set_cons_succ]
      refine btake 10 (oi := _) (v := undef) (by simp only [getElem?_toArray, getElem?_cons_succ, getElem?_cons_zero]; rfl) (by kernel_rfl) (by exact fun _ _ _ h => h) (by first | assumption | exact KB.refl _) (.inr ⟨by rfl, rfl⟩) ?_
      try simp only [Act.put, List.setIfInBounds_toArray, List.set_cons_zero, List.set_cons_succ]
      refine btake 11 (oi := _) (v := undef) (by simp only [getElem?_toArray, getElem?_cons_succ, getElem?_cons_zero]; rfl) (by kernel_rfl) (by exact fun _ _ _ h => h) (by first | assumption | exact KB.refl _) (.inr ⟨by rfl, rfl⟩) ?_
      try simp only [Act.put, List.setIfInBounds_toArray, List.set_cons_zero, List.set_cons_succ]
      refine btake 12 (oi := _) (v := undef) (by simp only [getElem?_toArray, getElem?_cons_succ, getElem?_cons_zero]; rfl) (by kernel_rfl) (by exact fun _ _ _ h => h) (by first | assumption | exact KB.refl _) (.inr ⟨by rfl, rfl⟩) ?_
      try simp only [Act.put, List.setIfInBounds_toArray, List.set_cons_zero, List.set_cons_succ]
      refine btake 13 (oi := _) (v := undef) (by simp only [getElem?_toArray, getElem?_cons_succ, getElem?_cons_zero]; rfl) (by kernel_rfl) (by exact fun _ _ _ h => h) (by first | assumption | exact KB.refl _) (.inr ⟨by rfl, rfl⟩) ?_
      try simp only [Act.put, List.setIfInBounds_toArray, List.set_cons_zero, List.set_cons_succ]
      refine btake 14 (oi := _) (v := ?_) (by simp only [getElem?_toArray, getElem?_cons_succ, getElem?_cons_zero]; rfl) (by kernel_rfl) (by exact fun _ _ _ h => h) (by first | assumption | exact KB.refl _) (.inl ⟨by rfl, fun W hW => ?_⟩) ?_; rotate_left
      · (go_simp; first | done | with_reducible rfl)
      try simp only [Act.put, List.setIfInBounds_toArray, List.set_cons_zero, List.set_cons_succ]
      refine bdone (by kernel_rfl) ?_
      replace hbel := hbel.drew
      replace hown := hown.below (Below.refl _ _).drew
      replace hst := hst.below (Below.refl _ _).drew
      generalize wr.drew = wq at hbel hown hst ⊢
      clear q0
      have hadd := add_at l r i0 (by have := HN.out.1; omega) hall (by have h9 := HEX.out; omega)
      have hlow : w.heap.size ≤ gb := hgb
      obtain ⟨M, hM0⟩ : ∃ M, mergeR (l.drop i0) r = M := ⟨_, rfl⟩
      rw [hM0] at hadd
      have HADD := Lib.hid hadd
      have hneO := hne
      clear hadd hall HEX hne
      go_wp2_with fail
      go_loopw [6] (fun x6 wr => ∃ (i : Nat) (x y : Int), i ≤ i0 ∧ x6 = .int .i64 (i : Int) ∧ OwnR wr w.heap.size x5 (l.take i0) ∧ StandsR wr gb ⟨x, y⟩ ∧ 1 ≤ x ∧ x ≤ y ∧ y ≤ 1099511627775 ∧ mergeR (l.drop i) ⟨x, y⟩ = M ∧ Below w.heap.size w wr) (fun x6 _ => i0 - (intOf x6).toNat)
      case atStart => exact ⟨i0, r.a, r.b, by omega, rfl, hown, hst, r1, r2, r3, hM0, hbel⟩
      case round =>
        clear hown hst hbel hM0
        obtain ⟨i, x, y, hi, rfl, how1, hst1, x1, x2, x3, hM, hbel1⟩ := hrel
        have m0 := hst1.2.1
        have m1 := hst1.2.2.1
        have q0 := cellB m0
        have q1 := cellB m1
        by_cases hli : i < i0
        · have hil : i < l.length := by have := HN.out.1; omega
          obtain ⟨b2, o2, hA2, _, hb2W, d0, d1⟩ := rgAt hb hil
          have c0 := cellB d0
          have c1 := cellB d1
          have hzo := ok_iff.1 (HN.out.2 _ (List.getElem_mem hil))
          rw [show l[i] = l[i]?.getD ⟨0, 0⟩ by rw [List.getElem?_eq_getElem hil]; rfl] at hzo
          unfold mx at hzo
          have hstep := merge_step (r := ⟨x, y⟩) hil
          have hst9 : i < l.length ∧ ¬ (l[i]?.getD ⟨0, 0⟩).a ≤ (⟨x, y⟩ : Rg).b + 1 ∨ (l[i]?.getD ⟨0, 0⟩).a ≤ y + 1 := by
            by_cases h : (l[i]?.getD ⟨0, 0⟩).a ≤ y + 1
            · exact .inr h
            · exact .inl ⟨hil, h⟩
          have HST := Lib.hid (show (l[i]?.getD ⟨0, 0⟩).a ≤ y + 1 ∨ (i = l.length ∨ i < l.length ∧ ¬ (l[i]?.getD ⟨0, 0⟩).a ≤ (⟨x, y⟩ : Rg).b + 1) from hst9.elim (fun h => .inr (.inr h)) .inl)
          replace d0 := (hbel1.cell hb2W).trans d0
          replace d1 := (hbel1.cell hb2W).trans d1
          have f0 := cellB d0
          have f1 := cellB d1
          obtain ⟨z, hz⟩ : ∃ z, l[i]?.getD ⟨0, 0⟩ = z := ⟨_, rfl⟩
          rw [hz] at hzo hstep d0 d1 f0 f1 c0 c1
          have HSTz := Lib.hid (show z.a ≤ y + 1 ∨ (i = l.length ∨ i < l.length ∧ ¬ (l[i]?.getD ⟨0, 0⟩).a ≤ (⟨x, y⟩ : Rg).b + 1) from hz ▸ HST.out)
          clear HST hst9 hz
          have hdi : decide ((i : Int) < (i0 : Int)) = true := by rw [decide_eq_true_eq]; omega
          have hi0 : (0 : Int) ≤ (i : Int) := by omega
          have hi1 : (i : Int) < (i0 : Int) := by omega
          have wy : IntKind.i64.wrap (y + 1) = y + 1 := by rw [IntKind.wrap_i64]; omega
          subst hA2
          by_cases hza : z.a ≤ y + 1
          · have dz : decide (z.a ≤ y + 1) = true := by rw [decide_eq_true_eq]; exact hza
            rw [hstep hza] at hM
            have HM := Lib.hid hM
            clear hstep hM HSTz hza
            go_wp2_with fail
            refine bstart (by kernel_rfl) ?_
            refine btake 0 (oi := _) (v := ?_) (by simp only [List.getElem?_toArray, List.getElem?_cons_zero]; rfl) (by kernel_rfl) (by exact fun _ _ _ h => h) (by first | assumption | exact KB.refl _) (.inl ⟨by rfl, fun W hW => ?_⟩) ?_; rotate_left
            · (go_simp; first | done | with_reducible rfl)
            try simp only [Act.put, List.setIfInBounds_toArray, List.set_cons_zero, List.set_cons_succ]
            refine btake 1 (oi := _) (v := ?_) (by simp only [getElem?_toArray, getElem?_cons_succ, getElem?_cons_zero]; rfl) (by kernel_rfl) (by exact fun _ _ _ h => h) (by first | assumption | exact KB.refl _) (.inl ⟨by rfl, fun W hW => ?_⟩) ?_; rotate_left
            · (go_simp; first | done | with_reducible rfl)
            try simp only [Act.put, List.setIfInBounds_toArray, List.set_cons_zero, List.set_cons_succ]
            refine btake 2 (oi := _) (v := ?_) (by simp only [getElem?_toArray, getElem?_cons_succ, getElem?_cons_zero]; rfl) (by kernel_rfl) (by exact fun _ _ _ h => h) (by first | assumption | exact KB.refl _) (.inl ⟨by rfl, fun W hW => ?_⟩) ?_; rotate_left
            · (go_simp; first | done | with_reducible rfl)
            try simp only [Act.put, List.setIfInBounds_toArray, List.set_cons_zero, List.set_cons_succ]
            refine btake 3 (oi := _) (v := ?_) (by simp only [getElem?_toArray, getElem?_cons_succ, getElem?_cons_zero]; rfl) (by kernel_rfl) (by exact fun _ _ _ h => h) (by first | assumption | exact KB.refl _) (.inl ⟨by rfl, fun W hW => ?_⟩) ?_; rotate_left
            · (go_simp; first | done | with_reducible rfl)
            try simp only [Act.put, List.setIfInBounds_toArray, List.set_cons_zero, List.set_cons_succ]
            refine btake 4 (oi := _) (v := ?_) (by simp only [getElem?_toArray, getElem?_cons_succ, getElem?_cons_zero]; rfl) (by kernel_rfl) (by exact fun _ _ _ h => h) (by first | assumption | exact KB.refl _) (.inl ⟨by rfl, fun W hW => ?_⟩) ?_; rotate_left
            · (go_simp; first | done | with_reducible rfl)
            try simp only [Act.put, List.setIfInBounds_toArray, List.set_cons_zero, List.set_cons_succ]
            refine btake 5 (oi := _) (v := ?_) (by simp only [getElem?_toArray, getElem?_cons_succ, getElem?_cons_zero]; rfl) (by kernel_rfl) (by exact fun _ _ _ h => h) (by first | assumption | exact KB.refl _) (.inl ⟨by rfl, fun W hW => ?_⟩) ?_; rotate_left
            · (go_simp; first | done | with_reducible rfl)
            try simp only [Act.put, List.setIfInBounds_toArray, List.set_cons_zero, List.set_cons_succ]
            refine btake 6 (oi := _) (v := ?_) (by simp only [getElem?_toArray, getElem?_cons_succ, getElem?_cons_zero]; rfl) (by kernel_rfl) (by exact fun _ _ _ h => h) (by first | assumption | exact KB.refl _) (.inl ⟨by rfl, fun W hW => ?_⟩) ?_; rotate_left
            · (go_simp; first | done | with_reducible rfl)
            try simp only [Act.put, List.setIfInBounds_toArray, List.set_cons_zero, List.set_cons_succ]
            refine btake 7 (oi := _) (v := ?_) (by simp only [getElem?_toArray, getElem?_cons_succ, getElem?_cons_zero]; rfl) (by kernel_rfl) (by exact fun _ _ _ h => h) (by first | assumption | exact KB.refl _) (.inl ⟨by rfl, fun W hW => ?_⟩) ?_; rotate_left
            · (go_simp; first | done | with_reducible rfl)
            try simp only [Act.put, List.setIfInBounds_toArray, List.set_cons_zero, List.set_cons_succ]
            refine btake 8 (oi := _) (v := ?_) (by simp only [getElem?_toArray, getElem?_cons_succ, getElem?_cons_zero]; rfl) (by kernel_rfl) (by exact fun _ _ _ h => h) (by first | assumption | exact KB.refl _) (.inl ⟨by rfl, fun W hW => ?_⟩) ?_; rotate_left
            · (go_simp; first | done | with_reducible rfl)
            try simp only [Act.put, List.setIfInBounds_toArray, List.set_cons_zero, List.set_cons_succ]
            refine btake 9 (oi := _) (v := ?_) (by simp only [getElem?_toArray, getElem?_cons_succ, getElem?_cons_zero]; rfl) (by kernel_rfl) (by exact fun _ _ _ h => h) (by first | assumption | exact KB.refl _) (.inl ⟨by rfl, fun W hW => ?_⟩) ?_; rotate_left
            · (go_simp; first | done | with_reducible rfl)
            try simp only [Act.put, List.setIfInBounds_toArray, List.set_cons_zero, List.set_cons_succ]
            refine btake 10 (oi := _) (v := ?_) (by simp only [getElem?_toArray, getElem?_cons_succ, getElem?_cons_zero]; rfl) (by kernel_rfl) (by exact fun _ _ _ h => h) (by first | assumption | exact KB.refl _) (.inl ⟨by rfl, fun W hW => ?_⟩) ?_; rotate_left
            · (go_simp; first | done | with_reducible rfl)
            try simp only [Act.put, List.setIfInBounds_toArray, List.set_cons_zero, List.set_cons_succ]
            refine btake 11 (oi := _) (v := ?_) (by simp only [getElem?_toArray, getElem?_cons_succ, getElem?_cons_zero]; rfl) (by kernel_rfl) (by exact fun _ _ _ h => h) (by first | assumption | exact KB.refl _) (.inl ⟨by rfl, fun W hW => ?_⟩) ?_; rotate_left
            · (go_simp; first | done | with_reducible rfl)
            try simp only [Act.put, List.setIfInBounds_toArray, List.set_cons_zero, List.set_cons_succ]
            refine btake 12 (oi := _) (v := ?_) (by simp only [getElem?_toArray, getElem?_cons_succ, getElem?_cons_zero]; rfl) (by kernel_rfl) (by exact fun _ _ _ h => h) (by first | assumption | exact KB.refl _) (.inl ⟨by rfl, fun W hW => ?_⟩) ?_; rotate_left
            · (go_simp; first | done | with_reducible rfl)
            try simp only [Act.put, List.setIfInBounds_toArray, List.set_cons_zero, List.set_cons_succ]
            refine btake 13 (oi := _) (v := ?_) (by simp only [getElem?_toArray, getElem?_cons_succ, getElem?_cons_zero]; rfl) (by kernel_rfl) (by exact fun _ _ _ h => h) (by first | assumption | exact KB.refl _) (.inl ⟨by rfl, fun W hW => ?_⟩) ?_; rotate_left
            · (go_simp; first | done | with_reducible rfl)
            try simp only [Act.put, List.setIfInBounds_toArray, List.set_cons_zero, List.set_cons_succ]
            refine btake 14 (oi := _) (v := ?_) (by simp only [getElem?_toArray, getElem?_cons_succ, getElem?_cons_zero]; rfl) (by kernel_rfl) (by exact fun _ _ _ h => h) (by first | assumption | exact KB.refl _) (.inl ⟨by rfl, fun W hW => ?_⟩) ?_; rotate_left
            · (go_simp; first | done | with_reducible rfl)
            try simp only [Act.put, List.setIfInBounds_toArray, List.set_cons_zero, List.set_cons_succ]
            refine bdone (by kernel_rfl) ?_
            have hbq := hbel1.drew
            have howq := how1.below (Below.refl _ _).drew
            have hstq := hst1.below (Below.refl _ _).drew
            generalize wr.drew = wq at hbq howq hstq ⊢
            have n0 := hstq.2.1
            have n1 := hstq.2.2.1
            have n2 := hstq.2.2.2.1
            have n3 := hstq.2.2.2.2
            obtain ⟨a', ha'⟩ : ∃ a', min x z.a = a' := ⟨_, rfl⟩
            obtain ⟨b', hb'⟩ : ∃ b', max y z.b = b' := ⟨_, rfl⟩
            have HAB := Lib.hid (show min x z.a = a' ∧ max y z.b = b' ∧ 1 ≤ a' ∧ a' ≤ b' ∧ b' ≤ 1099511627775 by
              omega)
            clear hzo m0 m1 q0 q1 f0 f1 d0 d1 how1 hst1 hbel1
            have hS0 : KB w.heap wq.drew := KB.of hbq.drew
            go_wp2_with fail
            refine bstartH (w.heap) (by kernel_rfl) ?_
            refine btake 0 (oi := _) (v := ?_) (by simp only [List.getElem?_toArray, List.getElem?_cons_zero]; rfl) (by kernel_rfl) (by exact fun _ _ _ h => h) (by first | assumption | exact KB.refl _ | exact kb0 _) (.inl ⟨by rfl, fun W hW => ?_⟩) ?_; rotate_left
            · (go_simp; first | done | with_reducible rfl)
            try simp only [Act.put, List.setIfInBounds_toArray, List.set_cons_zero, List.set_cons_succ]
            refine btake 2 (oi := _) (v := ?_) (by simp only [getElem?_toArray, getElem?_cons_succ, getElem?_cons_zero]; rfl) (by kernel_rfl) (by exact fun _ _ _ h => h) (by first | assumption | exact KB.refl _ | exact kb0 _) (.inl ⟨by rfl, fun W hW => ?_⟩) ?_; rotate_left
            · (go_simp; first | done | with_reducible rfl)
            try simp only [Act.put, List.setIfInBounds_toArray, List.set_cons_zero, List.set_cons_succ]
            refine btake 3 (oi := _) (v := ?_) (by simp only [getElem?_toArray, getElem?_cons_succ, getElem?_cons_zero]; rfl) (by kernel_rfl) (by exact fun _ _ _ h => h) (by first | assumption | exact KB.refl _ | exact kb0 _) (.inl ⟨by rfl, fun W hW => ?_⟩) ?_; rotate_left
            · (go_simp; first | done | with_reducible rfl)
            try simp only [Act.put, List.setIfInBounds_toArray, List.set_cons_zero, List.set_cons_succ]
            refine btake 4 (oi := _) (v := ?_) (by simp only [getElem?_toArray, getElem?_cons_succ, getElem?_cons_zero]; rfl) (by kernel_rfl) (by exact fun _ _ _ h => h) (by first | assumption | exact KB.refl _ | exact kb0 _) (.inl ⟨by rfl, fun W hW => ?_⟩) ?_; rotate_left
            · (go_simp; first | done | with_reducible rfl)
            try simp only [Act.put, List.setIfInBounds_toArray, List.set_cons_zero, List.set_cons_succ]
            refine btake 5 (oi := _) (v := ?_) (by simp only [getElem?_toArray, getElem?_cons_succ, getElem?_cons_zero]; rfl) (by kernel_rfl) (by exact fun _ _ _ h => h) (by first | assumption | exact KB.refl _ | exact kb0 _) (.inl ⟨by rfl, fun W hW => ?_⟩) ?_; rotate_left
            · (go_simp; first | done | with_reducible rfl)
            try simp only [Act.put, List.setIfInBounds_toArray, List.set_cons_zero, List.set_cons_succ]
            refine btake 6 (oi := _) (v := ?_) (by simp only [getElem?_toArray, getElem?_cons_succ, getElem?_cons_zero]; rfl) (by kernel_rfl) (by exact fun _ _ _ h => h) (by first | assumption | exact KB.refl _ | exact kb0 _) (.inl ⟨by rfl, fun W hW => ?_⟩) ?_; rotate_left
            · (go_simp; first | done | with_reducible rfl)
            try simp only [Act.put, List.setIfInBounds_toArray, List.set_cons_zero, List.set_cons_succ]
            refine btake 8 (oi := _) (v := ?_) (by simp only [getElem?_toArray, getElem?_cons_succ, getElem?_cons_zero]; rfl) (by kernel_rfl) (by exact fun _ _ _ h => h) (by first | assumption | exact KB.refl _ | exact kb0 _) (.inl ⟨by rfl, fun W hW => ?_⟩) ?_; rotate_left
            · (go_simp; first | done | with_reducible rfl)
            try simp only [Act.put, List.setIfInBounds_toArray, List.set_cons_zero, List.set_cons_succ]
            refine btake 10 (oi := _) (v := ?_) (by simp only [getElem?_toArray, getElem?_cons_succ, getElem?_cons_zero]; rfl) (by kernel_rfl) (by exact fun _ _ _ h => h) (by first | assumption | exact KB.refl _ | exact kb0 _) (.inl ⟨by rfl, fun W hW => ?_⟩) ?_; rotate_left
            · (go_simp; first | done | with_reducible rfl)
            try simp only [Act.put, List.setIfInBounds_toArray, List.set_cons_zero, List.set_cons_succ]
            refine btake 11 (oi := _) (v := ?_) (by simp only [getElem?_toArray, getElem?_cons_succ, getElem?_cons_zero]; rfl) (by kernel_rfl) (by exact fun _ _ _ h => h) (by first | assumption | exact KB.refl _ | exact kb0 _) (.inl ⟨by rfl, fun W hW => ?_⟩) ?_; rotate_left
            · (go_simp; first | done | with_reducible rfl)
            try simp only [Act.put, List.setIfInBounds_toArray, List.set_cons_zero, List.set_cons_succ]
            refine btake 12 (oi := _) (v := ?_) (by simp only [getElem?_toArray, getElem?_cons_succ, getElem?_cons_zero]; rfl) (by kernel_rfl) (by exact fun _ _ _ h => h) (by first | assumption | exact KB.refl _ | exact kb0 _) (.inl ⟨by rfl, fun W hW => ?_⟩) ?_; rotate_left
            · (go_simp; first | done | with_reducible rfl)
            try simp only [Act.put, List.setIfInBounds_toArray, List.set_cons_zero, List.set_cons_succ]
            refine btake 13 (oi := _) (v := ?_) (by simp only [getElem?_toArray, getElem?_cons_succ, getElem?_cons_zero]; rfl) (by kernel_rfl) (by exact fun _ _ _ h => h) (by first | assumption | exact KB.refl _ | exact kb0 _) (.inl ⟨by rfl, fun W hW => ?_⟩) ?_; rotate_left
            · (go_simp; first | done | with_reducible rfl)
            try simp only [Act.put, List.setIfInBounds_toArray, List.set_cons_zero, List.set_cons_succ]
            refine btake 14 (oi := _) (v := ?_) (by simp only [getElem?_toArray, getElem?_cons_succ, getElem?_cons_zero]; rfl) (by kernel_rfl) (by exact fun _ _ _ h => h) (by first | assumption | exact KB.refl _ | exact kb0 _) (.inl ⟨by rfl, fun W hW => ?_⟩) ?_; rotate_left
            · (go_simp; first | done | with_reducible rfl)
            try simp only [Act.put, List.setIfInBounds_toArray, List.set_cons_zero, List.set_cons_succ]
            refine bopH2 1 9 (oi := _) (oj := _) (by simp only [getElem?_toArray, getElem?_cons_succ, getElem?_cons_zero]; rfl) (by simp only [getElem?_toArray, getElem?_cons_succ, getElem?_cons_zero]; rfl) (by kernel_rfl) (by first | assumption | exact KB.refl _ | exact kb0 _) (by rfl) (by rfl) (fun K hK => ?_) (fun K hK => ?_)
            · -- 1: Op.load 2 (Operand.tmp 55)
              go_simp
              have hkb := hS0
              refine hK.out _ _ hkb ?_; clear hK K
              try simp only [Act.put, List.setIfInBounds_toArray, List.set_cons_zero, List.set_cons_succ]
              refine btake 7 (oi := _) (v := ?_) (by simp only [getElem?_toArray, getElem?_cons_succ, getElem?_cons_zero]; rfl) (by kernel_rfl) (by exact fun _ _ _ h => h) (by first | assumption | exact KB.refl _ | exact kb0 _) (.inl ⟨by rfl, fun W hW => ?_⟩) ?_; rotate_left
              · (go_simp; first | done | with_reducible rfl)
              try simp only [Act.put, List.setIfInBounds_toArray, List.set_cons_zero, List.set_cons_succ]
              -- 9: Op.load 2 (Operand.tmp 63)
              refine bopH 9 (o := _) (by simp only [getElem?_toArray, getElem?_cons_succ, getElem?_cons_zero]; rfl) (by kernel_rfl) (by first | assumption | exact KB.refl _ | exact kb0 _) (by rfl) (fun K hK => ?_)
              go_simp
              have hkb := hS0
              refine hK.out _ _ hkb ?_; clear hK K
              try simp only [Act.put, List.setIfInBounds_toArray, List.set_cons_zero, List.set_cons_succ]
              refine btake 15 (oi := _) (v := ?_) (by simp only [getElem?_toArray, getElem?_cons_succ, getElem?_cons_zero]; rfl) (by kernel_rfl) (by exact fun _ _ _ h => h) (by first | assumption | exact KB.refl _ | exact kb0 _) (.inl ⟨by rfl, fun W hW => ?_⟩) ?_; rotate_left
              · (go_simp; first | done | with_reducible rfl)
              try simp only [Act.put, List.setIfInBounds_toArray, List.set_cons_zero, List.set_cons_succ]
              refine btake 16 (oi := _) (v := ?_) (by simp only [getElem?_toArray, getElem?_cons_succ, getElem?_cons_zero]; rfl) (by kernel_rfl) (by exact fun _ _ _ h => h) (by first | assumption | exact KB.refl _ | exact kb0 _) (.inl ⟨by rfl, fun W hW => ?_⟩) ?_; rotate_left
              · (go_simp; first | done | with_reducible rfl)
              try simp only [Act.put, List.setIfInBounds_toArray, List.set_cons_zero, List.set_cons_succ]
              -- 17: Op.store 2 (Operand.tmp 71) (Operand.tmp 62)
              refine bopH 17 (o := _) (by simp only [getElem?_toArray, getElem?_cons_succ, getElem?_cons_zero]; rfl) (by kernel_rfl) (by first | assumption | exact KB.refl _ | exact kb0 _) (by rfl) (fun K hK => ?_)
              go_simp
              have hkb : KB w.heap (wq.setCell ⟨gb, 0, none⟩ (.int .i64 a')).drew := KB.of (hbq.setCell hgb _).drew
              refine hK.out _ _ hkb ?_; clear hK K
              try simp only [Act.put, List.setIfInBounds_toArray, List.set_cons_zero, List.set_cons_succ]
              refine btake 18 (oi := _) (v := ?_) (by simp only [getElem?_toArray, getElem?_cons_succ, getElem?_cons_zero]; rfl) (by kernel_rfl) (by exact fun _ _ _ h => h) (by first | assumption | exact KB.refl _ | exact kb0 _) (.inl ⟨by rfl, fun W hW => ?_⟩) ?_; rotate_left
              · (go_simp; first | done | with_reducible rfl)
              try simp only [Act.put, List.setIfInBounds_toArray, List.set_cons_zero, List.set_cons_succ]
              -- 19: Op.store 2 (Operand.tmp 72) (Operand.tmp 70)
              refine bopH 19 (o := _) (by simp only [getElem?_toArray, getElem?_cons_succ, getElem?_cons_zero]; rfl) (by kernel_rfl) (by first | assumption | exact KB.refl _ | exact kb0 _) (by rfl) (fun K hK => ?_)
              go_simp
              have hkb : KB w.heap ((wq.setCell ⟨gb, 0, none⟩ (.int .i64 a')).setCell ⟨gb, 1, none⟩ (.int .i64 b')).drew := KB.of ((hbq.setCell hgb _).setCell hgb _).drew
              refine hK.out _ _ hkb ?_; clear hK K
              try simp only [Act.put, List.setIfInBounds_toArray, List.set_cons_zero, List.set_cons_succ]
              refine bdone (by kernel_rfl) ?_
              have how9 := ownsRow_setCell_other (ownsRow_setCell_other howq (a := ⟨gb, 0, none⟩) hneO (.int .i64 a')) (a := ⟨gb, 1, none⟩) hneO (.int .i64 b')
              have hst9 := hstq.put ⟨a', b'⟩
              have hbq9 := ((hbq.setCell (p := ⟨gb, 0, none⟩) hgb (.int .i64 a')).setCell (p := ⟨gb, 1, none⟩) hgb (.int .i64 b')).drew
              clear c0 c1 n0 n1 n2 n3 ha' hb' hS0
              go_wp2_with fail
              go_roundw
              case rel => exact ⟨i + 1, a', b', by omega, by go_num, OwnR.below how9 (Below.refl _ _).drew, hst9.below (Below.refl _ _).drew, HAB.out.2.2.1, HAB.out.2.2.2.1, HAB.out.2.2.2.2, by rw [← HAB.out.1, ← HAB.out.2.1]; exact HM.out, hbq9⟩
              case measure => simp [intOf] <;> omega
            · -- 9: Op.load 2 (Operand.tmp 63)
              go_simp
              have hkb := hS0
              refine hK.out _ _ hkb ?_; clear hK K
              try simp only [Act.put, List.setIfInBounds_toArray, List.set_cons_zero, List.set_cons_succ]
              refine btake 15 (oi := _) (v := ?_) (by simp only [getElem?_toArray, getElem?_cons_succ, getElem?_cons_zero]; rfl) (by kernel_rfl) (by exact fun _ _ _ h => h) (by first | assumption | exact KB.refl _ | exact kb0 _) (.inl ⟨by rfl, fun W hW => ?_⟩) ?_; rotate_left
              · (go_simp; first | done | with_reducible rfl)
              try simp only [Act.put, List.setIfInBounds_toArray, List.set_cons_zero, List.set_cons_succ]
              -- 1: Op.load 2 (Operand.tmp 55)
              refine bopH 1 (o := _) (by simp only [getElem?_toArray, getElem?_cons_succ, getElem?_cons_zero]; rfl) (by kernel_rfl) (by first | assumption | exact KB.refl _ | exact kb0 _) (by rfl) (fun K hK => ?_)
              go_simp
              have hkb := hS0
              refine hK.out _ _ hkb ?_; clear hK K
              try simp only [Act.put, List.setIfInBounds_toArray, List.set_cons_zero, List.set_cons_succ]
              refine btake 7 (oi := _) (v := ?_) (by simp only [getElem?_toArray, getElem?_cons_succ, getElem?_cons_zero]; rfl) (by kernel_rfl) (by exact fun _ _ _ h => h) (by first | assumption | exact KB.refl _ | exact kb0 _) (.inl ⟨by rfl, fun W hW => ?_⟩) ?_; rotate_left
              · (go_simp; first | done | with_reducible rfl)
              try simp only [Act.put, List.setIfInBounds_toArray, List.set_cons_zero, List.set_cons_succ]
              refine btake 16 (oi := _) (v := ?_) (by simp only [getElem?_toArray, getElem?_cons_succ, getElem?_cons_zero]; rfl) (by kernel_rfl) (by exact fun _ _ _ h => h) (by first | assumption | exact KB.refl _ | exact kb0 _) (.inl ⟨by rfl, fun W hW => ?_⟩) ?_; rotate_left
              · (go_simp; first | done | with_reducible rfl)
              try simp only [Act.put, List.setIfInBounds_toArray, List.set_cons_zero, List.set_cons_succ]
              -- 17: Op.store 2 (Operand.tmp 71) (Operand.tmp 62)
              refine bopH 17 (o := _) (by simp only [getElem?_toArray, getElem?_cons_succ, getElem?_cons_zero]; rfl) (by kernel_rfl) (by first | assumption | exact KB.refl _ | exact kb0 _) (by rfl) (fun K hK => ?_)
              go_simp
              have hkb : KB w.heap (wq.setCell ⟨gb, 0, none⟩ (.int .i64 a')).drew := KB.of (hbq.setCell hgb _).drew
              refine hK.out _ _ hkb ?_; clear hK K
              try simp only [Act.put, List.setIfInBounds_toArray, List.set_cons_zero, List.set_cons_succ]
              refine btake 18 (oi := _) (v := ?_) (by simp only [getElem?_toArray, getElem?_cons_succ, getElem?_cons_zero]; rfl) (by kernel_rfl) (by exact fun _ _ _ h => h) (by first | assumption | exact KB.refl _ | exact kb0 _) (.inl ⟨by rfl, fun W hW => ?_⟩) ?_; rotate_left
              · (go_simp; first | done | with_reducible rfl)
              try simp only [Act.put, List.setIfInBounds_toArray, List.set_cons_zero, List.set_cons_succ]
              -- 19: Op.store 2 (Operand.tmp 72) (Operand.tmp 70)
              refine bopH 19 (o := _) (by simp only [getElem?_toArray, getElem?_cons_succ, getElem?_cons_zero]; rfl) (by kernel_rfl) (by first | assumption | exact KB.refl _ | exact kb0 _) (by rfl) (fun K hK => ?_)
              go_simp
              have hkb : KB w.heap ((wq.setCell ⟨gb, 0, none⟩ (.int .i64 a')).setCell ⟨gb, 1, none⟩ (.int .i64 b')).drew := KB.of ((hbq.setCell hgb _).setCell hgb _).drew
              refine hK.out _ _ hkb ?_; clear hK K
              try simp only [Act.put, List.setIfInBounds_toArray, List.set_cons_zero, List.set_cons_succ]
              refine bdone (by kernel_rfl) ?_
              have how9 := ownsRow_setCell_other (ownsRow_setCell_other howq (a := ⟨gb, 0, none⟩) hneO (.int .i64 a')) (a := ⟨gb, 1, none⟩) hneO (.int .i64 b')
              have hst9 := hstq.put ⟨a', b'⟩
              have hbq9 := ((hbq.setCell (p := ⟨gb, 0, none⟩) hgb (.int .i64 a')).setCell (p := ⟨gb, 1, none⟩) hgb (.int .i64 b')).drew
              clear c0 c1 n0 n1 n2 n3 ha' hb' hS0
              go_wp2_with fail
              go_roundw
              case rel => exact ⟨i + 1, a', b', by omega, by go_num, OwnR.below how9 (Below.refl _ _).drew, hst9.below (Below.refl _ _).drew, HAB.out.2.2.1, HAB.out.2.2.2.1, HAB.out.2.2.2.2, by rw [← HAB.out.1, ← HAB.out.2.1]; exact HM.out, hbq9⟩
              case measure => simp [intOf] <;> omega
          · have dz : decide (z.a ≤ y + 1) = false := by rw [decide_eq_false_iff_not]; exact hza
            have HST := Lib.hid (HSTz.out.resolve_left hza)
            clear hstep hza HSTz
            go_wp2_with fail
            refine bstart (by kernel_rfl) ?_
            refine btake 0 (oi := _) (v := ?_) (by simp only [List.getElem?_toArray, List.getElem?_cons_zero]; rfl) (by kernel_rfl) (by exact fun _ _ _ h => h) (by first | assumption | exact KB.refl _) (.inl ⟨by rfl, fun W hW => ?_⟩) ?_; rotate_left
            · (go_simp; first | done | with_reducible rfl)
            try simp only [Act.put, List.setIfInBounds_toArray, List.set_cons_zero, List.set_cons_succ]
            refine btake 1 (oi := _) (v := ?_) (by simp only [getElem?_toArray, getElem?_cons_succ, getElem?_cons_zero]; rfl) (by kernel_rfl) (by exact fun _ _ _ h => h) (by first | assumption | exact KB.refl _) (.inl ⟨by rfl, fun W hW => ?_⟩) ?_; rotate_left
            · (go_simp; first | done | with_reducible rfl)
            try simp only [Act.put, List.setIfInBounds_toArray, List.set_cons_zero, List.set_cons_succ]
            refine btake 2 (oi := _) (v := ?_) (by simp only [getElem?_toArray, getElem?_cons_succ, getElem?_cons_zero]; rfl) (by kernel_rfl) (by exact fun _ _ _ h => h) (by first | assumption | exact KB.refl _) (.inl ⟨by rfl, fun W hW => ?_⟩) ?_; rotate_left
            · (go_simp; first | done | with_reducible rfl)
            try simp only [Act.put, List.setIfInBounds_toArray, List.set_cons_zero, List.set_cons_succ]
            refine btake 3 (oi := _) (v := ?_) (by simp only [getElem?_toArray, getElem?_cons_succ, getElem?_cons_zero]; rfl) (by kernel_rfl) (by exact fun _ _ _ h => h) (by first | assumption | exact KB.refl _) (.inl ⟨by rfl, fun W hW => ?_⟩) ?_; rotate_left
            · (go_simp; first | done | with_reducible rfl)
            try simp only [Act.put, List.setIfInBounds_toArray, List.set_cons_zero, List.set_cons_succ]
            refine btake 4 (oi := _) (v := ?_) (by simp only [getElem?_toArray, getElem?_cons_succ, getElem?_cons_zero]; rfl) (by kernel_rfl) (by exact fun _ _ _ h => h) (by first | assumption | exact KB.refl _) (.inl ⟨by rfl, fun W hW => ?_⟩) ?_; rotate_left
            · (go_simp; first | done | with_reducible rfl)
            try simp only [Act.put, List.setIfInBounds_toArray, List.set_cons_zero, List.set_cons_succ]
            refine btake 5 (oi := _) (v := ?_) (by simp only [getElem?_toArray, getElem?_cons_succ, getElem?_cons_zero]; rfl) (by kernel_rfl) (by exact fun _ _ _ h => h) (by first | assumption | exact KB.refl _) (.inl ⟨by rfl, fun W hW => ?_⟩) ?_; rotate_left
            · (go_simp; first | done | with_reducible rfl)
            try simp only [Act.put, List.setIfInBounds_toArray, List.set_cons_zero, List.set_cons_succ]
            refine btake 6 (oi := _) (v := ?_) (by simp only [getElem?_toArray, getElem?_cons_succ, getElem?_cons_zero]; rfl) (by kernel_rfl) (by exact fun _ _ _ h => h) (by first | assumption | exact KB.refl _) (.inl ⟨by rfl, fun W hW => ?_⟩) ?_; rotate_left
            · (go_simp; first | done | with_reducible rfl)
            try simp only [Act.put, List.setIfInBounds_toArray, List.set_cons_zero, List.set_cons_succ]
            refine btake 7 (oi := _) (v := ?_) (by simp only [getElem?_toArray, getElem?_cons_succ, getElem?_cons_zero]; rfl) (by kernel_rfl) (by exact fun _ _ _ h => h) (by first | assumption | exact KB.refl _) (.inl ⟨by rfl, fun W hW => ?_⟩) ?_; rotate_left
            · (go_simp; first | done | with_reducible rfl)
            try simp only [Act.put, List.setIfInBounds_toArray, List.set_cons_zero, List.set_cons_succ]
            refine btake 8 (oi := _) (v := ?_) (by simp only [getElem?_toArray, getElem?_cons_succ, getElem?_cons_zero]; rfl) (by kernel_rfl) (by exact fun _ _ _ h => h) (by first | assumption | exact KB.refl _) (.inl ⟨by rfl, fun W hW => ?_⟩) ?_; rotate_left
            · (go_simp; first | done | with_reducible rfl)
            try simp only [Act.put, List.setIfInBounds_toArray, List.set_cons_zero, List.set_cons_succ]
            refine btake 9 (oi := _) (v := ?_) (by simp only [getElem?_toArray, getElem?_cons_succ, getElem?_cons_zero]; rfl) (by kernel_rfl) (by exact fun _ _ _ h => h) (by first | assumption | exact KB.refl _) (.inl ⟨by rfl, fun W hW => ?_⟩) ?_; rotate_left
            · (go_simp; first | done | with_reducible rfl)
            try simp only [Act.put, List.setIfInBounds_toArray, List.set_cons_zero, List.set_cons_succ]
            refine btake 10 (oi := _) (v := ?_) (by simp only [getElem?_toArray, getElem?_cons_succ, getElem?_cons_zero]; rfl) (by kernel_rfl) (by exact fun _ _ _ h => h) (by first | assumption | exact KB.refl _) (.inl ⟨by rfl, fun W hW => ?_⟩) ?_; rotate_left
            · (go_simp; first | done | with_reducible rfl)
            try simp only [Act.put, List.setIfInBounds_toArray, List.set_cons_zero, List.set_cons_succ]
            refine btake 11 (oi := _) (v := ?_) (by simp only [getElem?_toArray, getElem?_cons_succ, getElem?_cons_zero]; rfl) (by kernel_rfl) (by exact fun _ _ _ h => h) (by first | assumption | exact KB.refl _) (.inl ⟨by rfl, fun W hW => ?_⟩) ?_; rotate_left
            · (go_simp; first | done | with_reducible rfl)
            try simp only [Act.put, List.setIfInBounds_toArray, List.set_cons_zero, List.set_cons_succ]
            refine btake 12 (oi := _) (v := ?_) (by simp only [getElem?_toArray, getElem?_cons_succ, getElem?_cons_zero]; rfl) (by kernel_rfl) (by exact fun _ _ _ h => h) (by first | assumption | exact KB.refl _) (.inl ⟨by rfl, fun W hW => ?_⟩) ?_; rotate_left
            · (go_simp; first | done | with_reducible rfl)
            try simp only [Act.put, List.setIfInBounds_toArray, List.set_cons_zero, List.set_cons_succ]
            refine btake 13 (oi := _) (v := ?_) (by simp only [getElem?_toArray, getElem?_cons_succ, getElem?_cons_zero]; rfl) (by kernel_rfl) (by exact fun _ _ _ h => h) (by first | assumption | exact KB.refl _) (.inl ⟨by rfl, fun W hW => ?_⟩) ?_; rotate_left
            · (go_simp; first | done | with_reducible rfl)
            try simp only [Act.put, List.setIfInBounds_toArray, List.set_cons_zero, List.set_cons_succ]
            refine btake 14 (oi := _) (v := ?_) (by simp only [getElem?_toArray, getElem?_cons_succ, getElem?_cons_zero]; rfl) (by kernel_rfl) (by exact fun _ _ _ h => h) (by first | assumption | exact KB.refl _) (.inl ⟨by rfl, fun W hW => ?_⟩) ?_; rotate_left
            · (go_simp; first | done | with_reducible rfl)
            try simp only [Act.put, List.setIfInBounds_toArray, List.set_cons_zero, List.set_cons_succ]
            refine bdone (by kernel_rfl) ?_
            have hbq := hbel1.drew
            have howq := how1.below (Below.refl _ _).drew
            have hstq := hst1.below (Below.refl _ _).drew
            generalize wr.drew = wq at hbq howq hstq ⊢
            clear f0 f1 d0 d1 how1 hst1 hbel1
            have hq9 := merge_stop (l := l) (r := ⟨x, y⟩) (i := i) (by have h9 := HST.out; simp only at h9 ⊢; omega)
            rw [hq9] at hM
            have hadd9 := HADD.out
            rw [← hM] at hadd9
            obtain ⟨A2, hs2, hS2⟩ := sl_postR (some ⟨b2, o2, none⟩) i0 c i hi hc
            have hSq := hb.below hbq
            have hSd := hS2 wq w.heap.size l HN.out.1.symm hSq
            have hA0 : AtS gb [.int .i64 x, .int .i64 y] wq := stands_at hstq
            have e0 := AtS.e (g := gb) (vs := [.int .i64 x, .int .i64 y]) 0 rfl
            have e1 := AtS.e (g := gb) (vs := [.int .i64 x, .int .i64 y]) 1 rfl
            have how2 := howq.below ((Below.refl wq.heap.size wq).drew.alloc (Nat.le_refl _) (.cells #[.int .i64 x, .int .i64 y] 44))
            have hA2 := At.below hA0 ((Below.refl wq.heap.size wq).drew.alloc (Nat.le_refl _) (.cells #[.int .i64 x, .int .i64 y] 44))
            have hbx2 := hbq.drew.alloc hbq.size (.cells #[.int .i64 x, .int .i64 y] 44)
            have hsl2 := Sl.oneR wq.drew ⟨x, y⟩
            have hSd2 := hSd.below (((Below.refl wq.heap.size wq).drew.alloc (Nat.le_refl _) (.cells #[.int .i64 x, .int .i64 y] 44)).mono hbq.size)
            have hTL : (l.take i0).length ≤ 10000000 := by rw [List.length_take]; omega
            have hDL : (l.drop i).length = i0 - i := by rw [List.length_drop, ← HN.out.1] <;> omega
            have hneq := hneO
            clear hq9 hM hSq hSd HST hstq howq m0 m1 q0 q1
            go_wp2_with fail
            have hS0 : AtS gb [.int .i64 x, .int .i64 y] wq.drew := hA0.drew
            refine bstartS (AtS gb [.int .i64 x, .int .i64 y]) (by kernel_rfl) ?_
            refine btakeS 0 (oi := _) (v := ?_) (by simp only [List.getElem?_toArray, List.getElem?_cons_zero]; rfl) (by kernel_rfl) (by exact fun _ _ _ h => h) (by first | assumption | exact KB.refl _) (.inl ⟨by rfl, fun W hW => ?_⟩) ?_; rotate_left
            · (go_simp; first | done | with_reducible rfl)
            try simp only [Act.put, List.setIfInBounds_toArray, List.set_cons_zero, List.set_cons_succ]
            refine btakeS 1 (oi := _) (v := ?_) (by simp only [getElem?_toArray, getElem?_cons_succ, getElem?_cons_zero]; rfl) (by kernel_rfl) (by exact fun _ _ _ h => h) (by first | assumption | exact KB.refl _) (.inl ⟨by rfl, fun W hW => ?_⟩) ?_; rotate_left
            · (go_simp; first | done | with_reducible rfl)
            try simp only [Act.put, List.setIfInBounds_toArray, List.set_cons_zero, List.set_cons_succ]
            refine btakeS 4 (oi := _) (v := ?_) (by simp only [getElem?_toArray, getElem?_cons_succ, getElem?_cons_zero]; rfl) (by kernel_rfl) (by exact fun _ _ _ h => h) (by first | assumption | exact KB.refl _) (.inl ⟨by rfl, fun W hW => ?_⟩) ?_; rotate_left
            · (go_simp; first | done | with_reducible rfl)
            try simp only [Act.put, List.setIfInBounds_toArray, List.set_cons_zero, List.set_cons_succ]
            refine btakeS 5 (oi := _) (v := ?_) (by simp only [getElem?_toArray, getElem?_cons_succ, getElem?_cons_zero]; rfl) (by kernel_rfl) (by exact fun _ _ _ h => h) (by first | assumption | exact KB.refl _) (.inl ⟨by rfl, fun W hW => ?_⟩) ?_; rotate_left
            · (go_simp; first | done | with_reducible rfl)
            try simp only [Act.put, List.setIfInBounds_toArray, List.set_cons_zero, List.set_cons_succ]
            refine btakeS 6 (oi := _) (v := ?_) (by simp only [getElem?_toArray, getElem?_cons_succ, getElem?_cons_zero]; rfl) (by kernel_rfl) (by exact fun _ _ _ h => h) (by first | assumption | exact KB.refl _) (.inl ⟨by rfl, fun W hW => ?_⟩) ?_; rotate_left
            · refine exec_postR (x := .tmp 79) (y := .tmp 80) (A := some ⟨b2, o2, none⟩) (m := i0) (c := c) (j := i) ?_ ?_ ?_ hs2 _ <;> rfl
            try simp only [Act.put, List.setIfInBounds_toArray, List.set_cons_zero, List.set_cons_succ]
            -- 2: Op.buildSlice 40 1 #[(0, Operand.tmp 76)]
            refine bopS 2 (o := _) (by simp only [getElem?_toArray, getElem?_cons_succ, getElem?_cons_zero]; rfl) (by kernel_rfl) (by rfl) (fun K hK => ?_)
            go_simp
            have hkb : AtS gb [.int .i64 x, .int .i64 y] (wq.drew.alloc (.cells #[.int .i64 x, .int .i64 y] 44)) := hA2
            refine hK.out _ _ hkb ?_; clear hK K
            try simp only [Act.put, List.setIfInBounds_toArray, List.set_cons_zero, List.set_cons_succ]
            -- 3: Op.call { callee := Callee.builtin Builtin.append, args := #[Operand.tmp 75, Operand.tmp 77], argTypes := #[40, 40] }
            refine bopS 3 (o := _) (by simp only [getElem?_toArray, getElem?_cons_succ, getElem?_cons_zero]; rfl) (by kernel_rfl) (by rfl) (fun K hK => ?_)
            refine wp_appR rfl how2 hsl2 rfl rfl rfl (by rw [List.length_singleton]; omega) hbx2.size ?_
            intro v7 w7 h7 hg7 hat7
            have hb7 := own_belowR hbx2 hbx2.size how2 hg7
            have hA7 : At w7 gb [.int .i64 x, .int .i64 y] := At.grown hA2 hg7 hneq
            have hkb : AtS gb [.int .i64 x, .int .i64 y] w7 := hA7
            have hne7 : v7.ownBlock ≠ some gb := by
              rcases hat7 with h | h
              · rw [h]; exact hneq
              · rw [h]; intro e; injection e with e; have h1 := hA0.1; simp at e; omega
            refine hK.out _ _ hkb ?_; clear hK K
            try simp only [Act.put, List.setIfInBounds_toArray, List.set_cons_zero, List.set_cons_succ]
            -- 7: Op.call { callee := Callee.builtin Builtin.append, args := #[Operand.tmp 78, Operand.tmp 81], argTypes := #[40, 40] }
            refine bopS 7 (o := _) (by simp only [getElem?_toArray, getElem?_cons_succ, getElem?_cons_zero]; rfl) (by kernel_rfl) (by rfl) (fun K hK => ?_)
            refine wp_appR rfl h7 (hSd2.grown hg7 (fun g e => (how2.lt g e).1)) hDL.symm rfl rfl (by rw [hDL, List.length_append, List.length_singleton]; omega) hb7.size ?_
            intro v8 w8 h8 hg8 hat8
            have hb8 := own_belowR hb7 hb7.size h7 hg8
            have hkb : AtS gb [.int .i64 x, .int .i64 y] w8 := At.grown hA7 hg8 hne7
            refine hK.out _ _ hkb ?_; clear hK K
            try simp only [Act.put, List.setIfInBounds_toArray, List.set_cons_zero, List.set_cons_succ]
            refine btakeS 8 (oi := _) (v := ?_) (by simp only [getElem?_toArray, getElem?_cons_succ, getElem?_cons_zero]; rfl) (by kernel_rfl) (by exact fun _ _ _ h => h) (by first | assumption | exact KB.refl _) (.inl ⟨by rfl, fun W hW => ?_⟩) ?_; rotate_left
            · (go_simp; first | done | with_reducible rfl)
            try simp only [Act.put, List.setIfInBounds_toArray, List.set_cons_zero, List.set_cons_succ]
            refine bdoneS (by kernel_rfl) ?_
            clear hkb e0 e1 hS0 hA0
            have hb9 := hb8
            rw [List.append_assoc, List.singleton_append, ← hadd9] at h8
            clear hadd9
            go_wp2_with fail
            go_ret
            exact RAns.of h8 hb9

        · obtain rfl : i = i0 := by omega
          have hdi : decide ((i : Int) < (i : Int)) = false := by rw [decide_eq_false_iff_not]; omega
          have HST := Lib.hid (show i = l.length ∨ i < l.length ∧ ¬ (l[i]?.getD ⟨0, 0⟩).a ≤ (⟨x, y⟩ : Rg).b + 1 from .inl HN.out.1)
          go_wp2_with fail
          refine bstart (by kernel_rfl) ?_
          refine btake 0 (oi := _) (v := ?_) (by simp only [List.getElem?_toArray, List.getElem?_cons_zero]; rfl) (by kernel_rfl) (by exact fun _ _ _ h => h) (by first | assumption | exact KB.refl _) (.inl ⟨by rfl, fun W hW => ?_⟩) ?_; rotate_left
          · (go_simp; first | done | with_reducible rfl)
          try simp only [Act.put, List.setIfInBounds_toArray, List.set_cons_zero, List.set_cons_succ]
          refine btake 1 (oi := _) (v := ?_) (by simp only [getElem?_toArray, getElem?_cons_succ, getElem?_cons_zero]; rfl) (by kernel_rfl) (by exact fun _ _ _ h => h) (by first | assumption | exact KB.refl _) (.inl ⟨by rfl, fun W hW => ?_⟩) ?_; rotate_left
          · (go_simp; first | done | with_reducible rfl)
          try simp only [Act.put, List.setIfInBounds_toArray, List.set_cons_zero, List.set_cons_succ]
          refine btake 2 (oi := _) (v := ?_) (by simp only [getElem?_toArray, getElem?_cons_succ, getElem?_cons_zero]; rfl) (by kernel_rfl) (by exact fun _ _ _ h => h) (by first | assumption | exact KB.refl _) (.inl ⟨by rfl, fun W hW => ?_⟩) ?_; rotate_left
          · (go_simp; first | done | with_reducible rfl)
          try simp only [Act.put, List.setIfInBounds_toArray, List.set_cons_zero, List.set_cons_succ]
          refine btake 3 (oi := _) (v := ?_) (by simp only [getElem?_toArray, getElem?_cons_succ, getElem?_cons_zero]; rfl) (by kernel_rfl) (by exact fun _ _ _ h => h) (by first | assumption | exact KB.refl _) (.inl ⟨by rfl, fun W hW => ?_⟩) ?_; rotate_left
          · (go_simp; first | done | with_reducible rfl)
          try simp only [Act.put, List.setIfInBounds_toArray, List.set_cons_zero, List.set_cons_succ]
          refine btake 4 (oi := _) (v := ?_) (by simp only [getElem?_toArray, getElem?_cons_succ, getElem?_cons_zero]; rfl) (by kernel_rfl) (by exact fun _ _ _ h => h) (by first | assumption | exact KB.refl _) (.inl ⟨by rfl, fun W hW => ?_⟩) ?_; rotate_left
          · (go_simp; first | done | with_reducible rfl)
          try simp only [Act.put, List.setIfInBounds_toArray, List.set_cons_zero, List.set_cons_succ]
          refine btake 5 (oi := _) (v := undef) (by simp only [getElem?_toArray, getElem?_cons_succ, getElem?_cons_zero]; rfl) (by kernel_rfl) (by exact fun _ _ _ h => h) (by first | assumption | exact KB.refl _) (.inr ⟨by rfl, rfl⟩) ?_
          try simp only [Act.put, List.setIfInBounds_toArray, List.set_cons_zero, List.set_cons_succ]
          refine btake 6 (oi := _) (v := undef) (by simp only [getElem?_toArray, getElem?_cons_succ, getElem?_cons_zero]; rfl) (by kernel_rfl) (by exact fun _ _ _ h => h) (by first | assumption | exact KB.refl _) (.inr ⟨by rfl, rfl⟩) ?_
          try simp only [Act.put, List.setIfInBounds_toArray, List.set_cons_zero, List.set_cons_succ]
          refine btake 7 (oi := _) (v := undef) (by simp only [getElem?_toArray, getElem?_cons_succ, getElem?_cons_zero]; rfl) (by kernel_rfl) (by exact fun _ _ _ h => h) (by first | assumption | exact KB.refl _) (.inr ⟨by rfl, rfl⟩) ?_
          try simp only [Act.put, List.setIfInBounds_toArray, List.set_cons_zero, List.set_cons_succ]
          refine btake 8 (oi := _) (v := undef) (by simp only [getElem?_toArray, getElem?_cons_succ, getElem?_cons_zero]; rfl) (by kernel_rfl) (by exact fun _ _ _ h => h) (by first | assumption | exact KB.refl _) (.inr ⟨by rfl, rfl⟩) ?_
          try simp only [Act.put, List.setIfInBounds_toArray, List.set_cons_zero, List.set_cons_succ]
          refine btake 9 (oi := _) (v := undef) (by simp only [getElem?_toArray, getElem?_cons_succ, getElem?_cons_zero]; rfl) (by kernel_rfl) (by exact fun _ _ _ h => h) (by first | assumption | exact KB.refl _) (.inr ⟨by rfl, rfl⟩) ?_
          try simp only [Act.put, List.setIfInBounds_toArray, List.set_cons_zero, List.set_cons_succ]
          refine btake 10 (oi := _) (v := undef) (by simp only [getElem?_toArray, getElem?_cons_succ, getElem?_cons_zero]; rfl) (by kernel_rfl) (by exact fun _ _ _ h => h) (by first | assumption | exact KB.refl _) (.inr ⟨by rfl, rfl⟩) ?_
          try simp only [Act.put, List.setIfInBounds_toArray, List.set_cons_zero, List.set_cons_succ]
          refine btake 11 (oi := _) (v := undef) (by simp only [getElem?_toArray, getElem?_cons_succ, getElem?_cons_zero]; rfl) (by kernel_rfl) (by exact fun _ _ _ h => h) (by first | assumption | exact KB.refl _) (.inr ⟨by rfl, rfl⟩) ?_
          try simp only [Act.put, List.setIfInBounds_toArray, List.set_cons_zero, List.set_cons_succ]
          refine btake 12 (oi := _) (v := undef) (by simp only [getElem?_toArray, getElem?_cons_succ, getElem?_cons_zero]; rfl) (by kernel_rfl) (by exact fun _ _ _ h => h) (by first | assumption | exact KB.refl _) (.inr ⟨by rfl, rfl⟩) ?_
          try simp only [Act.put, List.setIfInBounds_toArray, List.set_cons_zero, List.set_cons_succ]
          refine btake 13 (oi := _) (v := undef) (by simp only [getElem?_toArray, getElem?_cons_succ, getElem?_cons_zero]; rfl) (by kernel_rfl) (by exact fun _ _ _ h => h) (by first | assumption | exact KB.refl _) (.inr ⟨by rfl, rfl⟩) ?_
          try simp only [Act.put, List.setIfInBounds_toArray, List.set_cons_zero, List.set_cons_succ]
          refine btake 14 (oi := _) (v := ?_) (by simp only [getElem?_toArray, getElem?_cons_succ, getElem?_cons_zero]; rfl) (by kernel_rfl) (by exact fun _ _ _ h => h) (by first | assumption | exact KB.refl _) (.inl ⟨by rfl, fun W hW => ?_⟩) ?_; rotate_left
          · (go_simp; first | done | with_reducible rfl)
          try simp only [Act.put, List.setIfInBounds_toArray, List.set_cons_zero, List.set_cons_succ]
          refine bdone (by kernel_rfl) ?_
          have hbq := hbel1.drew
          have howq := how1.below (Below.refl _ _).drew
          have hstq := hst1.below (Below.refl _ _).drew
          generalize wr.drew = wq at hbq howq hstq ⊢
          clear how1 hst1 hbel1
          have hq9 := merge_stop (l := l) (r := ⟨x, y⟩) (i := i) (by have h9 := HST.out; simp only at h9 ⊢; omega)
          rw [hq9] at hM
          have hadd9 := HADD.out
          rw [← hM] at hadd9
          obtain ⟨A2, hs2, hS2⟩ := sl_postR (A) i c i hi hc
          have hSq := hb.below hbq
          have hSd := hS2 wq w.heap.size l HN.out.1.symm hSq
          have hA0 : AtS gb [.int .i64 x, .int .i64 y] wq := stands_at hstq
          have e0 := AtS.e (g := gb) (vs := [.int .i64 x, .int .i64 y]) 0 rfl
          have e1 := AtS.e (g := gb) (vs := [.int .i64 x, .int .i64 y]) 1 rfl
          have how2 := howq.below ((Below.refl wq.heap.size wq).drew.alloc (Nat.le_refl _) (.cells #[.int .i64 x, .int .i64 y] 44))
          have hA2 := At.below hA0 ((Below.refl wq.heap.size wq).drew.alloc (Nat.le_refl _) (.cells #[.int .i64 x, .int .i64 y] 44))
          have hbx2 := hbq.drew.alloc hbq.size (.cells #[.int .i64 x, .int .i64 y] 44)
          have hsl2 := Sl.oneR wq.drew ⟨x, y⟩
          have hSd2 := hSd.below (((Below.refl wq.heap.size wq).drew.alloc (Nat.le_refl _) (.cells #[.int .i64 x, .int .i64 y] 44)).mono hbq.size)
          have hTL : (l.take i).length ≤ 10000000 := by rw [List.length_take]; omega
          have hDL : (l.drop i).length = 0 := by rw [List.length_drop, ← HN.out.1] <;> omega
          have hneq := hneO
          clear hq9 hM hSq hSd HST hstq howq m0 m1 q0 q1
          go_wp2_with fail
          have hS0 : AtS gb [.int .i64 x, .int .i64 y] wq.drew := hA0.drew
          refine bstartS (AtS gb [.int .i64 x, .int .i64 y]) (by kernel_rfl) ?_
          refine btakeS 0 (oi := _) (v := ?_) (by simp only [List.getElem?_toArray, List.getElem?_cons_zero]; rfl) (by kernel_rfl) (by exact fun _ _ _ h => h) (by first | assumption | exact KB.refl _) (.inl ⟨by rfl, fun W hW => ?_⟩) ?_; rotate_left
          · (go_simp; first | done | with_reducible rfl)
          try simp only [Act.put, List.setIfInBounds_toArray, List.set_cons_zero, List.set_cons_succ]
          refine btakeS 1 (oi := _) (v := ?_) (by simp only [getElem?_toArray, getElem?_cons_succ, getElem?_cons_zero]; rfl) (by kernel_rfl) (by exact fun _ _ _ h => h) (by first | assumption | exact KB.refl _) (.inl ⟨by rfl, fun W hW => ?_⟩) ?_; rotate_left
          · (go_simp; first | done | with_reducible rfl)
          try simp only [Act.put, List.setIfInBounds_toArray, List.set_cons_zero, List.set_cons_succ]
          refine btakeS 4 (oi := _) (v := ?_) (by simp only [getElem?_toArray, getElem?_cons_succ, getElem?_cons_zero]; rfl) (by kernel_rfl) (by exact fun _ _ _ h => h) (by first | assumption | exact KB.refl _) (.inl ⟨by rfl, fun W hW => ?_⟩) ?_; rotate_left
          · (go_simp; first | done | with_reducible rfl)
          try simp only [Act.put, List.setIfInBounds_toArray, List.set_cons_zero, List.set_cons_succ]
          refine btakeS 5 (oi := _) (v := ?_) (by simp only [getElem?_toArray, getElem?_cons_succ, getElem?_cons_zero]; rfl) (by kernel_rfl) (by exact fun _ _ _ h => h) (by first | assumption | exact KB.refl _) (.inl ⟨by rfl, fun W hW => ?_⟩) ?_; rotate_left
          · (go_simp; first | done | with_reducible rfl)
          try simp only [Act.put, List.setIfInBounds_toArray, List.set_cons_zero, List.set_cons_succ]
          refine btakeS 6 (oi := _) (v := ?_) (by simp only [getElem?_toArray, getElem?_cons_succ, getElem?_cons_zero]; rfl) (by kernel_rfl) (by exact fun _ _ _ h => h) (by first | assumption | exact KB.refl _) (.inl ⟨by rfl, fun W hW => ?_⟩) ?_; rotate_left
          · refine exec_postR (x := .tmp 79) (y := .tmp 80) (A := A) (m := i) (c := c) (j := i) ?_ ?_ ?_ hs2 _ <;> rfl
          try simp only [Act.put, List.setIfInBounds_toArray, List.set_cons_zero, List.set_cons_succ]
          -- 2: Op.buildSlice 40 1 #[(0, Operand.tmp 76)]
          refine bopS 2 (o := _) (by simp only [getElem?_toArray, getElem?_cons_succ, getElem?_cons_zero]; rfl) (by kernel_rfl) (by rfl) (fun K hK => ?_)
          go_simp
          have hkb : AtS gb [.int .i64 x, .int .i64 y] (wq.drew.alloc (.cells #[.int .i64 x, .int .i64 y] 44)) := hA2
          refine hK.out _ _ hkb ?_; clear hK K
          try simp only [Act.put, List.setIfInBounds_toArray, List.set_cons_zero, List.set_cons_succ]
          -- 3: Op.call { callee := Callee.builtin Builtin.append, args := #[Operand.tmp 75, Operand.tmp 77], argTypes := #[40, 40] }
          refine bopS 3 (o := _) (by simp only [getElem?_toArray, getElem?_cons_succ, getElem?_cons_zero]; rfl) (by kernel_rfl) (by rfl) (fun K hK => ?_)
          refine wp_appR rfl how2 hsl2 rfl rfl rfl (by rw [List.length_singleton]; omega) hbx2.size ?_
          intro v7 w7 h7 hg7 hat7
          have hb7 := own_belowR hbx2 hbx2.size how2 hg7
          have hA7 : At w7 gb [.int .i64 x, .int .i64 y] := At.grown hA2 hg7 hneq
          have hkb : AtS gb [.int .i64 x, .int .i64 y] w7 := hA7
          have hne7 : v7.ownBlock ≠ some gb := by
            rcases hat7 with h | h
            · rw [h]; exact hneq
            · rw [h]; intro e; injection e with e; have h1 := hA0.1; simp at e; omega
          refine hK.out _ _ hkb ?_; clear hK K
          try simp only [Act.put, List.setIfInBounds_toArray, List.set_cons_zero, List.set_cons_succ]
          -- 7: Op.call { callee := Callee.builtin Builtin.append, args := #[Operand.tmp 78, Operand.tmp 81], argTypes := #[40, 40] }
          refine bopS 7 (o := _) (by simp only [getElem?_toArray, getElem?_cons_succ, getElem?_cons_zero]; rfl) (by kernel_rfl) (by rfl) (fun K hK => ?_)
          refine wp_appR rfl h7 (hSd2.grown hg7 (fun g e => (how2.lt g e).1)) hDL.symm rfl rfl (by rw [hDL, List.length_append, List.length_singleton]; omega) hb7.size ?_
          intro v8 w8 h8 hg8 hat8
          have hb8 := own_belowR hb7 hb7.size h7 hg8
          have hkb : AtS gb [.int .i64 x, .int .i64 y] w8 := At.grown hA7 hg8 hne7
          refine hK.out _ _ hkb ?_; clear hK K
          try simp only [Act.put, List.setIfInBounds_toArray, List.set_cons_zero, List.set_cons_succ]
          refine btakeS 8 (oi := _) (v := ?_) (by simp only [getElem?_toArray, getElem?_cons_succ, getElem?_cons_zero]; rfl) (by kernel_rfl) (by exact fun _ _ _ h => h) (by first | assumption | exact KB.refl _) (.inl ⟨by rfl, fun W hW => ?_⟩) ?_; rotate_left
          · (go_simp; first | done | with_reducible rfl)
          try simp only [Act.put, List.setIfInBounds_toArray, List.set_cons_zero, List.set_cons_succ]
          refine bdoneS (by kernel_rfl) ?_
          clear hkb e0 e1 hS0 hA0
          have hb9 := hb8
          rw [List.append_assoc, List.singleton_append, ← hadd9] at h8
          clear hadd9
          go_wp2_with fail
          go_ret
          exact RAns.of h8 hb9

end Go.Proofs.Ytaflikgdlkaefaa
