/- Ranges: Count. -/
import Derived.Test.YtdpkmabojlihmaaRgC
namespace Go.Proofs.Ytdpkmabojlihmaa
open Go.RowKit Go.Proofs.Ytdpkmabojlihmaa.Pl Go.Proofs.Ytdpkmabojlihmaa.Sp

theorem countR_drop {l : List Rg} {k : Nat} (hk : k < l.length) : countR (l.drop k) = ((l[k]?.getD ⟨0, 0⟩).b - (l[k]?.getD ⟨0, 0⟩).a + 1) + countR (l.drop (k + 1)) := by
  rw [List.drop_eq_getElem_cons hk, List.getElem?_eq_getElem hk, Option.getD_some, countR_cons]
set_option maxRecDepth 100000 in
set_option maxHeartbeats 3200000 in
theorem RCount_any (w : World) (A : Option Addr) (n c : Nat) (l : List Rg) (hb : Sl w w.heap.size A (rv l)) (h0 : n = l.length) (hl : n ≤ 1000000000) :
    Calls Try.prog 14 #[.slice A n c] w fun e w' => e = .returned (.int .i64 (countS l)) ∧ Below w.heap.size w w' := by
  have hr := RRight_any w A n c l hb h0 hl
  obtain ⟨q, hq⟩ : ∃ q, right l = q := ⟨_, rfl⟩
  rw [hq] at hr
  have HR := Lib.hid hr
  have HN := Lib.hid h0
  clear hr h0
  cases q with
  | false =>
    have HF := Lib.hid (show countS l = 0 by rw [countS, if_neg (by rw [hq]; simp)])
    clear hq hb
    go_enter Try.func14, Try.ntmps14
    go_wp2_with fail
    refine HR.out.mono ?_
    rintro e w1 ⟨rfl, h1⟩
    go_wp2_with fail
    go_ret
    exact ⟨ret_i HF.out.symm, h1⟩
  | true =>
    have HF := Lib.hid (show countS l = countR l by rw [countS, if_pos hq])
    go_enter Try.func14, Try.ntmps14
    go_wp2_with fail
    refine HR.out.mono ?_
    rintro e w1 ⟨rfl, h1⟩
    go_wp2_with fail
    go_loopw [3, 11] (fun x3 x11 wr => ∃ (k : Nat) (s lo : Int), k ≤ n ∧ x11 = .int .i64 (k : Int) ∧ x3 = .int .i64 s ∧ okR lo (l.drop k) = true ∧ 1 ≤ lo ∧ lo ≤ 1099511627777 ∧ 0 ≤ s ∧ s ≤ lo ∧ countR l = s + countR (l.drop k) ∧ Below w.heap.size w wr) (fun _ x11 _ => n - (intOf x11).toNat)
    case atStart => exact ⟨0, 0, 1, by omega, rfl, rfl, hq, by omega, by omega, by omega, by omega, by simp, h1⟩
    case round =>
      obtain ⟨k, s, lo, hk, rfl, rfl, ho, l1, l2, s1, s2, hct, hbel⟩ := hrel
      clear hq h1
      by_cases hlt : k < n
      · have hkl : k < l.length := by have := HN.out; omega
        obtain ⟨b, o, rfl, _, hbW, c0, c1⟩ := rgAt hb hkl
        replace c0 := (hbel.cell hbW).trans c0
        replace c1 := (hbel.cell hbW).trans c1
        rw [okR_drop hkl lo] at ho
        rw [countR_drop hkl] at hct
        generalize l[k]?.getD ⟨0, 0⟩ = x at *
        rw [Bool.and_eq_true, Bool.and_eq_true, decide_eq_true_eq, ok_iff] at ho
        obtain ⟨⟨g1, g2, g3, g4⟩, g5⟩ := ho
        unfold mx at g4
        have hd1 : decide ((k : Int) < (n : Int)) = true := by rw [decide_eq_true_eq]; omega
        have hn0 : (0 : Int) ≤ (k : Int) := by omega
        have hn1 : (k : Int) < (n : Int) := by omega
        have w1' : IntKind.i64.wrap (x.b - x.a) = x.b - x.a := by rw [IntKind.wrap_i64]; omega
        have w2' : IntKind.i64.wrap (x.b - x.a + 1) = x.b - x.a + 1 := by rw [IntKind.wrap_i64]; omega
        have w3' : IntKind.i64.wrap (s + (x.b - x.a + 1)) = s + (x.b - x.a + 1) := by rw [IntKind.wrap_i64]; omega
        have hbx := hbel.alloc hbel.size (.cells #[.int .i64 x.a, .int .i64 x.b] 24)
        have HS := Lib.hid (And.intro g5 (show countR l = s + (x.b - x.a + 1) + countR (l.drop (k + 1)) by rw [hct]; omega))
        have HB := Lib.hid (show 1 ≤ x.b + 2 ∧ x.b + 2 ≤ 1099511627777 ∧ 0 ≤ s + (x.b - x.a + 1) ∧ s + (x.b - x.a + 1) ≤ x.b + 2 by omega)
        clear g1 g2 g3 g4 g5 hct l1 l2 s1 s2
        go_wp2_with fail
        go_roundw
        case rel => exact ⟨k + 1, s + (x.b - x.a + 1), x.b + 2, by omega, by go_num, rfl, HS.out.1, HB.out.1, HB.out.2.1, HB.out.2.2.1, HB.out.2.2.2, HS.out.2, hbx⟩
        case measure => simp [intOf]; omega
      · obtain rfl : k = n := by omega
        have hd1 : decide ((k : Int) < (k : Int)) = false := by rw [decide_eq_false_iff_not]; omega
        have HE := Lib.hid (show countS l = s by rw [HF.out, hct, HN.out, List.drop_length]; simp [countR])
        clear hct ho
        go_wp2_with fail
        go_ret
        exact ⟨ret_i HE.out.symm, hbel⟩
set_option maxRecDepth 100000 in
set_option maxHeartbeats 3200000 in
theorem RRCount_any (w : World) (A : Option Addr) (n c : Nat) (l : List Rg) (hb : Sl w w.heap.size A (rv l)) (h0 : n = l.length) (hl : n ≤ 1000000000) :
    Calls Try.prog 15 #[.slice A n c] w fun e w' => e = .returned (.int .i64 (countS l)) ∧ Below w.heap.size w w' := by
  have hr := fun W (hW : Below w.heap.size w W) => RRRight_any W A n c l ((hb.below hW).more hW.size) h0 hl
  obtain ⟨q, hq⟩ : ∃ q, right l = q := ⟨_, rfl⟩
  rw [hq] at hr
  have HR := Lib.hid hr
  have HN := Lib.hid h0
  have hpos : q = false → 0 < n := fun e => by
    cases l with
    | nil => rw [← hq] at e; cases e
    | cons x t => rw [h0]; simp
  clear hr h0
  cases q with
  | false =>
    have HF := Lib.hid (show countS l = 0 by rw [countS, if_neg (by rw [hq]; simp)])
    have hn := hpos rfl
    clear hq hb hpos
    go_enter Try.func15, Try.ntmps15
    go_wp2_with fail
    go_loopw [3, 4] (fun x3 x4 wr => x3 = .int .i64 0 ∧ x4 = .int .i64 0 ∧ Below w.heap.size w wr) (fun _ _ _ => 0)
    case atStart => exact ⟨rfl, rfl, Below.refl _ _⟩
    case round =>
      obtain ⟨rfl, rfl, hbel⟩ := hrel
      have hd1 : decide ((0 : Int) < (n : Int)) = true := by rw [decide_eq_true_eq]; omega
      go_wp2_with fail
      refine (HR.out _ hbel).mono ?_
      rintro e w1 ⟨rfl, h1⟩
      have hbz := hbel.trans (h1.mono hbel.size)
      go_wp2_with fail
      go_ret
      exact ⟨ret_i HF.out.symm, hbz⟩
  | true =>
    have HF := Lib.hid (show countS l = countR l by rw [countS, if_pos hq])
    clear hpos
    go_enter Try.func15, Try.ntmps15
    go_wp2_with fail
    go_loopw [3, 4] (fun x3 x4 wr => ∃ (k : Nat) (s lo : Int), k ≤ n ∧ x4 = .int .i64 (k : Int) ∧ x3 = .int .i64 s ∧ okR lo (l.drop k) = true ∧ 1 ≤ lo ∧ lo ≤ 1099511627777 ∧ 0 ≤ s ∧ s ≤ lo ∧ countR l = s + countR (l.drop k) ∧ Below w.heap.size w wr) (fun _ x4 _ => n - (intOf x4).toNat)
    case atStart => exact ⟨0, 0, 1, by omega, rfl, rfl, hq, by omega, by omega, by omega, by omega, by simp, Below.refl _ _⟩
    case round =>
      obtain ⟨k, s, lo, hk, rfl, rfl, ho, l1, l2, s1, s2, hct, hbel⟩ := hrel
      clear hq
      by_cases hlt : k < n
      · have hkl : k < l.length := by have := HN.out; omega
        obtain ⟨b, o, rfl, _, hbW, c0, c1⟩ := rgAt hb hkl
        rw [okR_drop hkl lo] at ho
        rw [countR_drop hkl] at hct
        generalize l[k]?.getD ⟨0, 0⟩ = x at *
        rw [Bool.and_eq_true, Bool.and_eq_true, decide_eq_true_eq, ok_iff] at ho
        obtain ⟨⟨g1, g2, g3, g4⟩, g5⟩ := ho
        unfold mx at g4
        have hd1 : decide ((k : Int) < (n : Int)) = true := by rw [decide_eq_true_eq]; omega
        have hn0 : (0 : Int) ≤ (k : Int) := by omega
        have hn1 : (k : Int) < (n : Int) := by omega
        have w1' : IntKind.i64.wrap (x.b - x.a) = x.b - x.a := by rw [IntKind.wrap_i64]; omega
        have w2' : IntKind.i64.wrap (x.b - x.a + 1) = x.b - x.a + 1 := by rw [IntKind.wrap_i64]; omega
        have w3' : IntKind.i64.wrap (s + (x.b - x.a + 1)) = s + (x.b - x.a + 1) := by rw [IntKind.wrap_i64]; omega
        have HS := Lib.hid (And.intro g5 (show countR l = s + (x.b - x.a + 1) + countR (l.drop (k + 1)) by rw [hct]; omega))
        have HB := Lib.hid (show 1 ≤ x.b + 2 ∧ x.b + 2 ≤ 1099511627777 ∧ 0 ≤ s + (x.b - x.a + 1) ∧ s + (x.b - x.a + 1) ≤ x.b + 2 by omega)
        clear g1 g2 g3 g4 g5 hct l1 l2 s1 s2
        go_wp2_with fail
        refine (HR.out _ hbel).mono ?_
        rintro e w1 ⟨rfl, h1⟩
        have hbz := hbel.trans (h1.mono hbel.size)
        have e0 := cellB ((hbz.cell hbW).trans c0)
        have e1 := cellB ((hbz.cell hbW).trans c1)
        go_wp2_with fail
        refine bstart (by kernel_rfl) ?_
        refine btake 0 (oi := _) (v := ?_) (by simp only [List.getElem?_toArray, List.getElem?_cons_zero]; rfl) (by kernel_rfl) (by exact fun _ _ _ h => h) (by first | assumption | exact KB.refl _) (.inl ⟨by rfl, fun W hW => ?_⟩) ?_; rotate_left
        · (go_simp; first | done | with_reducible rfl)
        try simp only [Act.put, List.setIfInBounds_toArray, List.set_cons_zero, List.set_cons_succ]
        refine btake 1 (oi := _) (v := ?_) (by simp only [List.getElem?_toArray, List.getElem?_cons_succ, List.getElem?_cons_zero]; rfl) (by kernel_rfl) (by exact fun _ _ _ h => h) (by first | assumption | exact KB.refl _) (.inl ⟨by rfl, fun W hW => ?_⟩) ?_; rotate_left
        · (go_simp; first | done | with_reducible rfl)
        try simp only [Act.put, List.setIfInBounds_toArray, List.set_cons_zero, List.set_cons_succ]
        refine btake 2 (oi := _) (v := ?_) (by simp only [List.getElem?_toArray, List.getElem?_cons_succ, List.getElem?_cons_zero]; rfl) (by kernel_rfl) (by exact fun _ _ _ h => h) (by first | assumption | exact KB.refl _) (.inl ⟨by rfl, fun W hW => ?_⟩) ?_; rotate_left
        · (go_simp; first | done | with_reducible rfl)
        try simp only [Act.put, List.setIfInBounds_toArray, List.set_cons_zero, List.set_cons_succ]
        refine btake 3 (oi := _) (v := ?_) (by simp only [List.getElem?_toArray, List.getElem?_cons_succ, List.getElem?_cons_zero]; rfl) (by kernel_rfl) (by exact fun _ _ _ h => h) (by first | assumption | exact KB.refl _) (.inl ⟨by rfl, fun W hW => ?_⟩) ?_; rotate_left
        · (go_simp; first | done | with_reducible rfl)
        try simp only [Act.put, List.setIfInBounds_toArray, List.set_cons_zero, List.set_cons_succ]
        refine btake 4 (oi := _) (v := ?_) (by simp only [List.getElem?_toArray, List.getElem?_cons_succ, List.getElem?_cons_zero]; rfl) (by kernel_rfl) (by exact fun _ _ _ h => h) (by first | assumption | exact KB.refl _) (.inl ⟨by rfl, fun W hW => ?_⟩) ?_; rotate_left
        · (go_simp; first | done | with_reducible rfl)
        try simp only [Act.put, List.setIfInBounds_toArray, List.set_cons_zero, List.set_cons_succ]
        refine btake 5 (oi := _) (v := ?_) (by simp only [List.getElem?_toArray, List.getElem?_cons_succ, List.getElem?_cons_zero]; rfl) (by kernel_rfl) (by exact fun _ _ _ h => h) (by first | assumption | exact KB.refl _) (.inl ⟨by rfl, fun W hW => ?_⟩) ?_; rotate_left
        · (go_simp; first | done | with_reducible rfl)
        try simp only [Act.put, List.setIfInBounds_toArray, List.set_cons_zero, List.set_cons_succ]
        refine btake 6 (oi := _) (v := ?_) (by simp only [List.getElem?_toArray, List.getElem?_cons_succ, List.getElem?_cons_zero]; rfl) (by kernel_rfl) (by exact fun _ _ _ h => h) (by first | assumption | exact KB.refl _) (.inl ⟨by rfl, fun W hW => ?_⟩) ?_; rotate_left
        · (go_simp; first | done | with_reducible rfl)
        try simp only [Act.put, List.setIfInBounds_toArray, List.set_cons_zero, List.set_cons_succ]
        refine btake 7 (oi := _) (v := ?_) (by simp only [List.getElem?_toArray, List.getElem?_cons_succ, List.getElem?_cons_zero]; rfl) (by kernel_rfl) (by exact fun _ _ _ h => h) (by first | assumption | exact KB.refl _) (.inl ⟨by rfl, fun W hW => ?_⟩) ?_; rotate_left
        · (go_simp; first | done | with_reducible rfl)
        try simp only [Act.put, List.setIfInBounds_toArray, List.set_cons_zero, List.set_cons_succ]
        refine btake 8 (oi := _) (v := ?_) (by simp only [List.getElem?_toArray, List.getElem?_cons_succ, List.getElem?_cons_zero]; rfl) (by kernel_rfl) (by exact fun _ _ _ h => h) (by first | assumption | exact KB.refl _) (.inl ⟨by rfl, fun W hW => ?_⟩) ?_; rotate_left
        · (go_simp; first | done | with_reducible rfl)
        try simp only [Act.put, List.setIfInBounds_toArray, List.set_cons_zero, List.set_cons_succ]
        refine btake 9 (oi := _) (v := ?_) (by simp only [List.getElem?_toArray, List.getElem?_cons_succ, List.getElem?_cons_zero]; rfl) (by kernel_rfl) (by exact fun _ _ _ h => h) (by first | assumption | exact KB.refl _) (.inl ⟨by rfl, fun W hW => ?_⟩) ?_; rotate_left
        · (go_simp; first | done | with_reducible rfl)
        try simp only [Act.put, List.setIfInBounds_toArray, List.set_cons_zero, List.set_cons_succ]
        refine btake 10 (oi := _) (v := ?_) (by simp only [List.getElem?_toArray, List.getElem?_cons_succ, List.getElem?_cons_zero]; rfl) (by kernel_rfl) (by exact fun _ _ _ h => h) (by first | assumption | exact KB.refl _) (.inl ⟨by rfl, fun W hW => ?_⟩) ?_; rotate_left
        · (go_simp; first | done | with_reducible rfl)
        try simp only [Act.put, List.setIfInBounds_toArray, List.set_cons_zero, List.set_cons_succ]
        refine btake 11 (oi := _) (v := ?_) (by simp only [List.getElem?_toArray, List.getElem?_cons_succ, List.getElem?_cons_zero]; rfl) (by kernel_rfl) (by exact fun _ _ _ h => h) (by first | assumption | exact KB.refl _) (.inl ⟨by rfl, fun W hW => ?_⟩) ?_; rotate_left
        · (go_simp; first | done | with_reducible rfl)
        try simp only [Act.put, List.setIfInBounds_toArray, List.set_cons_zero, List.set_cons_succ]
        refine btake 12 (oi := _) (v := ?_) (by simp only [List.getElem?_toArray, List.getElem?_cons_succ, List.getElem?_cons_zero]; rfl) (by kernel_rfl) (by exact fun _ _ _ h => h) (by first | assumption | exact KB.refl _) (.inl ⟨by rfl, fun W hW => ?_⟩) ?_; rotate_left
        · (go_simp; first | done | with_reducible rfl)
        try simp only [Act.put, List.setIfInBounds_toArray, List.set_cons_zero, List.set_cons_succ]
        refine btake 13 (oi := _) (v := ?_) (by simp only [List.getElem?_toArray, List.getElem?_cons_succ, List.getElem?_cons_zero]; rfl) (by kernel_rfl) (by exact fun _ _ _ h => h) (by first | assumption | exact KB.refl _) (.inl ⟨by rfl, fun W hW => ?_⟩) ?_; rotate_left
        · (go_simp; first | done | with_reducible rfl)
        try simp only [Act.put, List.setIfInBounds_toArray, List.set_cons_zero, List.set_cons_succ]
        refine btake 14 (oi := _) (v := ?_) (by simp only [List.getElem?_toArray, List.getElem?_cons_succ, List.getElem?_cons_zero]; rfl) (by kernel_rfl) (by exact fun _ _ _ h => h) (by first | assumption | exact KB.refl _) (.inl ⟨by rfl, fun W hW => ?_⟩) ?_; rotate_left
        · (go_simp; first | done | with_reducible rfl)
        try simp only [Act.put, List.setIfInBounds_toArray, List.set_cons_zero, List.set_cons_succ]
        refine bdone (by kernel_rfl) ?_
        have hby := hbz.drew
        clear e0 e1 h1 hbz hbel
        go_wp2_with fail
        go_roundw
        case rel => exact ⟨k + 1, s + (x.b - x.a + 1), x.b + 2, by omega, by go_num, rfl, HS.out.1, HB.out.1, HB.out.2.1, HB.out.2.2.1, HB.out.2.2.2, HS.out.2, hby⟩
        case measure => simp [intOf]; omega
      · obtain rfl : k = n := by omega
        have hd1 : decide ((k : Int) < (k : Int)) = false := by rw [decide_eq_false_iff_not]; omega
        have HE := Lib.hid (show countS l = s by rw [HF.out, hct, HN.out, List.drop_length]; simp [countR])
        clear hct ho
        go_wp2_with fail
        go_ret
        exact ⟨ret_i HE.out.symm, hbel⟩
end Go.Proofs.Ytdpkmabojlihmaa

