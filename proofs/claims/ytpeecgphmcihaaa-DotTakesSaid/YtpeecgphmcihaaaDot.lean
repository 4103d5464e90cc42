/- Dots: the walks of what is asked of one or two. -/
import Derived.Test.YtpeecgphmcihaaaD2
import Derived.Sort.Grow
namespace Go.Proofs.Ytpeecgphmcihaaa
open Go.RowKit Go.Proofs.Ytpeecgphmcihaaa.Pl Go.Proofs.Ytpeecgphmcihaaa.Dt Go.Sort

def cmp3 (a b : Int) : Int := if a < b then -1 else if b < a then 1 else 0
def or2 (a b : Int) : Int := if a ≠ 0 then a else b
def cmpD2 (a b : D2) : Int := or2 (cmp3 a.r b.r) (cmp3 a.q b.q)
theorem cmpD2_lt (a b : D2) : decide (cmpD2 a b < 0) = a.lt b := by
  unfold cmpD2 or2 cmp3 D2.lt
  rw [decide_eq_decide]
  (repeat' split) <;> omega
set_option maxRecDepth 100000 in
theorem DRight_any (w : World) (s : D2) :
    Calls Try.prog 9 #[s.v] w fun e w' => e = .returned (.bool s.right) ∧ Below w.heap.size w w' := by
  unfold D2.v
  obtain ⟨r, q⟩ := s
  go_enter Try.func9, Try.ntmps9
  go_wp2_with fail
  all_goals
    go_ret
    refine ⟨ret_b ?_, (Below.refl _ _).alloc (Nat.le_refl _) _⟩
    simp only [D2.right]
    first | (rw [eq_comm, decide_eq_false_iff_not]; omega) | (rw [decide_eq_decide]; omega)
set_option maxRecDepth 100000 in
theorem RDRight_any (w : World) (s : D2) :
    Calls Try.prog 10 #[s.v] w fun e w' => e = .returned (.bool s.right) ∧ Below w.heap.size w w' := by
  unfold D2.v
  obtain ⟨r, q⟩ := s
  go_enter Try.func10, Try.ntmps10
  go_wp2_with fail
  all_goals
    go_ret
    refine ⟨ret_b ?_, (Below.refl _ _).alloc (Nat.le_refl _) _⟩
    simp only [D2.right]
    first | (rw [eq_comm, decide_eq_false_iff_not]; omega) | (rw [decide_eq_decide]; omega)
set_option maxRecDepth 100000 in
theorem RDLess_any (w : World) (s t : D2) :
    Calls Try.prog 12 #[s.v, t.v] w fun e w' => e = .returned (.bool (s.lt t)) ∧ Below w.heap.size w w' := by
  unfold D2.v
  obtain ⟨r, q⟩ := s
  obtain ⟨r', q'⟩ := t
  go_enter Try.func12, Try.ntmps12
  go_wp2_with fail
  all_goals
    go_ret
    refine ⟨ret_b ?_, ((Below.refl _ _).alloc (Nat.le_refl _) _).alloc (by simp) _⟩
    simp only [D2.lt]
    first
      | (rw [eq_comm, decide_eq_false_iff_not]; (try simp only [beq_iff_eq, beq_eq_false_iff_ne, ne_eq] at *); omega)
      | (rw [eq_comm, decide_eq_true_eq]; (try simp only [beq_iff_eq, beq_eq_false_iff_ne, ne_eq] at *); omega)
      | (rw [decide_eq_decide]; (try simp only [beq_iff_eq, beq_eq_false_iff_ne, ne_eq] at *); omega)
set_option maxRecDepth 100000 in
theorem isNaN_int64 (w : World) (a : Int) : Calls Try.prog 43 #[.int .i64 a] w fun e w' => e = .returned (.bool false) ∧ w = w' := by
  go_enter Try.func43, Try.ntmps43
  go_wp2_with fail
  go_ret
  exact ⟨rfl, rfl⟩
set_option maxRecDepth 100000 in
theorem Compare_int64 (w : World) (a b : Int) : Calls Try.prog 38 #[.int .i64 a, .int .i64 b] w fun e w' => e = .returned (.int .i64 (cmp3 a b)) ∧ w = w' := by
  go_enter Try.func38, Try.ntmps38
  go_wp2_with (go_at_call 43; refine (isNaN_int64 _ _).mono ?_; rintro e w' ⟨rfl, rfl⟩)
  all_goals
    go_ret
    refine ⟨ret_i ?_, rfl⟩
    unfold cmp3
    first | (rw [if_pos (by omega)]) | (rw [if_neg (by omega), if_pos (by omega)]) | (rw [if_neg (by omega), if_neg (by omega)])
set_option maxRecDepth 100000 in
theorem isNaN_int (w : World) (a : Int) : Calls Try.prog 42 #[.int .i64 a] w fun e w' => e = .returned (.bool false) ∧ w = w' := by
  go_enter Try.func42, Try.ntmps42
  go_wp2_with fail
  go_ret
  exact ⟨rfl, rfl⟩
set_option maxRecDepth 100000 in
theorem Compare_int (w : World) (a b : Int) : Calls Try.prog 37 #[.int .i64 a, .int .i64 b] w fun e w' => e = .returned (.int .i64 (cmp3 a b)) ∧ w = w' := by
  go_enter Try.func37, Try.ntmps37
  go_wp2_with (go_at_call 42; refine (isNaN_int _ _).mono ?_; rintro e w' ⟨rfl, rfl⟩)
  all_goals
    go_ret
    refine ⟨ret_i ?_, rfl⟩
    unfold cmp3
    first | (rw [if_pos (by omega)]) | (rw [if_neg (by omega), if_pos (by omega)]) | (rw [if_neg (by omega), if_neg (by omega)])
set_option maxRecDepth 100000 in
theorem Or2_any (w : World) (g : Nat) (a b : Int) (h0 : w.cell? ⟨g, 0, none⟩ = some (.int .i64 a)) (h1 : w.cell? ⟨g, 1, none⟩ = some (.int .i64 b)) :
    Calls Try.prog 36 #[.slice (some ⟨g, 0, none⟩) 2 2] w fun e w' => e = .returned (.int .i64 (or2 a b)) ∧ w = w' := by
  go_enter Try.func36, Try.ntmps36
  go_wp2_with fail
  go_loop [8] (fun x8 => ∃ k : Nat, k ≤ 2 ∧ x8 = .int .i64 (k : Int) ∧ (1 ≤ k → a = 0) ∧ (2 ≤ k → b = 0)) (fun x8 => 2 - (intOf x8).toNat)
  case atStart => exact ⟨0, by omega, rfl, by omega, by omega⟩
  case round =>
    obtain ⟨k, hk, rfl, q1, q2⟩ := hrel
    rcases (by omega : k = 0 ∨ k = 1 ∨ k = 2) with rfl | rfl | rfl
    · clear q1 q2
      by_cases hz : a = 0
      · have hn : (a != 0) = false := by simp [hz]
        go_wp2_with fail
        go_round
        case rel => exact ⟨1, by omega, by go_num, fun _ => hz, by omega⟩
        case measure => simp [intOf]
      · have hn : (a != 0) = true := by simp [hz]
        go_wp2_with fail
        go_ret
        exact ⟨ret_i (by unfold or2; rw [if_pos hz]), rfl⟩
    · have ha := q1 (by omega)
      clear q1 q2
      by_cases hz : b = 0
      · have hn : (b != 0) = false := by simp [hz]
        go_wp2_with fail
        go_round
        case rel => exact ⟨2, by omega, by go_num, fun _ => ha, fun _ => hz⟩
        case measure => simp [intOf]
      · have hn : (b != 0) = true := by simp [hz]
        have Ha := Lib.hid ha
        clear ha
        go_wp2_with fail
        go_ret
        exact ⟨ret_i (by unfold or2; rw [if_neg (by simp [Ha.out])]), rfl⟩
    · have ha := Lib.hid (q1 (by omega))
      have hb := Lib.hid (q2 (by omega))
      clear q1 q2
      go_wp2_with fail
      go_ret
      exact ⟨ret_i (by unfold or2; rw [if_neg (by simp [ha.out]), hb.out]), rfl⟩
def Grew (w w' : World) : Prop := ∃ q os', w' = grow (w.drewN q) os'
set_option maxRecDepth 100000 in
set_option maxHeartbeats 1600000 in
theorem order_any (w : World) (s t : D2) :
    Calls Try.prog 26 #[s.v, t.v] w fun e w' => e = .returned (.int .i64 (cmpD2 s t)) ∧ Grew w w' ∧ Below w.heap.size w w' := by
  unfold D2.v cmpD2
  obtain ⟨r, q⟩ := s
  obtain ⟨r', q'⟩ := t
  have hg : ∀ x : Obj, Grew w (((w.alloc (.cells #[.int .i64 r, .int .i64 q] 23)).alloc (.cells #[.int .i64 r', .int .i64 q'] 23)).drew.alloc x) := fun x => ⟨1, _, by
    rw [alloc_eq_grow, alloc_eq_grow, alloc_eq_grow, grow_grow, drew_grow, grow_grow]; rfl⟩
  go_enter Try.func26, Try.ntmps26
  go_wp2_with fail
  generalize hwa : w.alloc (.cells #[.int .i64 r, .int .i64 q] 23) = wa at *
  obtain ⟨c0, c1⟩ : wa.cell? ⟨w.heap.size, 0, none⟩ = some (.int .i64 r) ∧ wa.cell? ⟨w.heap.size, 1, none⟩ = some (.int .i64 q) := by rw [← hwa]; exact cell2 _ _ _ _
  have hsz : wa.heap.size = w.heap.size + 1 := by rw [← hwa]; simp
  have hba : Below w.heap.size w wa := by rw [← hwa]; exact (Below.refl _ _).alloc (Nat.le_refl _) _
  generalize hwb : wa.alloc (.cells #[.int .i64 r', .int .i64 q'] 23) = wb at *
  obtain ⟨d0, d1⟩ : wb.cell? ⟨wa.heap.size, 0, none⟩ = some (.int .i64 r') ∧ wb.cell? ⟨wa.heap.size, 1, none⟩ = some (.int .i64 q') := by rw [← hwb]; exact cell2 _ _ _ _
  have hbb : Below wa.heap.size wa wb := by rw [← hwb]; exact (Below.refl _ _).alloc (Nat.le_refl _) _
  have e0 := cellB ((hbb.cell (p := ⟨w.heap.size, 0, none⟩) (by simp; omega)).trans c0)
  have e1 := cellB ((hbb.cell (p := ⟨w.heap.size, 1, none⟩) (by simp; omega)).trans c1)
  have e3 := cellB d0
  have e4 := cellB d1
  have hbw := bstep hba hbb
  rw [hsz] at e3 e4
  clear c0 c1 d0 d1 hwa hwb hsz
  refine bstart (by kernel_rfl) ?_
  refine btake 0 (oi := _) (v := ?_) (by simp only [List.getElem?_toArray, List.getElem?_cons_zero]; rfl) (by kernel_rfl) (by exact fun _ _ _ h => h) (by first | assumption | exact KB.refl _) (.inl ⟨by rfl, fun W hW => ?_⟩) ?_; rotate_left
  · (go_simp; first | done | with_reducible rfl)
  try simp only [Act.put, List.setIfInBounds_toArray, List.set_cons_zero, List.set_cons_succ]
  refine btake 1 (oi := _) (v := ?_) (by simp only [List.getElem?_toArray, List.getElem?_cons_succ, List.getElem?_cons_zero]; rfl) (by kernel_rfl) (by exact fun _ _ _ h => h) (by first | assumption | exact KB.refl _) (.inl ⟨by rfl, fun W hW => ?_⟩) ?_; rotate_left
  · (go_simp; first | done | with_reducible rfl)
  try simp only [Act.put, List.setIfInBounds_toArray, List.set_cons_zero, List.set_cons_succ]
  refine btake 2 (oi := _) (v := ?_) (by simp only [List.getElem?_toArray, List.getElem?_cons_succ, List.getElem?_cons_zero]; rfl) (by kernel_rfl) (by exact fun _ _ _ h => h) (by first | assumption | exact KB.refl _) (.inl ⟨by rfl, fun W hW => ?_⟩) ?_; rotate_left
  · (go_simp; first | done | with_reducible rfl)
  try simp only [Act.put, List.setIfInBounds_toArray, List.set_cons_zero, List.set_cons_succ]
  refine btake 3 (oi := _) (v := ?_) (by simp only [List.getElem?_toArray, List.getElem?_cons_succ, List.getElem?_cons_zero]; rfl) (by kernel_rfl) (by exact fun _ _ _ h => h) (by first | assumption | exact KB.refl _) (.inl ⟨by rfl, fun W hW => ?_⟩) ?_; rotate_left
  · (go_simp; first | done | with_reducible rfl)
  try simp only [Act.put, List.setIfInBounds_toArray, List.set_cons_zero, List.set_cons_succ]
  -- 4: cmp.Compare[int]
  refine bquiet 4 (oi := _) ?_ (by simp only [List.getElem?_toArray, List.getElem?_cons_succ, List.getElem?_cons_zero]; rfl) (by kernel_rfl) (by exact fun _ _ _ h => h) (by first | assumption | exact KB.refl _) (by rfl) (fun W hW => by go_simp; first | done | exact ⟨rfl, rfl⟩ | rfl) (fun W hW => ?_) ?_; rotate_left
  · exact Compare_int W r r'
  try simp only [Act.put, List.setIfInBounds_toArray, List.set_cons_zero, List.set_cons_succ]
  refine btake 5 (oi := _) (v := ?_) (by simp only [List.getElem?_toArray, List.getElem?_cons_succ, List.getElem?_cons_zero]; rfl) (by kernel_rfl) (by exact fun _ _ _ h => h) (by first | assumption | exact KB.refl _) (.inl ⟨by rfl, fun W hW => ?_⟩) ?_; rotate_left
  · (go_simp; first | done | with_reducible rfl)
  try simp only [Act.put, List.setIfInBounds_toArray, List.set_cons_zero, List.set_cons_succ]
  refine btake 6 (oi := _) (v := ?_) (by simp only [List.getElem?_toArray, List.getElem?_cons_succ, List.getElem?_cons_zero]; rfl) (by kernel_rfl) (by exact fun _ _ _ h => h) (by first | assumption | exact KB.refl _) (.inl ⟨by rfl, fun W hW => ?_⟩) ?_; rotate_left
  · (go_simp; first | done | with_reducible rfl)
  try simp only [Act.put, List.setIfInBounds_toArray, List.set_cons_zero, List.set_cons_succ]
  refine btake 7 (oi := _) (v := ?_) (by simp only [List.getElem?_toArray, List.getElem?_cons_succ, List.getElem?_cons_zero]; rfl) (by kernel_rfl) (by exact fun _ _ _ h => h) (by first | assumption | exact KB.refl _) (.inl ⟨by rfl, fun W hW => ?_⟩) ?_; rotate_left
  · (go_simp; first | done | with_reducible rfl)
  try simp only [Act.put, List.setIfInBounds_toArray, List.set_cons_zero, List.set_cons_succ]
  refine btake 8 (oi := _) (v := ?_) (by simp only [List.getElem?_toArray, List.getElem?_cons_succ, List.getElem?_cons_zero]; rfl) (by kernel_rfl) (by exact fun _ _ _ h => h) (by first | assumption | exact KB.refl _) (.inl ⟨by rfl, fun W hW => ?_⟩) ?_; rotate_left
  · (go_simp; first | done | with_reducible rfl)
  try simp only [Act.put, List.setIfInBounds_toArray, List.set_cons_zero, List.set_cons_succ]
  -- 9: cmp.Compare[int64]
  refine bquiet 9 (oi := _) ?_ (by simp only [List.getElem?_toArray, List.getElem?_cons_succ, List.getElem?_cons_zero]; rfl) (by kernel_rfl) (by exact fun _ _ _ h => h) (by first | assumption | exact KB.refl _) (by rfl) (fun W hW => by go_simp; first | done | exact ⟨rfl, rfl⟩ | rfl) (fun W hW => ?_) ?_; rotate_left
  · exact Compare_int64 W q q'
  try simp only [Act.put, List.setIfInBounds_toArray, List.set_cons_zero, List.set_cons_succ]
  -- 10: Op.buildSlice 71 2 #[(0, Operand.tmp 9), (1, Operand.tmp 14)]
  refine bop 10 (o := _) (by simp only [List.getElem?_toArray, List.getElem?_cons_succ, List.getElem?_cons_zero]; rfl) (by kernel_rfl) (by first | assumption | exact KB.refl _) (by rfl) (fun K hK => ?_)
  go_simp
  have hkb := KB.alloc wb.drew (.cells #[.int .i64 (cmp3 r r'), .int .i64 (cmp3 q q')] 3)
  refine hK.out _ _ hkb ?_; clear hK K
  try simp only [Act.put, List.setIfInBounds_toArray, List.set_cons_zero, List.set_cons_succ]
  -- 11: cmp.Or[int]
  refine bop 11 (o := _) (by simp only [List.getElem?_toArray, List.getElem?_cons_succ, List.getElem?_cons_zero]; rfl) (by kernel_rfl) (by first | assumption | exact KB.refl _) (by rfl) (fun K hK => ?_)
  go_simp
  refine (Or2_any _ wb.heap.size (cmp3 r r') (cmp3 q q') (cell2 wb.drew _ _ _).1 (cell2 wb.drew _ _ _).2).mono ?_
  rintro e w3 ⟨rfl, rfl⟩
  have hkb := KB.refl (wb.drew.alloc (.cells #[.int .i64 (cmp3 r r'), .int .i64 (cmp3 q q')] 3))
  refine hK.out _ _ hkb ?_; clear hK K
  try simp only [Act.put, List.setIfInBounds_toArray, List.set_cons_zero, List.set_cons_succ]
  refine btake 12 (oi := _) (v := ?_) (by simp only [List.getElem?_toArray, List.getElem?_cons_succ, List.getElem?_cons_zero]; rfl) (by kernel_rfl) (by exact fun _ _ _ h => h) (by first | assumption | exact KB.refl _) (.inl ⟨by rfl, fun W hW => ?_⟩) ?_; rotate_left
  · (go_simp; first | done | with_reducible rfl)
  try simp only [Act.put, List.setIfInBounds_toArray, List.set_cons_zero, List.set_cons_succ]
  refine bdone (by kernel_rfl) ?_
  go_wp2_with fail
  go_ret
  exact ⟨rfl, hg _, (hbw.drew.alloc hbw.size _)⟩
set_option maxRecDepth 100000 in
theorem DLess_any (w : World) (s t : D2) :
    Calls Try.prog 11 #[s.v, t.v] w fun e w' => e = .returned (.bool (s.lt t)) ∧ Below w.heap.size w w' := by
  have hoc := Lib.hid (cmpD2_lt s t)
  have ho := order_any ((w.alloc (.cells #[.int .i64 s.r, .int .i64 s.q] 23)).alloc (.cells #[.int .i64 t.r, .int .i64 t.q] 23)) s t
  have hb := balloc (balloc (Below.refl w.heap.size w) (.cells #[.int .i64 s.r, .int .i64 s.q] 23)) (.cells #[.int .i64 t.r, .int .i64 t.q] 23)
  generalize cmpD2 s t = k at *
  unfold D2.v at *
  go_enter Try.func11, Try.ntmps11
  go_wp2_with fail
  refine ho.mono ?_
  rintro e w3 ⟨rfl, _, hb3⟩
  go_wp2_with fail
  go_ret
  exact ⟨ret_b hoc.out, hb.trans (hb3.mono hb.size)⟩
end Go.Proofs.Ytpeecgphmcihaaa

