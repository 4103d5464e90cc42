/- Stamps: the walks of what is asked of one or two. -/
import Derived.Test.YthpooogjlmaemaaS3
import Derived.Test.YthpooogjlmaemaaPStamp
namespace Go.Proofs.Ythpooogjlmaemaa
open Go.RowKit Go.Proofs.Ythpooogjlmaemaa.Pl

set_option maxRecDepth 100000 in
theorem Right_any (w : World) (s : S3) :
    Calls Try.prog 15 #[s.v] w fun e w' => e = .returned (.bool s.right) ∧ Below w.heap.size w w' := by
  unfold S3.v
  obtain ⟨p, l, r⟩ := s
  go_enter Try.func15, Try.ntmps15
  go_wp2_with fail
  all_goals
    go_ret
    refine ⟨ret_b ?_, (Below.refl _ _).alloc (Nat.le_refl _) _⟩
    simp only [S3.right]
    first | (rw [eq_comm, decide_eq_false_iff_not]; omega) | (rw [decide_eq_decide]; omega)
set_option maxRecDepth 100000 in
theorem RefRight_any (w : World) (s : S3) :
    Calls Try.prog 16 #[s.v] w fun e w' => e = .returned (.bool s.right) ∧ Below w.heap.size w w' := by
  unfold S3.v
  obtain ⟨p, l, r⟩ := s
  go_enter Try.func16, Try.ntmps16
  go_wp2_with fail
  all_goals
    go_ret
    refine ⟨ret_b ?_, (Below.refl _ _).alloc (Nat.le_refl _) _⟩
    simp only [S3.right]
    first | (rw [eq_comm, decide_eq_false_iff_not]; omega) | (rw [decide_eq_decide]; omega)
set_option maxRecDepth 100000 in
theorem RefLess_any (w : World) (s t : S3) :
    Calls Try.prog 13 #[s.v, t.v] w fun e w' => e = .returned (.bool (s.lt t)) ∧ Below w.heap.size w w' := by
  unfold S3.v
  obtain ⟨p, l, r⟩ := s
  obtain ⟨p', l', r'⟩ := t
  go_enter Try.func13, Try.ntmps13
  go_wp2_with fail
  all_goals
    go_ret
    refine ⟨ret_b ?_, ((Below.refl _ _).alloc (Nat.le_refl _) _).alloc (by simp) _⟩
    simp only [S3.lt]
    rw [decide_eq_decide]
    simp only [bne_iff_ne, bne_eq_false_iff_eq, ne_eq] at *
    omega
set_option maxRecDepth 100000 in
theorem isNaN_int64 (w : World) (a : Int) : Calls Try.prog 46 #[.int .i64 a] w fun e w' => e = .returned (.bool false) ∧ w = w' := by
  go_enter Try.func46, Try.ntmps46
  go_wp2_with fail
  go_ret
  exact ⟨rfl, rfl⟩
set_option maxRecDepth 100000 in
theorem Compare_int64 (w : World) (a b : Int) : Calls Try.prog 33 #[.int .i64 a, .int .i64 b] w fun e w' => e = .returned (.int .i64 (cmp3 a b)) ∧ w = w' := by
  go_enter Try.func33, Try.ntmps33
  go_wp2_with (go_at_call 46; refine (isNaN_int64 _ _).mono ?_; rintro e w' ⟨rfl, rfl⟩)
  all_goals
    go_ret
    refine ⟨ret_i ?_, rfl⟩
    unfold cmp3
    first | (rw [if_pos (by omega)]) | (rw [if_neg (by omega), if_pos (by omega)]) | (rw [if_neg (by omega), if_neg (by omega)])
set_option maxRecDepth 100000 in
theorem isNaN_int (w : World) (a : Int) : Calls Try.prog 47 #[.int .i64 a] w fun e w' => e = .returned (.bool false) ∧ w = w' := by
  go_enter Try.func47, Try.ntmps47
  go_wp2_with fail
  go_ret
  exact ⟨rfl, rfl⟩
set_option maxRecDepth 100000 in
theorem Compare_int (w : World) (a b : Int) : Calls Try.prog 34 #[.int .i64 a, .int .i64 b] w fun e w' => e = .returned (.int .i64 (cmp3 a b)) ∧ w = w' := by
  go_enter Try.func34, Try.ntmps34
  go_wp2_with (go_at_call 47; refine (isNaN_int _ _).mono ?_; rintro e w' ⟨rfl, rfl⟩)
  all_goals
    go_ret
    refine ⟨ret_i ?_, rfl⟩
    unfold cmp3
    first | (rw [if_pos (by omega)]) | (rw [if_neg (by omega), if_pos (by omega)]) | (rw [if_neg (by omega), if_neg (by omega)])
set_option maxRecDepth 100000 in
theorem Or_any (w : World) (g : Nat) (a b c : Int) (h0 : w.cell? ⟨g, 0, none⟩ = some (.int .i64 a)) (h1 : w.cell? ⟨g, 1, none⟩ = some (.int .i64 b)) (h2 : w.cell? ⟨g, 2, none⟩ = some (.int .i64 c)) :
    Calls Try.prog 32 #[.slice (some ⟨g, 0, none⟩) 3 3] w fun e w' => e = .returned (.int .i64 (or3 a b c)) ∧ w = w' := by
  go_enter Try.func32, Try.ntmps32
  go_wp2_with fail
  go_loop [8] (fun x8 => ∃ k : Nat, k ≤ 3 ∧ x8 = .int .i64 (k : Int) ∧ (1 ≤ k → a = 0) ∧ (2 ≤ k → b = 0) ∧ (3 ≤ k → c = 0)) (fun x8 => 3 - (intOf x8).toNat)
  case atStart => exact ⟨0, by omega, rfl, by omega, by omega, by omega⟩
  case round =>
    obtain ⟨k, hk, rfl, q1, q2, q3⟩ := hrel
    rcases (by omega : k = 0 ∨ k = 1 ∨ k = 2 ∨ k = 3) with rfl | rfl | rfl | rfl
    · clear q1 q2 q3
      by_cases hz : a = 0
      · have hn : (a != 0) = false := by simp [hz]
        go_wp2_with fail
        go_round
        case rel => exact ⟨1, by omega, by go_num, fun _ => hz, by omega, by omega⟩
        case measure => simp [intOf]
      · have hn : (a != 0) = true := by simp [hz]
        go_wp2_with fail
        go_ret
        exact ⟨ret_i (by unfold or3; rw [if_pos hz]), rfl⟩
    · have ha := q1 (by omega)
      clear q1 q2 q3
      by_cases hz : b = 0
      · have hn : (b != 0) = false := by simp [hz]
        go_wp2_with fail
        go_round
        case rel => exact ⟨2, by omega, by go_num, fun _ => ha, fun _ => hz, by omega⟩
        case measure => simp [intOf]
      · have hn : (b != 0) = true := by simp [hz]
        have Ha := Lib.hid ha
        clear ha
        go_wp2_with fail
        go_ret
        exact ⟨ret_i (by unfold or3; rw [if_neg (by simp [Ha.out]), if_pos hz]), rfl⟩
    · have ha := q1 (by omega)
      have hb := q2 (by omega)
      clear q1 q2 q3
      have Ha := Lib.hid ha
      have Hb := Lib.hid hb
      clear ha hb
      by_cases hz : c = 0
      · have hn : (c != 0) = false := by simp [hz]
        go_wp2_with fail
        go_round
        case rel => exact ⟨3, by omega, by go_num, fun _ => Ha.out, fun _ => Hb.out, fun _ => hz⟩
        case measure => simp [intOf]
      · have hn : (c != 0) = true := by simp [hz]
        go_wp2_with fail
        go_ret
        exact ⟨ret_i (by unfold or3; rw [if_neg (by simp [Ha.out]), if_neg (by simp [Hb.out])]), rfl⟩
    · have ha := Lib.hid (q1 (by omega))
      have hb := Lib.hid (q2 (by omega))
      have hc := Lib.hid (q3 (by omega))
      clear q1 q2 q3
      go_wp2_with fail
      go_ret
      exact ⟨ret_i (by unfold or3; rw [if_neg (by simp [ha.out]), if_neg (by simp [hb.out]), hc.out]), rfl⟩
set_option maxRecDepth 100000 in
set_option maxHeartbeats 1600000 in
theorem Less_any (w : World) (s t : S3) :
    Calls Try.prog 12 #[s.v, t.v] w fun e w' => e = .returned (.bool (s.lt t)) ∧ Below w.heap.size w w' := by
  unfold S3.v
  have hoc := Lib.hid (or_cmp s t)
  obtain ⟨p, l, r⟩ := s
  obtain ⟨p', l', r'⟩ := t
  go_enter Try.func12, Try.ntmps12
  go_wp2_with fail
  generalize hwa : w.alloc (.cells #[.int .i64 p, .int .i64 l, .int .i64 r] 23) = wa at *
  obtain ⟨c0, c1, c2⟩ : wa.cell? ⟨w.heap.size, 0, none⟩ = some (.int .i64 p) ∧ wa.cell? ⟨w.heap.size, 1, none⟩ = some (.int .i64 l) ∧ wa.cell? ⟨w.heap.size, 2, none⟩ = some (.int .i64 r) := by rw [← hwa]; exact cell3 _ _ _ _ _
  have hsz : wa.heap.size = w.heap.size + 1 := by rw [← hwa]; simp
  have hba : Below w.heap.size w wa := by rw [← hwa]; exact (Below.refl _ _).alloc (Nat.le_refl _) _
  generalize hwb : wa.alloc (.cells #[.int .i64 p', .int .i64 l', .int .i64 r'] 23) = wb at *
  obtain ⟨d0, d1, d2⟩ : wb.cell? ⟨wa.heap.size, 0, none⟩ = some (.int .i64 p') ∧ wb.cell? ⟨wa.heap.size, 1, none⟩ = some (.int .i64 l') ∧ wb.cell? ⟨wa.heap.size, 2, none⟩ = some (.int .i64 r') := by rw [← hwb]; exact cell3 _ _ _ _ _
  have hbb : Below wa.heap.size wa wb := by rw [← hwb]; exact (Below.refl _ _).alloc (Nat.le_refl _) _
  have e0 := cellB ((hbb.cell (p := ⟨w.heap.size, 0, none⟩) (by simp; omega)).trans c0)
  have e1 := cellB ((hbb.cell (p := ⟨w.heap.size, 1, none⟩) (by simp; omega)).trans c1)
  have e2 := cellB ((hbb.cell (p := ⟨w.heap.size, 2, none⟩) (by simp; omega)).trans c2)
  have e3 := cellB d0
  have e4 := cellB d1
  have e5 := cellB d2
  have hbw := bstep hba hbb
  rw [hsz] at e3 e4 e5
  clear c0 c1 c2 d0 d1 d2 hwa hwb hsz
  refine bstart (by kernel_rfl) ?_
  refine btake 0 (oi := _) (v := ?_) (by simp only [List.getElem?_toArray, List.getElem?_cons_zero]; rfl) (by kernel_rfl) (by exact fun _ _ _ h => h) (by first | assumption | exact KB.refl _) (.inl ⟨by rfl, fun W hW => ?_⟩) ?_; rotate_left
  · (go_simp; first | done | with_reducible rfl)
  try simp only [Act.put, List.setIfInBounds_toArray, List.set_cons_zero, List.set_cons_succ]
  refine btake 1 (oi := _) (v := ?_) (by simp only [List.getElem?_toArray, List.getElem?_cons_succ, List.getElem?_cons_zero]; rfl) (by kernel_rfl) (by exact fun _ _ _ h => h) (by first | assumption | exact KB.refl _) (.inl ⟨by rfl, fun W hW => ?_⟩) ?_; rotate_left
  · (go_simp; first | done | with_reducible rfl)
  try simp only [Act.put, List.setIfInBounds_toArray, List.set_cons_zero, List.set_cons_succ]
  refine btake 2 (oi := _) (v := ?_) (by simp only [List.getElem?_toArray, List.getElem?_cons_succ, List.getElem?_cons_zero]; rfl) (by kernel_rfl) (by exact fun _ _ _ h => h) (by first | assumption | exact KB.refl _) (.inl ⟨by rfl, fun W hW => ?_⟩) ?_; rotate_left
  · (go_simp; first | done | with_reducible rfl)
  try simp only [Act.put, List.setIfInBounds_toArray, List.set_cons_zero, List.set_cons_succ]
  refine btake 3 (oi := _) (v := ?_) (by simp only [List.getElem?_toArray, List.getElem?_cons_succ, List.getElem?_cons_zero]; rfl) (by kernel_rfl) (by exact fun _ _ _ h => h) (by first | assumption | exact KB.refl _) (.inl ⟨by rfl, fun W hW => ?_⟩) ?_; rotate_left
  · (go_simp; first | done | with_reducible rfl)
  try simp only [Act.put, List.setIfInBounds_toArray, List.set_cons_zero, List.set_cons_succ]
  -- 4: cmp.Compare[int64]
  refine bquiet 4 (oi := _) ?_ (by simp only [List.getElem?_toArray, List.getElem?_cons_succ, List.getElem?_cons_zero]; rfl) (by kernel_rfl) (by exact fun _ _ _ h => h) (by first | assumption | exact KB.refl _) (by rfl) (fun W hW => by go_simp; first | done | exact ⟨rfl, rfl⟩ | rfl) (fun W hW => ?_) ?_; rotate_left
  · exact Compare_int64 W p p'
  try simp only [Act.put, List.setIfInBounds_toArray, List.set_cons_zero, List.set_cons_succ]
  refine btake 5 (oi := _) (v := ?_) (by simp only [List.getElem?_toArray, List.getElem?_cons_succ, List.getElem?_cons_zero]; rfl) (by kernel_rfl) (by exact fun _ _ _ h => h) (by first | assumption | exact KB.refl _) (.inl ⟨by rfl, fun W hW => ?_⟩) ?_; rotate_left
  · (go_simp; first | done | with_reducible rfl)
  try simp only [Act.put, List.setIfInBounds_toArray, List.set_cons_zero, List.set_cons_succ]
  refine btake 6 (oi := _) (v := ?_) (by simp only [List.getElem?_toArray, List.getElem?_cons_succ, List.getElem?_cons_zero]; rfl) (by kernel_rfl) (by exact fun _ _ _ h => h) (by first | assumption | exact KB.refl _) (.inl ⟨by rfl, fun W hW => ?_⟩) ?_; rotate_left
  · (go_simp; first | done | with_reducible rfl)
  try simp only [Act.put, List.setIfInBounds_toArray, List.set_cons_zero, List.set_cons_succ]
  refine btake 7 (oi := _) (v := ?_) (by simp only [List.getElem?_toArray, List.getElem?_cons_succ, List.getElem?_cons_zero]; rfl) (by kernel_rfl) (by exact fun _ _ _ h => h) (by first | assumption | exact KB.refl _) (.inl ⟨by rfl, fun W hW => ?_⟩) ?_; rotate_left
  · (go_simp; first | done | with_reducible rfl)
  try simp only [Act.put, List.setIfInBounds_toArray, List.set_cons_zero, List.set_cons_succ]
  refine btake 8 (oi := _) (v := ?_) (by simp only [List.getElem?_toArray, List.getElem?_cons_succ, List.getElem?_cons_zero]; rfl) (by kernel_rfl) (by exact fun _ _ _ h => h) (by first | assumption | exact KB.refl _) (.inl ⟨by rfl, fun W hW => ?_⟩) ?_; rotate_left
  · (go_simp; first | done | with_reducible rfl)
  try simp only [Act.put, List.setIfInBounds_toArray, List.set_cons_zero, List.set_cons_succ]
  -- 9: cmp.Compare[int]
  refine bquiet 9 (oi := _) ?_ (by simp only [List.getElem?_toArray, List.getElem?_cons_succ, List.getElem?_cons_zero]; rfl) (by kernel_rfl) (by exact fun _ _ _ h => h) (by first | assumption | exact KB.refl _) (by rfl) (fun W hW => by go_simp; first | done | exact ⟨rfl, rfl⟩ | rfl) (fun W hW => ?_) ?_; rotate_left
  · exact Compare_int W l l'
  try simp only [Act.put, List.setIfInBounds_toArray, List.set_cons_zero, List.set_cons_succ]
  refine btake 10 (oi := _) (v := ?_) (by simp only [List.getElem?_toArray, List.getElem?_cons_succ, List.getElem?_cons_zero]; rfl) (by kernel_rfl) (by exact fun _ _ _ h => h) (by first | assumption | exact KB.refl _) (.inl ⟨by rfl, fun W hW => ?_⟩) ?_; rotate_left
  · (go_simp; first | done | with_reducible rfl)
  try simp only [Act.put, List.setIfInBounds_toArray, List.set_cons_zero, List.set_cons_succ]
  refine btake 11 (oi := _) (v := ?_) (by simp only [List.getElem?_toArray, List.getElem?_cons_succ, List.getElem?_cons_zero]; rfl) (by kernel_rfl) (by exact fun _ _ _ h => h) (by first | assumption | exact KB.refl _) (.inl ⟨by rfl, fun W hW => ?_⟩) ?_; rotate_left
  · (go_simp; first | done | with_reducible rfl)
  try simp only [Act.put, List.setIfInBounds_toArray, List.set_cons_zero, List.set_cons_succ]
  refine btake 12 (oi := _) (v := ?_) (by simp only [List.getElem?_toArray, List.getElem?_cons_succ, List.getElem?_cons_zero]; rfl) (by kernel_rfl) (by exact fun _ _ _ h => h) (by first | assumption | exact KB.refl _) (.inl ⟨by rfl, fun W hW => ?_⟩) ?_; rotate_left
  · (go_simp; first | done | with_reducible rfl)
  try simp only [Act.put, List.setIfInBounds_toArray, List.set_cons_zero, List.set_cons_succ]
  refine btake 13 (oi := _) (v := ?_) (by simp only [List.getElem?_toArray, List.getElem?_cons_succ, List.getElem?_cons_zero]; rfl) (by kernel_rfl) (by exact fun _ _ _ h => h) (by first | assumption | exact KB.refl _) (.inl ⟨by rfl, fun W hW => ?_⟩) ?_; rotate_left
  · (go_simp; first | done | with_reducible rfl)
  try simp only [Act.put, List.setIfInBounds_toArray, List.set_cons_zero, List.set_cons_succ]
  -- 14: cmp.Compare[int]
  refine bquiet 14 (oi := _) ?_ (by simp only [List.getElem?_toArray, List.getElem?_cons_succ, List.getElem?_cons_zero]; rfl) (by kernel_rfl) (by exact fun _ _ _ h => h) (by first | assumption | exact KB.refl _) (by rfl) (fun W hW => by go_simp; first | done | exact ⟨rfl, rfl⟩ | rfl) (fun W hW => ?_) ?_; rotate_left
  · exact Compare_int W r r'
  try simp only [Act.put, List.setIfInBounds_toArray, List.set_cons_zero, List.set_cons_succ]
  -- 15: Op.buildSlice 76 3 #[(0, Operand.tmp 9), (1, Operand.tmp 14), (2, Operand.tmp 19)]
  refine bop 15 (o := _) (by simp only [List.getElem?_toArray, List.getElem?_cons_succ, List.getElem?_cons_zero]; rfl) (by kernel_rfl) (by first | assumption | exact KB.refl _) (by rfl) (fun K hK => ?_)
  go_simp
  have hkb := KB.alloc wb.drew (.cells #[.int .i64 (cmp3 p p'), .int .i64 (cmp3 l l'), .int .i64 (cmp3 r r')] 3)
  refine hK.out _ _ hkb ?_; clear hK K
  try simp only [Act.put, List.setIfInBounds_toArray, List.set_cons_zero, List.set_cons_succ]
  -- 16: cmp.Or[int]
  refine bop 16 (o := _) (by simp only [List.getElem?_toArray, List.getElem?_cons_succ, List.getElem?_cons_zero]; rfl) (by kernel_rfl) (by first | assumption | exact KB.refl _) (by rfl) (fun K hK => ?_)
  go_simp
  refine (Or_any _ wb.heap.size (cmp3 p p') (cmp3 l l') (cmp3 r r') (cell3 wb.drew _ _ _ _).1 (cell3 wb.drew _ _ _ _).2.1 (cell3 wb.drew _ _ _ _).2.2).mono ?_
  rintro e w3 ⟨rfl, rfl⟩
  have hkb := KB.refl (wb.drew.alloc (.cells #[.int .i64 (cmp3 p p'), .int .i64 (cmp3 l l'), .int .i64 (cmp3 r r')] 3))
  refine hK.out _ _ hkb ?_; clear hK K
  try simp only [Act.put, List.setIfInBounds_toArray, List.set_cons_zero, List.set_cons_succ]
  refine btake 17 (oi := _) (v := ?_) (by simp only [List.getElem?_toArray, List.getElem?_cons_succ, List.getElem?_cons_zero]; rfl) (by kernel_rfl) (by exact fun _ _ _ h => h) (by first | assumption | exact KB.refl _) (.inl ⟨by rfl, fun W hW => ?_⟩) ?_; rotate_left
  · (go_simp; first | done | with_reducible rfl)
  try simp only [Act.put, List.setIfInBounds_toArray, List.set_cons_zero, List.set_cons_succ]
  refine btake 18 (oi := _) (v := ?_) (by simp only [List.getElem?_toArray, List.getElem?_cons_succ, List.getElem?_cons_zero]; rfl) (by kernel_rfl) (by exact fun _ _ _ h => h) (by first | assumption | exact KB.refl _) (.inl ⟨by rfl, fun W hW => ?_⟩) ?_; rotate_left
  · (go_simp; first | done | with_reducible rfl)
  try simp only [Act.put, List.setIfInBounds_toArray, List.set_cons_zero, List.set_cons_succ]
  refine bdone (by kernel_rfl) ?_
  go_wp2_with fail
  go_ret
  exact ⟨ret_b hoc.out, (hbw.drew.alloc hbw.size _)⟩
end Go.Proofs.Ythpooogjlmaemaa

