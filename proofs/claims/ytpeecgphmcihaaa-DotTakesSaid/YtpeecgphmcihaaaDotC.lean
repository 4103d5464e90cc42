/- Dots: CompactFunc of a row of them. -/
import Derived.Test.YtpeecgphmcihaaaDotA
namespace Go.Proofs.Ytpeecgphmcihaaa
open Go.RowKit Go.Proofs.Ytpeecgphmcihaaa.Pl Go.Proofs.Ytpeecgphmcihaaa.Dt

theorem cmpD_snoc : ∀ (a : List D2) (x y : D2), cmpD (a ++ [x] ++ [y]) = if x = y then cmpD (a ++ [x]) else cmpD (a ++ [x]) ++ [y]
  | [], x, y => by by_cases h : x = y <;> simp [cmpD, h]
  | [z], x, y => by
    simp only [List.cons_append, List.nil_append, cmpD]
    by_cases h1 : z = x <;> by_cases h2 : x = y <;> simp [h1, h2]
  | z :: z' :: a, x, y => by
    have ih := cmpD_snoc (z' :: a) x y
    simp only [List.cons_append, cmpD] at ih ⊢
    by_cases h1 : z = z'
    · rw [if_pos h1, if_pos h1]; exact ih
    · rw [if_neg h1, if_neg h1, ih]
      by_cases h2 : x = y <;> simp [h2]
def ct (l : List D2) (k : Nat) : List D2 := cmpD (l.take k)
theorem ct_succ {l : List D2} {k : Nat} (hk : k + 1 < l.length) : ct l (k + 2) = if l[k]?.getD ⟨0, 0⟩ = l[k + 1]?.getD ⟨0, 0⟩ then ct l (k + 1) else ct l (k + 1) ++ [l[k + 1]?.getD ⟨0, 0⟩] := by
  unfold ct
  rw [List.take_succ_eq_append_getElem (i := k + 1) hk, List.take_succ_eq_append_getElem (i := k) (by omega), cmpD_snoc, List.getElem?_eq_getElem hk, List.getElem?_eq_getElem (show k < l.length by omega)]
  rfl
theorem ct_one {l : List D2} (h : 0 < l.length) : ct l 1 = l.take 1 := by
  obtain ⟨x, t, rfl⟩ := List.exists_cons_of_length_pos h
  rfl
theorem ct_all (l : List D2) : ct l l.length = cmpD l := by rw [ct, List.take_length]
/-- after the element K: R begins with the compacted beginning of l, has l's own cells behind -/
structure Cst (l R : List D2) (K m : Nat) : Prop where
  len : R.length = l.length
  tk : R.take m = ct l (K + 1)
  le : m ≤ K
  lt : K < l.length
  own : ∀ i, m ≤ i → R[i]? = l[i]?
theorem Cst.same {l R : List D2} {K m : Nat} (h : Cst l R K m) (hk : K + 1 < l.length) (he : l[K]?.getD ⟨0, 0⟩ = l[K + 1]?.getD ⟨0, 0⟩) : Cst l R (K + 1) m :=
  ⟨h.len, by rw [ct_succ hk, if_pos he]; exact h.tk, by have := h.le; omega, hk, h.own⟩
theorem Cst.other {l R : List D2} {K m : Nat} (h : Cst l R K m) (hk : K + 1 < l.length) (he : ¬ l[K]?.getD ⟨0, 0⟩ = l[K + 1]?.getD ⟨0, 0⟩) : Cst l (R.set m (l[K + 1]?.getD ⟨0, 0⟩)) (K + 1) (m + 1) := by
  have h1 := h.le
  have h2 := h.lt
  have h3 := h.len
  refine ⟨by rw [List.length_set]; exact h.len, ?_, by omega, hk, fun i hi => ?_⟩
  · rw [ct_succ hk, if_neg he, ← h.tk, List.take_succ_eq_append_getElem (by rw [List.length_set]; omega), List.getElem_set_self, List.take_set_of_le (Nat.le_refl m)]
  · rw [List.getElem?_set_ne (by omega)]; exact h.own i (by omega)
theorem Cst.end_ {l R : List D2} {m : Nat} {K : Nat} (h : Cst l R K m) (hk : K + 1 = l.length) : R.take m = cmpD l ∧ (cmpD l).length = m := by
  have e : R.take m = cmpD l := by rw [h.tk, hk, ct_all]
  refine ⟨e, ?_⟩
  rw [← e, List.length_take, h.len]
  have := h.le
  omega
set_option maxRecDepth 100000 in
theorem same_any (w : World) (s t : D2) : Calls Try.prog 30 #[s.v, t.v] w fun e w' => e = .returned (.bool (decide (s = t))) ∧ Below w.heap.size w w' := by
  obtain ⟨r, q⟩ := s
  obtain ⟨r', q'⟩ := t
  unfold D2.v
  go_enter Try.func30, Try.ntmps30
  go_wp2_with fail
  all_goals
    go_ret
    refine ⟨ret_b ?_, balloc (balloc (Below.refl _ _) _) _⟩
    simp_all
set_option maxRecDepth 100000 in
set_option maxHeartbeats 6400000 in
theorem CompactFunc_any (w : World) (g c : Nat) (l : List D2) (hr : Row2 w g l) (base : Nat) (hb : base ≤ g) (hl : l.length ≤ 1000000000) (hc : l.length ≤ c) (hcm : c ≤ maxLen) (hbw : base ≤ w.heap.size) :
    Calls Try.prog 29 #[.slice (some ⟨g, 0, none⟩) l.length c, .func (.func 30) #[] #[]] w fun e w' => e = .returned (.slice (some ⟨g, 0, none⟩) (cmpD l).length c) ∧ Row2 w' g (cmpD l) ∧ Below base w w' := by
  by_cases h2 : l.length < 2
  · have hd : decide ((l.length : Int) < 2) = true := by rw [decide_eq_true_eq]; omega
    have hcl : cmpD l = l := by
      match l, h2 with
      | [], _ => rfl
      | [x], _ => rfl
      | x :: y :: t, h => simp at h; omega
    go_enter Try.func29, Try.ntmps29
    go_wp2_with fail
    go_ret
    rw [hcl]
    exact ⟨rfl, hr, Below.refl _ _⟩
  have hd : decide ((l.length : Int) < 2) = false := by rw [decide_eq_false_iff_not]; omega
  obtain ⟨n, hn⟩ : ∃ n, l.length = n := ⟨_, rfl⟩
  have hct1 := ct_one (l := l) (by omega)
  have HN := Lib.hid hn
  rw [hn] at h2 hd hl hc ⊢
  clear hn
  go_enter Try.func29, Try.ntmps29
  go_wp2_with fail
  go_loopw [5] (fun x5 wr => ∃ k : Nat, k + 1 ≤ n ∧ x5 = .int .i64 ((k : Int) + 1) ∧ ct l (k + 1) = l.take (k + 1) ∧ Row2 wr g l ∧ Below base w wr) (fun x5 _ => n - (intOf x5).toNat)
  case atStart => exact ⟨0, by omega, rfl, hct1, hr, Below.refl _ _⟩
  case round =>
    obtain ⟨k, hk, rfl, hck, hrow, hbel⟩ := hrel
    clear hct1 hr
    by_cases hlt : k + 1 < n
    · have hd1 : decide ((k : Int) + 1 < (n : Int)) = true := by rw [decide_eq_true_eq]; omega
      obtain ⟨c0, c1, _, _⟩ := hrow.2 k (by have := HN.out; omega)
      obtain ⟨e0, e1, _, _⟩ := hrow.2 (k + 1) (by have := HN.out; omega)
      have hsu := ct_succ (l := l) (k := k) (by have := HN.out; omega)
      generalize hxd : l[k]?.getD ⟨0, 0⟩ = x at *
      generalize hyd : l[k + 1]?.getD ⟨0, 0⟩ = y at *
      obtain ⟨q, hq⟩ : ∃ q, decide (y = x) = q := ⟨_, rfl⟩
      have HS := Lib.hid (fun W => same_any W y x)
      rw [hq] at HS
      go_wp2_with fail
      have hb0 : (0 : Int) ≤ (k : Int) + 1 := by omega
      have hb1 : (k : Int) + 1 < (n : Int) := by omega
      have hbk : k < n := by omega
      have hwk : IntKind.i64.wrap (k : Int) = (k : Int) := by rw [IntKind.wrap_i64]; simp only [maxLen] at hcm; omega
      have q0 := cellB c0
      have q1 := cellB c1
      have q2 := cellB e0
      have q3 := cellB e1
      refine bstart (by kernel_rfl) ?_
      refine btake 0 (oi := _) (v := ?_) (by simp only [List.getElem?_toArray, List.getElem?_cons_zero]; rfl) (by kernel_rfl) (by exact fun _ _ _ h => h) (by first | assumption | exact KB.refl _) (.inl ⟨by rfl, fun W hW => ?_⟩) ?_; rotate_left
      · (go_simp; first | done | with_reducible rfl)
      try simp only [Act.put, List.setIfInBounds_toArray, List.set_cons_zero, List.set_cons_succ]
      refine btake 1 (oi := _) (v := ?_) (by simp only [List.getElem?_toArray, List.getElem?_cons_succ, List.getElem?_cons_zero]; rfl) (by kernel_rfl) (by exact fun _ _ _ h => h) (by first | assumption | exact KB.refl _) (.inl ⟨by rfl, fun W hW => ?_⟩) ?_; rotate_left
      · (go_simp; first | done | with_reducible rfl)
      try simp only [Act.put, List.setIfInBounds_toArray, List.set_cons_zero, List.set_cons_succ]
      refine btake 2 (oi := _) (v := ?_) (by simp only [List.getElem?_toArray, List.getElem?_cons_succ, List.getElem?_cons_zero]; rfl) (by kernel_rfl) (by exact fun _ _ _ h => h) (by first | assumption | exact KB.refl _) (.inl ⟨by rfl, fun W hW => ?_⟩) ?_; rotate_left
      · (go_simp; first | done | with_reducible rfl)
      try simp only [Act.put, List.setIfInBounds_toArray, List.set_cons_zero, List.set_cons_succ]
      refine btake 3 (oi := _) (v := ?_) (by simp only [List.getElem?_toArray, List.getElem?_cons_succ, List.getElem?_cons_zero]; rfl) (by kernel_rfl) (by exact fun _ _ _ h => h) (by first | assumption | exact KB.refl _) (.inl ⟨by rfl, fun W hW => ?_⟩) ?_; rotate_left
      · (go_simp; first | done | with_reducible rfl)
      try simp only [Act.put, List.setIfInBounds_toArray, List.set_cons_zero, List.set_cons_succ]
      refine btake 4 (oi := _) (v := ?_) (by simp only [List.getElem?_toArray, List.getElem?_cons_succ, List.getElem?_cons_zero]; rfl) (by kernel_rfl) (by exact fun _ _ _ h => h) (by first | assumption | exact KB.refl _) (.inl ⟨by rfl, fun W hW => ?_⟩) ?_; rotate_left
      · (go_simp; first | done | with_reducible rfl)
      try simp only [Act.put, List.setIfInBounds_toArray, List.set_cons_zero, List.set_cons_succ]
      refine btake 5 (oi := _) (v := ?_) (by simp only [List.getElem?_toArray, List.getElem?_cons_succ, List.getElem?_cons_zero]; rfl) (by kernel_rfl) (by exact fun _ _ _ h => h) (by first | assumption | exact KB.refl _) (.inl ⟨by rfl, fun W hW => ?_⟩) ?_; rotate_left
      · (go_simp; first | done | with_reducible rfl)
      try simp only [Act.put, List.setIfInBounds_toArray, List.set_cons_zero, List.set_cons_succ]
      refine btake 6 (oi := _) (v := ?_) (by simp only [List.getElem?_toArray, List.getElem?_cons_succ, List.getElem?_cons_zero]; rfl) (by kernel_rfl) (by exact fun _ _ _ h => h) (by first | assumption | exact KB.refl _) (.inl ⟨by rfl, fun W hW => ?_⟩) ?_; rotate_left
      · (go_simp; first | done | with_reducible rfl)
      try simp only [Act.put, List.setIfInBounds_toArray, List.set_cons_zero, List.set_cons_succ]
      refine btake 7 (oi := _) (v := ?_) (by simp only [List.getElem?_toArray, List.getElem?_cons_succ, List.getElem?_cons_zero]; rfl) (by kernel_rfl) (by exact fun _ _ _ h => h) (by first | assumption | exact KB.refl _) (.inl ⟨by rfl, fun W hW => ?_⟩) ?_; rotate_left
      · (go_simp; first | done | with_reducible rfl)
      try simp only [Act.put, List.setIfInBounds_toArray, List.set_cons_zero, List.set_cons_succ]
      refine btake 8 (oi := _) (v := ?_) (by simp only [List.getElem?_toArray, List.getElem?_cons_succ, List.getElem?_cons_zero]; rfl) (by kernel_rfl) (by exact fun _ _ _ h => h) (by first | assumption | exact KB.refl _) (.inl ⟨by rfl, fun W hW => ?_⟩) ?_; rotate_left
      · (go_simp; first | done | with_reducible rfl)
      try simp only [Act.put, List.setIfInBounds_toArray, List.set_cons_zero, List.set_cons_succ]
      refine btake 9 (oi := _) (v := ?_) (by simp only [List.getElem?_toArray, List.getElem?_cons_succ, List.getElem?_cons_zero]; rfl) (by kernel_rfl) (by exact fun _ _ _ h => h) (by first | assumption | exact KB.refl _) (.inl ⟨by rfl, fun W hW => ?_⟩) ?_; rotate_left
      · (go_simp; first | done | with_reducible rfl)
      try simp only [Act.put, List.setIfInBounds_toArray, List.set_cons_zero, List.set_cons_succ]
      -- 10: Op.call { callee := Callee.value (Operand.tmp 18), args := #[Operand.tmp 22, Operand.tmp 27], argTypes := #[23, 23] }
      refine bop 10 (o := _) (by simp only [List.getElem?_toArray, List.getElem?_cons_succ, List.getElem?_cons_zero]; rfl) (by kernel_rfl) (by first | assumption | exact KB.refl _) (by rfl) (fun K hK => ?_)
      go_simp
      refine (HS.out _).mono ?_
      rintro e w3 ⟨rfl, h3⟩
      have hkb := KB.of h3
      refine hK.out _ _ hkb ?_; clear hK K
      try simp only [Act.put, List.setIfInBounds_toArray, List.set_cons_zero, List.set_cons_succ]
      refine bdone (by kernel_rfl) ?_
      have b3 : Below wr.heap.size wr w3 := (Below.refl wr.heap.size wr).drew.trans h3
      have hrow3 := hrow.below b3
      have hbel3 := hbel.trans (b3.mono (Nat.le_trans hbw hbel.size))
      clear q0 q1 q2 q3 c0 c1 e0 e1 hkb h3 hwk hb0 hb1 hbk hrow hbel b3
      by_cases hxy : x = y
      · obtain rfl : q = true := by rw [← hq, decide_eq_true_eq]; exact hxy.symm
        rw [if_pos hxy] at hsu
        rw [hck] at hsu
        have hcap : (k : Int) + 1 ≤ (c : Int) := by omega
        have hne : ¬ c = k + 1 := by omega
        have HXY := Lib.hid (And.intro hsu hxy)
        clear hxy hsu hck hq
        go_wp2_with fail
        go_loopw [5, 7] (fun x5 x7 wr => ∃ (j m : Nat) (R : List D2), j + 1 ≤ n - (k + 1) ∧ x5 = .int .i64 (m : Int) ∧ x7 = .int .i64 ((j : Int) + 1) ∧ Cst l R (k + 1 + j) m ∧ Row2 wr g R ∧ Below base w wr) (fun _ x7 _ => n - (intOf x7).toNat)
        case atStart =>
          refine ⟨0, k + 1, l, by omega, by go_num, rfl, ⟨rfl, HXY.out.1.symm, by omega, by have := HN.out; omega, fun _ _ => rfl⟩, hrow3, hbel3⟩
        case round =>
          clear hrow3 hbel3 HS HXY hxd hyd
          obtain ⟨j, m, R, hj, rfl, rfl, hC, hrow, hbel⟩ := hrel
          by_cases hlt2 : j + 1 < n - (k + 1)
          · have hRl : R.length = n := by rw [hC.len]; exact HN.out
            have hmk := hC.le
            have hd2 : decide ((j : Int) + 1 < ((n - (k + 1) : Nat) : Int)) = true := by rw [decide_eq_true_eq]; omega
            obtain ⟨c0, c1, _, _⟩ := hrow.2 (k + 1 + j) (by omega)
            obtain ⟨e0, e1, _, _⟩ := hrow.2 (k + 1 + j + 1) (by omega)
            obtain ⟨d0, d1, f0, f1⟩ := hrow.2 m (by omega)
            rw [hC.own (k + 1 + j) (by omega), show (k + 1 + j) * 2 = (k + 1) * 2 + j * 2 by omega] at c0 c1
            rw [hC.own (k + 1 + j + 1) (by omega), show (k + 1 + j + 1) * 2 = (k + 1) * 2 + (j + 1) * 2 by omega] at e0 e1
            have hS1 := hC.same (by have := HN.out; omega)
            have hS2 := hC.other (by have := HN.out; omega)
            generalize hxd : l[k + 1 + j]?.getD ⟨0, 0⟩ = x at *
            generalize hyd : l[k + 1 + j + 1]?.getD ⟨0, 0⟩ = y at *
            obtain ⟨q, hq⟩ : ∃ q, decide (y = x) = q := ⟨_, rfl⟩
            have HS := Lib.hid (fun W => same_any W y x)
            rw [hq] at HS
            have HP := Lib.hid (And.intro hC (And.intro hS1 hS2))
            clear hC hS1 hS2 hxd hyd
            go_wp2_with fail
            have hb0 : (0 : Int) ≤ (j : Int) + 1 := by omega
            have hb1 : (j : Int) + 1 < ((n - (k + 1) : Nat) : Int) := by omega
            have hbk : j < n - (k + 1) := by omega
            have hwk : IntKind.i64.wrap (j : Int) = (j : Int) := by rw [IntKind.wrap_i64]; simp only [maxLen] at hcm; omega
            have q0 := cellB c0
            have q1 := cellB c1
            have q2 := cellB e0
            have q3 := cellB e1
            refine bstart (by kernel_rfl) ?_
            refine btake 0 (oi := _) (v := ?_) (by simp only [List.getElem?_toArray, List.getElem?_cons_zero]; rfl) (by kernel_rfl) (by exact fun _ _ _ h => h) (by first | assumption | exact KB.refl _) (.inl ⟨by rfl, fun W hW => ?_⟩) ?_; rotate_left
            · (go_simp; first | done | with_reducible rfl)
            try simp only [Act.put, List.setIfInBounds_toArray, List.set_cons_zero, List.set_cons_succ]
            refine btake 1 (oi := _) (v := ?_) (by simp only [List.getElem?_toArray, List.getElem?_cons_succ, List.getElem?_cons_zero]; rfl) (by kernel_rfl) (by exact fun _ _ _ h => h) (by first | assumption | exact KB.refl _) (.inl ⟨by rfl, fun W hW => ?_⟩) ?_; rotate_left
            · (go_simp; first | done | with_reducible rfl)
            try simp only [Act.put, List.setIfInBounds_toArray, List.set_cons_zero, List.set_cons_succ]
            refine btake 2 (oi := _) (v := ?_) (by simp only [List.getElem?_toArray, List.getElem?_cons_succ, List.getElem?_cons_zero]; rfl) (by kernel_rfl) (by exact fun _ _ _ h => h) (by first | assumption | exact KB.refl _) (.inl ⟨by rfl, fun W hW => ?_⟩) ?_; rotate_left
            · (go_simp; first | done | with_reducible rfl)
            try simp only [Act.put, List.setIfInBounds_toArray, List.set_cons_zero, List.set_cons_succ]
            refine btake 3 (oi := _) (v := ?_) (by simp only [List.getElem?_toArray, List.getElem?_cons_succ, List.getElem?_cons_zero]; rfl) (by kernel_rfl) (by exact fun _ _ _ h => h) (by first | assumption | exact KB.refl _) (.inl ⟨by rfl, fun W hW => ?_⟩) ?_; rotate_left
            · (go_simp; first | done | with_reducible rfl)
            try simp only [Act.put, List.setIfInBounds_toArray, List.set_cons_zero, List.set_cons_succ]
            refine btake 4 (oi := _) (v := ?_) (by simp only [List.getElem?_toArray, List.getElem?_cons_succ, List.getElem?_cons_zero]; rfl) (by kernel_rfl) (by exact fun _ _ _ h => h) (by first | assumption | exact KB.refl _) (.inl ⟨by rfl, fun W hW => ?_⟩) ?_; rotate_left
            · (go_simp; first | done | with_reducible rfl)
            try simp only [Act.put, List.setIfInBounds_toArray, List.set_cons_zero, List.set_cons_succ]
            refine btake 5 (oi := _) (v := ?_) (by simp only [List.getElem?_toArray, List.getElem?_cons_succ, List.getElem?_cons_zero]; rfl) (by kernel_rfl) (by exact fun _ _ _ h => h) (by first | assumption | exact KB.refl _) (.inl ⟨by rfl, fun W hW => ?_⟩) ?_; rotate_left
            · (go_simp; first | done | with_reducible rfl)
            try simp only [Act.put, List.setIfInBounds_toArray, List.set_cons_zero, List.set_cons_succ]
            refine btake 6 (oi := _) (v := ?_) (by simp only [List.getElem?_toArray, List.getElem?_cons_succ, List.getElem?_cons_zero]; rfl) (by kernel_rfl) (by exact fun _ _ _ h => h) (by first | assumption | exact KB.refl _) (.inl ⟨by rfl, fun W hW => ?_⟩) ?_; rotate_left
            · (go_simp; first | done | with_reducible rfl)
            try simp only [Act.put, List.setIfInBounds_toArray, List.set_cons_zero, List.set_cons_succ]
            refine btake 7 (oi := _) (v := ?_) (by simp only [List.getElem?_toArray, List.getElem?_cons_succ, List.getElem?_cons_zero]; rfl) (by kernel_rfl) (by exact fun _ _ _ h => h) (by first | assumption | exact KB.refl _) (.inl ⟨by rfl, fun W hW => ?_⟩) ?_; rotate_left
            · (go_simp; first | done | with_reducible rfl)
            try simp only [Act.put, List.setIfInBounds_toArray, List.set_cons_zero, List.set_cons_succ]
            refine btake 8 (oi := _) (v := ?_) (by simp only [List.getElem?_toArray, List.getElem?_cons_succ, List.getElem?_cons_zero]; rfl) (by kernel_rfl) (by exact fun _ _ _ h => h) (by first | assumption | exact KB.refl _) (.inl ⟨by rfl, fun W hW => ?_⟩) ?_; rotate_left
            · (go_simp; first | done | with_reducible rfl)
            try simp only [Act.put, List.setIfInBounds_toArray, List.set_cons_zero, List.set_cons_succ]
            refine btake 9 (oi := _) (v := ?_) (by simp only [List.getElem?_toArray, List.getElem?_cons_succ, List.getElem?_cons_zero]; rfl) (by kernel_rfl) (by exact fun _ _ _ h => h) (by first | assumption | exact KB.refl _) (.inl ⟨by rfl, fun W hW => ?_⟩) ?_; rotate_left
            · (go_simp; first | done | with_reducible rfl)
            try simp only [Act.put, List.setIfInBounds_toArray, List.set_cons_zero, List.set_cons_succ]
            -- 10: Op.call { callee := Callee.value (Operand.tmp 38), args := #[Operand.tmp 42, Operand.tmp 47], argTypes := #[23, 23] }
            refine bop 10 (o := _) (by simp only [List.getElem?_toArray, List.getElem?_cons_succ, List.getElem?_cons_zero]; rfl) (by kernel_rfl) (by first | assumption | exact KB.refl _) (by rfl) (fun K hK => ?_)
            go_simp
            refine (HS.out _).mono ?_
            rintro e w3 ⟨rfl, h3⟩
            have hkb := KB.of h3
            refine hK.out _ _ hkb ?_; clear hK K
            try simp only [Act.put, List.setIfInBounds_toArray, List.set_cons_zero, List.set_cons_succ]
            refine btake 11 (oi := _) (v := ?_) (by simp only [List.getElem?_toArray, List.getElem?_cons_succ, List.getElem?_cons_zero]; rfl) (by kernel_rfl) (by exact fun _ _ _ h => h) (by first | assumption | exact KB.refl _) (.inl ⟨by rfl, fun W hW => ?_⟩) ?_; rotate_left
            · (go_simp; first | done | with_reducible rfl)
            try simp only [Act.put, List.setIfInBounds_toArray, List.set_cons_zero, List.set_cons_succ]
            refine bdone (by kernel_rfl) ?_
            have b3 : Below wr.heap.size wr w3 := (Below.refl wr.heap.size wr).drew.trans h3
            have hrow3 := hrow.below b3
            have hbel3 := hbel.trans (b3.mono (Nat.le_trans hbw hbel.size))
            have p0 := (b3.cell hrow.1).trans e0
            have p1 := (b3.cell hrow.1).trans e1
            have p2 := (b3.cell hrow.1).trans d0
            have p3 := (b3.cell hrow.1).trans d1
            have p4 := (b3.frozen hrow.1).trans f0
            have p5 := (b3.frozen hrow.1).trans f1
            clear q0 q1 q2 q3 c0 c1 e0 e1 d0 d1 f0 f1 hkb h3 hwk hrow hbel b3
            by_cases hxy : x = y
            · obtain rfl : q = true := by rw [← hq, decide_eq_true_eq]; exact hxy.symm
              clear hq
              go_wp2_with fail
              go_roundw
              case rel => exact ⟨j + 1, m, R, by omega, rfl, by go_num, HP.out.2.1 hxy, hrow3, hbel3⟩
              case measure => simp [intOf]; omega
            · obtain rfl : q = false := by rw [← hq, decide_eq_false_iff_not]; exact fun h => hxy h.symm
              clear hq
              have hm0 : (0 : Int) ≤ (m : Int) := by omega
              have hm1 : (m : Int) < (n : Int) := by omega
              go_wp2_with fail
              go_roundw
              case rel => exact ⟨j + 1, m + 1, R.set m y, by omega, by go_num, by go_num, HP.out.2.2 hxy, hrow3.put (by omega) y, below_put2At hbel3 hb m y⟩
              case measure => simp [intOf]; omega
          · have hRl : R.length = n := by rw [hC.len]; exact HN.out
            have hmk := hC.le
            obtain ⟨hE1, hE2⟩ := hC.end_ (by have := HN.out; omega)
            have hd2 : decide ((j : Int) + 1 < ((n - (k + 1) : Nat) : Int)) = false := by rw [decide_eq_false_iff_not]; omega
            have hm0 : (0 : Int) ≤ (m : Int) := by omega
            have hm1 : (m : Int) ≤ (n : Int) := by omega
            have hm2 : (m : Int) ≤ (c : Int) := by omega
            have hm3 : ¬ c = m := by omega
            have hm4 : m ≤ c := by omega
            have hm5 : m ≤ n := by omega
            obtain ⟨zs, hz⟩ := run_clear_dots wr 0 g (m * 2) (n - m) (c - m) (by omega) (fun i hi => by
              obtain ⟨a0, a1, _, _⟩ := hrow.2 (m + i / 2) (by omega)
              rcases (by omega : i % 2 = 0 ∨ i % 2 = 1) with e | e
              · rw [show m * 2 + i = (m + i / 2) * 2 by omega, a0]; rfl
              · rw [show m * 2 + i = (m + i / 2) * 2 + 1 by omega, a1]; rfl) (fun i hi => by
              obtain ⟨_, _, a0, a1⟩ := hrow.2 (m + i / 2) (by omega)
              rcases (by omega : i % 2 = 0 ∨ i % 2 = 1) with e | e
              · rw [show m * 2 + i = (m + i / 2) * 2 by omega, a0]
              · rw [show m * 2 + i = (m + i / 2) * 2 + 1 by omega, a1])
            have hcl := hrow.cleared m (by omega) zs
            rw [hE1] at hcl
            have hbc := below_setCellsD g hb zs (m * 2) hbel
            clear hC hrow hbel hE1
            go_wp2_with fail
            go_ret
            rw [hE2]
            exact ⟨rfl, hcl, hbc⟩
      · obtain rfl : q = false := by rw [← hq, decide_eq_false_iff_not]; exact fun h => hxy h.symm
        rw [if_neg hxy] at hsu
        have hck2 : ct l (k + 2) = l.take (k + 2) := by
          rw [hsu, hck, List.take_succ_eq_append_getElem (i := k + 1) (by have := HN.out; omega), ← hyd, List.getElem?_eq_getElem (by have := HN.out; omega)]
          rfl
        have HXY := Lib.hid hck2
        clear hxy hsu hck hck2 hq
        go_wp2_with fail
        go_roundw
        case rel => exact ⟨k + 1, by omega, by go_num, HXY.out, hrow3, hbel3⟩
        case measure => simp [intOf]; omega
    · obtain rfl : k + 1 = n := by omega
      have hres : cmpD l = l := by rw [← ct_all, HN.out, hck, ← HN.out, List.take_length]
      have HR := Lib.hid hres
      have hd1 : decide ((k : Int) + 1 < ((k + 1 : Nat) : Int)) = false := by rw [decide_eq_false_iff_not]; omega
      clear hres hck
      go_wp2_with fail
      go_ret
      rw [HR.out, HN.out]
      exact ⟨rfl, hrow, hbel⟩
end Go.Proofs.Ytpeecgphmcihaaa

