/- Dots: a row of them taken from bytes. -/
import Derived.Test.YtpeecgphmcihaaaDotT
import Derived.Test.YtpeecgphmcihaaaAppD
namespace Go.Proofs.Ytpeecgphmcihaaa
open Go.RowKit Go.Proofs.Ytpeecgphmcihaaa.Pl Go.Proofs.Ytpeecgphmcihaaa.Dt

def TakeAllPost (w : World) (l : List UInt8) (e : Ending) (w' : World) : Prop :=
  ∃ A c, e = .returned (.tuple #[.slice A (takeDs l).1.length c, .int .i64 ((takeDs l).2.1 : Int), .int .i64 ((takeDs l).2.2 : Int)]) ∧ Sl w' w'.heap.size A (dv (takeDs l).1) ∧ (takeDs l).1.length ≤ c ∧ c ≤ maxLen ∧ Below w.heap.size w w'
theorem takeDs_e {l : List UInt8} {v k e : Nat} (h : takeS l = (v, k, e)) (he : e ≠ 0) : takeDs l = ([], 0, e) := by rw [takeDs]; simp only [h]; rw [if_pos he]
theorem takeDs_big {l : List UInt8} {v k : Nat} (h : takeS l = (v, k, 0)) (hv : v > 16) : takeDs l = ([], 0, 21) := by rw [takeDs]; simp only [h]; rw [if_neg (by simp), if_pos hv]
theorem takeDs_go {l : List UInt8} {v k : Nat} (h : takeS l = (v, k, 0)) (hv : ¬ v > 16) : takeDs l = goA l v [] k := by rw [takeDs]; simp only [h]; rw [if_neg (by simp), if_neg hv]
theorem goA_e {b : List UInt8} {n k e j : Nat} {o : List D2} {d : D2} (h : takeD (b.drop k) = (d, j, e)) (he : e ≠ 0) : goA b (n + 1) o k = ([], 0, e) := by rw [goA]; simp only [h]; rw [if_pos he]
theorem goA_lt {b : List UInt8} {n k j : Nat} {o : List D2} {d y : D2} (h : takeD (b.drop k) = (d, j, 0)) (i : Nat) (hl : o.length = i + 1) (hy : o[i]?.getD ⟨0, 0⟩ = y) (hp : y.lt d = false) : goA b (n + 1) o k = ([], 0, 21) := by
  rw [goA]; simp only [h]
  rw [if_neg (by simp), if_pos ⟨fun e => by rw [e] at hl; simp at hl, by rw [hl, Nat.add_sub_cancel, hy]; exact hp⟩]
theorem goA_one {b : List UInt8} {n k j : Nat} {o : List D2} {d : D2} (h : takeD (b.drop k) = (d, j, 0)) (hl : o.length = 0) : goA b (n + 1) o k = goA b n (o ++ [d]) (k + j) := by
  have ho := List.eq_nil_of_length_eq_zero hl
  rw [goA]; simp only [h]
  rw [if_neg (by simp), if_neg (fun hh => hh.1 ho)]
theorem goA_more {b : List UInt8} {n k j : Nat} {o : List D2} {d y : D2} (h : takeD (b.drop k) = (d, j, 0)) (i : Nat) (hl : o.length = i + 1) (hy : o[i]?.getD ⟨0, 0⟩ = y) (hp : y.lt d = true) : goA b (n + 1) o k = goA b n (o ++ [d]) (k + j) := by
  rw [goA]; simp only [h]
  rw [if_neg (by simp), if_neg (fun hh => by have := hh.2; rw [hl, Nat.add_sub_cancel, hy, hp] at this; cases this)]
set_option maxRecDepth 100000 in
set_option maxHeartbeats 6400000 in
theorem TakeAll_any (w : World) (A : Option Addr) (n c : Nat) (l : List UInt8) (hb : Sl w w.heap.size A (bv l)) (h0 : n = l.length) (hc : n ≤ c) (hcm : c ≤ maxLen) :
    Calls Try.prog 24 #[.slice A n c] w (TakeAllPost w l) := by
  obtain ⟨⟨v, k, e⟩, ht⟩ : ∃ r, takeS l = r := ⟨_, rfl⟩
  have HT : RowKit.Hid (Calls Try.prog 32 #[.slice A n c] w fun e' w' => e' = .returned (.tuple #[.int .u64 (v : Int), .int .i64 (k : Int), .int .i64 (e : Int)]) ∧ w = w') := by
    have h := Take_any w _ A c l hb (by omega) hcm
    rw [ht, ← h0] at h
    exact h
  by_cases he : e = 0
  · subst he
    by_cases hv : v > 16
    · have HR := Lib.hid (takeDs_big ht hv)
      have hv1 : decide ((16 : Int) < (v : Int)) = true := by rw [decide_eq_true_eq]; omega
      clear ht hb hv h0
      go_enter Try.func24, Try.ntmps24
      go_wp2_with fail
      refine HT.out.mono ?_
      rintro e' w1 ⟨rfl, rfl⟩
      go_wp2_with fail
      exact bodyPost_ret (v := .tuple #[.slice none 0 0, .int .i64 0, .int .i64 21]) (by simp [results, Try.results24, go_sem]) rfl ⟨none, 0, by rw [HR.out]; rfl, by rw [HR.out]; exact .inl rfl, by rw [HR.out]; exact Nat.le_refl _, by simp [maxLen], Below.refl _ _⟩
    · have hR := takeDs_go ht hv
      have hv1 : decide ((16 : Int) < (v : Int)) = false := by rw [decide_eq_false_iff_not]; omega
      have hw1 : IntKind.i64.wrap (v : Int) = (v : Int) := by rw [IntKind.wrap_i64]; omega
      have hk9 : 0 < n ∧ k ≤ n := by
        have := takeS_ok l (by rw [ht])
        rw [ht] at this
        obtain ⟨t1, t2, t3, _⟩ := this
        simp only at t1 t3
        omega
      obtain ⟨b, o, rfl, _, hbw, _⟩ := hb.at_ (k := 0) (by simp; omega)
      have HN := Lib.hid (And.intro h0 (And.intro hc hcm))
      clear ht h0 hc hcm
      go_enter Try.func24, Try.ntmps24
      go_wp2_with fail
      refine HT.out.mono ?_
      rintro e' w1 ⟨rfl, rfl⟩
      go_wp2_with fail
      go_loopw [6, 8, 28] (fun x6 x8 x wr => ∃ (i at' : Nat) (out : List D2), i ≤ v ∧ x = .int .i64 (i : Int) ∧ x6 = .int .i64 (at' : Int) ∧ at' ≤ n ∧ out.length = i ∧ OwnD wr w.heap.size x8 out ∧ goA l (v - i) out at' = goA l v [] k ∧ Below w.heap.size w wr) (fun _ _ x _ => v - (intOf x).toNat)
      case atStart => exact ⟨0, k, [], by omega, rfl, rfl, hk9.2, rfl, OwnD.nil _ _, rfl, Below.refl _ _⟩
      case round =>
        obtain ⟨i, p, q, hi, rfl, rfl, hp, hql, hown, hgo, hbel⟩ := hrel
        by_cases hlt : i < v
        · have hd1 : decide ((i : Int) < (v : Int)) = true := by rw [decide_eq_true_eq]; omega
          obtain ⟨⟨d, j, e2⟩, hd⟩ : ∃ r, takeD (l.drop p) = r := ⟨_, rfl⟩
          have hp0 : (0 : Int) ≤ (p : Int) := by omega
          have hp1 : (p : Int) ≤ (n : Int) := by omega
          have hcut := hb.cut p c (by have := HN.out; simp; omega)
          rw [show (bv l).drop p = bv (l.drop p) by simp [bv, List.map_drop]] at hcut
          obtain ⟨A2, hA2⟩ : ∃ A2, (if c = p then some (⟨b, o, none⟩ : Addr) else (some (⟨b, o, none⟩ : Addr)).map (·.add p)) = A2 := ⟨_, rfl⟩
          rw [hA2] at hcut
          have HT2 : RowKit.Hid (∀ cc, n - p ≤ cc → cc ≤ maxLen → Calls Try.prog 20 #[.slice A2 (n - p) cc] wr fun e' w' => e' = .returned (.tuple #[d.v, .int .i64 (j : Int), .int .i64 (e2 : Int)]) ∧ Below wr.heap.size wr w') := by
            intro cc h1 h2
            have h := DTake_any wr A2 (n - p) cc (l.drop p) ((hcut.below hbel).more hbel.size) (by rw [List.length_drop, ← HN.out.1]) h1 h2
            unfold TakeDPost at h
            rw [hd] at h
            exact h
          have hAe : (p = c ∧ A2 = some (⟨b, o, none⟩ : Addr)) ∨ (¬ c = p ∧ A2 = some (⟨b, o + p, none⟩ : Addr)) := by
            by_cases h : c = p
            · rw [if_pos h] at hA2; exact .inl ⟨h.symm, hA2.symm⟩
            · rw [if_neg h] at hA2; refine .inr ⟨h, ?_⟩; rw [← hA2]; cases p <;> rfl
          unfold D2.v at HT2
          have hvi : v - i = (v - (i + 1)) + 1 := by omega
          rw [hvi] at hgo
          clear hcut hA2 hvi
          by_cases he2 : e2 = 0
          · subst he2
            have hjk := takeD_ok (b := l.drop p) (by rw [hd])
            rw [hd] at hjk
            obtain ⟨_, _, hj1, hj2⟩ := hjk
            simp only [List.length_drop, ← HN.out.1] at hj1 hj2
            have hwj : IntKind.i64.wrap ((p : Int) + (j : Int)) = (p : Int) + (j : Int) := by have := HN.out; simp only [maxLen] at this; rw [IntKind.wrap_i64]; omega
            cases i with
            | zero =>
              have HG := Lib.hid ((goA_one hd hql).symm.trans hgo)
              clear hgo hd
              rcases hAe with ⟨hc1, rfl⟩ | ⟨hc1, rfl⟩
              all_goals
                try subst hc1
                go_wp2_with fail
                refine (HT2.out _ (by have := HN.out; omega) (by have := HN.out; omega)).mono ?_
                rintro e' w5 ⟨rfl, h5⟩
                have hbx := (hbel.trans (h5.mono hbel.size)).alloc (Nat.le_trans hbel.size h5.size) (.cells #[.int .i64 d.r, .int .i64 d.q] 23)
                go_wp2_with fail
                refine bstart (by kernel_rfl) ?_
                refine btake 0 (oi := _) (v := ?_) (by simp only [List.getElem?_toArray, List.getElem?_cons_zero]; rfl) (by kernel_rfl) (by exact fun _ _ _ h => h) (by first | assumption | exact KB.refl _) (.inl ⟨by rfl, fun W hW => ?_⟩) ?_; rotate_left
                · (go_simp; first | done | with_reducible rfl)
                try simp only [Act.put, List.setIfInBounds_toArray, List.set_cons_zero, List.set_cons_succ]
                refine btake 1 (oi := _) (v := ?_) (by simp only [List.getElem?_toArray, List.getElem?_cons_succ, List.getElem?_cons_zero]; rfl) (by kernel_rfl) (by exact fun _ _ _ h => h) (by first | assumption | exact KB.refl _) (.inl ⟨by rfl, fun W hW => ?_⟩) ?_; rotate_left
                · (go_simp; first | done | with_reducible rfl)
                try simp only [Act.put, List.setIfInBounds_toArray, List.set_cons_zero, List.set_cons_succ]
                refine btake 2 (oi := _) (v := ?_) (by simp only [List.getElem?_toArray, List.getElem?_cons_succ, List.getElem?_cons_zero]; rfl) (by kernel_rfl) (by exact fun _ _ _ h => h) (by first | assumption | exact KB.refl _) (.inl ⟨by rfl, fun W hW => ?_⟩) ?_; rotate_left
                · (go_simp; first | done | with_reducible rfl)
                try simp only [Act.put, List.setIfInBounds_toArray, List.set_cons_zero, List.set_cons_succ]
                refine btake 3 (oi := _) (v := undef) (by simp only [List.getElem?_toArray, List.getElem?_cons_succ, List.getElem?_cons_zero]; rfl) (by kernel_rfl) (by exact fun _ _ _ h => h) (by first | assumption | exact KB.refl _) (.inr ⟨by rfl, rfl⟩) ?_
                try simp only [Act.put, List.setIfInBounds_toArray, List.set_cons_zero, List.set_cons_succ]
                refine btake 4 (oi := _) (v := undef) (by simp only [List.getElem?_toArray, List.getElem?_cons_succ, List.getElem?_cons_zero]; rfl) (by kernel_rfl) (by exact fun _ _ _ h => h) (by first | assumption | exact KB.refl _) (.inr ⟨by rfl, rfl⟩) ?_
                try simp only [Act.put, List.setIfInBounds_toArray, List.set_cons_zero, List.set_cons_succ]
                refine btake 5 (oi := _) (v := undef) (by simp only [List.getElem?_toArray, List.getElem?_cons_succ, List.getElem?_cons_zero]; rfl) (by kernel_rfl) (by exact fun _ _ _ h => h) (by first | assumption | exact KB.refl _) (.inr ⟨by rfl, rfl⟩) ?_
                try simp only [Act.put, List.setIfInBounds_toArray, List.set_cons_zero, List.set_cons_succ]
                refine btake 6 (oi := _) (v := undef) (by simp only [List.getElem?_toArray, List.getElem?_cons_succ, List.getElem?_cons_zero]; rfl) (by kernel_rfl) (by exact fun _ _ _ h => h) (by first | assumption | exact KB.refl _) (.inr ⟨by rfl, rfl⟩) ?_
                try simp only [Act.put, List.setIfInBounds_toArray, List.set_cons_zero, List.set_cons_succ]
                refine btake 7 (oi := _) (v := undef) (by simp only [List.getElem?_toArray, List.getElem?_cons_succ, List.getElem?_cons_zero]; rfl) (by kernel_rfl) (by exact fun _ _ _ h => h) (by first | assumption | exact KB.refl _) (.inr ⟨by rfl, rfl⟩) ?_
                try simp only [Act.put, List.setIfInBounds_toArray, List.set_cons_zero, List.set_cons_succ]
                refine btake 8 (oi := _) (v := undef) (by simp only [List.getElem?_toArray, List.getElem?_cons_succ, List.getElem?_cons_zero]; rfl) (by kernel_rfl) (by exact fun _ _ _ h => h) (by first | assumption | exact KB.refl _) (.inr ⟨by rfl, rfl⟩) ?_
                try simp only [Act.put, List.setIfInBounds_toArray, List.set_cons_zero, List.set_cons_succ]
                refine btake 9 (oi := _) (v := undef) (by simp only [List.getElem?_toArray, List.getElem?_cons_succ, List.getElem?_cons_zero]; rfl) (by kernel_rfl) (by exact fun _ _ _ h => h) (by first | assumption | exact KB.refl _) (.inr ⟨by rfl, rfl⟩) ?_
                try simp only [Act.put, List.setIfInBounds_toArray, List.set_cons_zero, List.set_cons_succ]
                refine btake 10 (oi := _) (v := undef) (by simp only [List.getElem?_toArray, List.getElem?_cons_succ, List.getElem?_cons_zero]; rfl) (by kernel_rfl) (by exact fun _ _ _ h => h) (by first | assumption | exact KB.refl _) (.inr ⟨by rfl, rfl⟩) ?_
                try simp only [Act.put, List.setIfInBounds_toArray, List.set_cons_zero, List.set_cons_succ]
                refine btake 11 (oi := _) (v := ?_) (by simp only [List.getElem?_toArray, List.getElem?_cons_succ, List.getElem?_cons_zero]; rfl) (by kernel_rfl) (by exact fun _ _ _ h => h) (by first | assumption | exact KB.refl _) (.inl ⟨by rfl, fun W hW => ?_⟩) ?_; rotate_left
                · (go_simp; first | done | with_reducible rfl)
                try simp only [Act.put, List.setIfInBounds_toArray, List.set_cons_zero, List.set_cons_succ]
                refine btake 12 (oi := _) (v := ?_) (by simp only [List.getElem?_toArray, List.getElem?_cons_succ, List.getElem?_cons_zero]; rfl) (by kernel_rfl) (by exact fun _ _ _ h => h) (by first | assumption | exact KB.refl _) (.inl ⟨by rfl, fun W hW => ?_⟩) ?_; rotate_left
                · (go_simp; first | done | with_reducible rfl)
                try simp only [Act.put, List.setIfInBounds_toArray, List.set_cons_zero, List.set_cons_succ]
                refine bdone (by kernel_rfl) ?_
                have hst2 := (StandsD.new w5 23 d).below (Below.refl _ _).drew
                have how2 := (hown.below (h5.alloc h5.size (.cells #[.int .i64 d.r, .int .i64 d.q] 23))).below (Below.refl _ _).drew
                have hbz := hbx.drew
                generalize (w5.alloc (.cells #[.int .i64 d.r, .int .i64 d.q] 23)).drew = wz at hst2 how2 hbz ⊢
                clear hown hbx h5
                have m0 := hst2.2.1
                have m1 := hst2.2.2.1
                have how3 := how2.below (balloc (Below.refl _ _) (.cells #[.int .i64 d.r, .int .i64 d.q] 23))
                have hbz3 := hbz.alloc hbz.size (.cells #[.int .i64 d.r, .int .i64 d.q] 23)
                have hSl : Sl (wz.alloc (.cells #[.int .i64 d.r, .int .i64 d.q] 23)) (wz.heap.size + 1) (some ⟨wz.heap.size, 0, none⟩) (dv [d]) := Sl.new wz 23 #[.int .i64 d.r, .int .i64 d.q] (0, 0)
                clear hst2 how2
                go_wp2_with (at_builtin; refine appD rfl rfl how3 hSl rfl rfl rfl (by rw [hql, List.length_singleton]; omega) hbz3.size ?_; intro v7 w7 h7 hg7 hat7)
                go_roundw
                case rel => exact ⟨1, p + j, q ++ [d], by omega, by go_num, by go_num, by omega, by rw [List.length_append, hql]; rfl, h7, HG.out, own_belowD hbz3 hbz3.size how3 hg7⟩
                case measure => simp [intOf]; omega
            | succ i =>
              obtain ⟨g, cg, hv9, hg1, hg2, _, _⟩ := hown.head (by omega)
              have hr2 := hown
              rw [hv9] at hr2
              obtain ⟨y0, y1, _, _⟩ := hr2.row2.2 i (by omega)
              rw [hql] at hv9
              subst hv9
              clear hr2
              obtain ⟨y, hy⟩ : ∃ y, q[i]?.getD ⟨0, 0⟩ = y := ⟨_, rfl⟩
              rw [hy] at y0 y1
              obtain ⟨s, hs⟩ : ∃ s, y.lt d = s := ⟨_, rfl⟩
              have HL := Lib.hid (fun W => DLess_any W y d)
              rw [hs] at HL
              unfold D2.v at HL
              have hi0 : (0 : Int) ≤ (i : Int) := by omega
              replace hd1 : decide ((i : Int) + 1 < (v : Int)) = true := by rw [decide_eq_true_eq]; omega
              have hi1 : i < i + 1 := by omega
              have hi2 : (i : Int) < (i : Int) + 1 := by omega
              have hi3 : decide ((0 : Int) < (i : Int) + 1) = true := by rw [decide_eq_true_eq]; omega
              have hwk : IntKind.i64.wrap (i : Int) = (i : Int) := by rw [IntKind.wrap_i64]; omega
              cases s with
              | false =>
                have HR := Lib.hid (show takeDs l = ([], 0, 21) by rw [hR, ← hgo]; exact goA_lt hd i hql hy hs)
                clear hgo hd hy hs
                rcases hAe with ⟨hc1, rfl⟩ | ⟨hc1, rfl⟩
                all_goals
                  try subst hc1
                  go_wp2_with fail
                  refine (HT2.out _ (by have := HN.out; omega) (by have := HN.out; omega)).mono ?_
                  rintro e' w5 ⟨rfl, h5⟩
                  have hbx := (hbel.trans (h5.mono hbel.size)).alloc (Nat.le_trans hbel.size h5.size) (.cells #[.int .i64 d.r, .int .i64 d.q] 23)
                  go_wp2_with fail
                  have hba : Below wr.heap.size wr (w5.alloc (.cells #[.int .i64 d.r, .int .i64 d.q] 23)) := h5.alloc h5.size _
                  obtain ⟨_, e0, e1, _, _⟩ := StandsD.new w5 23 d
                  replace e0 := cellB e0
                  replace e1 := cellB e1
                  have e2 := cellB ((hba.cell hg2).trans y0)
                  have e3 := cellB ((hba.cell hg2).trans y1)
                  refine bstart (by kernel_rfl) ?_
                  refine btake 0 (oi := _) (v := ?_) (by simp only [List.getElem?_toArray, List.getElem?_cons_zero]; rfl) (by kernel_rfl) (by exact fun _ _ _ h => h) (by first | assumption | exact KB.refl _) (.inl ⟨by rfl, fun W hW => ?_⟩) ?_; rotate_left
                  · (go_simp; first | done | with_reducible rfl)
                  try simp only [Act.put, List.setIfInBounds_toArray, List.set_cons_zero, List.set_cons_succ]
                  refine btake 1 (oi := _) (v := ?_) (by simp only [List.getElem?_toArray, List.getElem?_cons_succ, List.getElem?_cons_zero]; rfl) (by kernel_rfl) (by exact fun _ _ _ h => h) (by first | assumption | exact KB.refl _) (.inl ⟨by rfl, fun W hW => ?_⟩) ?_; rotate_left
                  · (go_simp; first | done | with_reducible rfl)
                  try simp only [Act.put, List.setIfInBounds_toArray, List.set_cons_zero, List.set_cons_succ]
                  refine btake 2 (oi := _) (v := ?_) (by simp only [List.getElem?_toArray, List.getElem?_cons_succ, List.getElem?_cons_zero]; rfl) (by kernel_rfl) (by exact fun _ _ _ h => h) (by first | assumption | exact KB.refl _) (.inl ⟨by rfl, fun W hW => ?_⟩) ?_; rotate_left
                  · (go_simp; first | done | with_reducible rfl)
                  try simp only [Act.put, List.setIfInBounds_toArray, List.set_cons_zero, List.set_cons_succ]
                  refine btake 3 (oi := _) (v := ?_) (by simp only [List.getElem?_toArray, List.getElem?_cons_succ, List.getElem?_cons_zero]; rfl) (by kernel_rfl) (by exact fun _ _ _ h => h) (by first | assumption | exact KB.refl _) (.inl ⟨by rfl, fun W hW => ?_⟩) ?_; rotate_left
                  · (go_simp; first | done | with_reducible rfl)
                  try simp only [Act.put, List.setIfInBounds_toArray, List.set_cons_zero, List.set_cons_succ]
                  refine btake 4 (oi := _) (v := ?_) (by simp only [List.getElem?_toArray, List.getElem?_cons_succ, List.getElem?_cons_zero]; rfl) (by kernel_rfl) (by exact fun _ _ _ h => h) (by first | assumption | exact KB.refl _) (.inl ⟨by rfl, fun W hW => ?_⟩) ?_; rotate_left
                  · (go_simp; first | done | with_reducible rfl)
                  try simp only [Act.put, List.setIfInBounds_toArray, List.set_cons_zero, List.set_cons_succ]
                  refine btake 5 (oi := _) (v := ?_) (by simp only [List.getElem?_toArray, List.getElem?_cons_succ, List.getElem?_cons_zero]; rfl) (by kernel_rfl) (by exact fun _ _ _ h => h) (by first | assumption | exact KB.refl _) (.inl ⟨by rfl, fun W hW => ?_⟩) ?_; rotate_left
                  · (go_simp; first | done | with_reducible rfl)
                  try simp only [Act.put, List.setIfInBounds_toArray, List.set_cons_zero, List.set_cons_succ]
                  refine btake 6 (oi := _) (v := ?_) (by simp only [List.getElem?_toArray, List.getElem?_cons_succ, List.getElem?_cons_zero]; rfl) (by kernel_rfl) (by exact fun _ _ _ h => h) (by first | assumption | exact KB.refl _) (.inl ⟨by rfl, fun W hW => ?_⟩) ?_; rotate_left
                  · (go_simp; first | done | with_reducible rfl)
                  try simp only [Act.put, List.setIfInBounds_toArray, List.set_cons_zero, List.set_cons_succ]
                  refine btake 7 (oi := _) (v := ?_) (by simp only [List.getElem?_toArray, List.getElem?_cons_succ, List.getElem?_cons_zero]; rfl) (by kernel_rfl) (by exact fun _ _ _ h => h) (by first | assumption | exact KB.refl _) (.inl ⟨by rfl, fun W hW => ?_⟩) ?_; rotate_left
                  · (go_simp; first | done | with_reducible rfl)
                  try simp only [Act.put, List.setIfInBounds_toArray, List.set_cons_zero, List.set_cons_succ]
                  refine btake 8 (oi := _) (v := ?_) (by simp only [List.getElem?_toArray, List.getElem?_cons_succ, List.getElem?_cons_zero]; rfl) (by kernel_rfl) (by exact fun _ _ _ h => h) (by first | assumption | exact KB.refl _) (.inl ⟨by rfl, fun W hW => ?_⟩) ?_; rotate_left
                  · (go_simp; first | done | with_reducible rfl)
                  try simp only [Act.put, List.setIfInBounds_toArray, List.set_cons_zero, List.set_cons_succ]
                  -- 9: newsreel/dot.Less
                  refine bop 9 (o := _) (by simp only [List.getElem?_toArray, List.getElem?_cons_succ, List.getElem?_cons_zero]; rfl) (by kernel_rfl) (by first | assumption | exact KB.refl _) (by rfl) (fun K hK => ?_)
                  go_simp
                  refine (HL.out _).mono ?_
                  rintro e wz ⟨rfl, h6⟩
                  have hkb := KB.of h6
                  refine hK.out _ _ hkb ?_; clear hK K
                  try simp only [Act.put, List.setIfInBounds_toArray, List.set_cons_zero, List.set_cons_succ]
                  refine btake 10 (oi := _) (v := ?_) (by simp only [List.getElem?_toArray, List.getElem?_cons_succ, List.getElem?_cons_zero]; rfl) (by kernel_rfl) (by exact fun _ _ _ h => h) (by first | assumption | exact KB.refl _) (.inl ⟨by rfl, fun W hW => ?_⟩) ?_; rotate_left
                  · (go_simp; first | done | with_reducible rfl)
                  try simp only [Act.put, List.setIfInBounds_toArray, List.set_cons_zero, List.set_cons_succ]
                  refine btake 11 (oi := _) (v := ?_) (by simp only [List.getElem?_toArray, List.getElem?_cons_succ, List.getElem?_cons_zero]; rfl) (by kernel_rfl) (by exact fun _ _ _ h => h) (by first | assumption | exact KB.refl _) (.inl ⟨by rfl, fun W hW => ?_⟩) ?_; rotate_left
                  · (go_simp; first | done | with_reducible rfl)
                  try simp only [Act.put, List.setIfInBounds_toArray, List.set_cons_zero, List.set_cons_succ]
                  refine btake 12 (oi := _) (v := ?_) (by simp only [List.getElem?_toArray, List.getElem?_cons_succ, List.getElem?_cons_zero]; rfl) (by kernel_rfl) (by exact fun _ _ _ h => h) (by first | assumption | exact KB.refl _) (.inl ⟨by rfl, fun W hW => ?_⟩) ?_; rotate_left
                  · (go_simp; first | done | with_reducible rfl)
                  try simp only [Act.put, List.setIfInBounds_toArray, List.set_cons_zero, List.set_cons_succ]
                  refine bdone (by kernel_rfl) ?_
                  have hst2 := (StandsD.new w5 23 d).below ((Below.refl _ _).drew.trans h6)
                  have how2 := (hown.below hba).below ((Below.refl _ _).drew.trans h6)
                  have hbz := hbx.trans (((Below.refl _ _).drew.trans h6).mono hbx.size)
                  clear hst2 how2 e0 e1 e2 e3 hkb
                  go_wp2_with fail
                  exact bodyPost_ret (v := .tuple #[.slice none 0 0, .int .i64 0, .int .i64 21]) (by simp [results, Try.results24, go_sem]) rfl ⟨none, 0, by rw [HR.out]; rfl, by rw [HR.out]; exact .inl rfl, by rw [HR.out]; exact Nat.le_refl _, by simp [maxLen], hbz⟩
              | true =>
                have HG := Lib.hid ((goA_more hd i hql hy hs).symm.trans hgo)
                clear hgo hd hy hs
                rcases hAe with ⟨hc1, rfl⟩ | ⟨hc1, rfl⟩
                all_goals
                  try subst hc1
                  go_wp2_with fail
                  refine (HT2.out _ (by have := HN.out; omega) (by have := HN.out; omega)).mono ?_
                  rintro e' w5 ⟨rfl, h5⟩
                  have hbx := (hbel.trans (h5.mono hbel.size)).alloc (Nat.le_trans hbel.size h5.size) (.cells #[.int .i64 d.r, .int .i64 d.q] 23)
                  go_wp2_with fail
                  have hba : Below wr.heap.size wr (w5.alloc (.cells #[.int .i64 d.r, .int .i64 d.q] 23)) := h5.alloc h5.size _
                  obtain ⟨_, e0, e1, _, _⟩ := StandsD.new w5 23 d
                  replace e0 := cellB e0
                  replace e1 := cellB e1
                  have e2 := cellB ((hba.cell hg2).trans y0)
                  have e3 := cellB ((hba.cell hg2).trans y1)
                  refine bstart (by kernel_rfl) ?_
                  refine btake 0 (oi := _) (v := ?_) (by simp only [List.getElem?_toArray, List.getElem?_cons_zero]; rfl) (by kernel_rfl) (by exact fun _ _ _ h => h) (by first | assumption | exact KB.refl _) (.inl ⟨by rfl, fun W hW => ?_⟩) ?_; rotate_left
                  · (go_simp; first | done | with_reducible rfl)
                  try simp only [Act.put, List.setIfInBounds_toArray, List.set_cons_zero, List.set_cons_succ]
                  refine btake 1 (oi := _) (v := ?_) (by simp only [List.getElem?_toArray, List.getElem?_cons_succ, List.getElem?_cons_zero]; rfl) (by kernel_rfl) (by exact fun _ _ _ h => h) (by first | assumption | exact KB.refl _) (.inl ⟨by rfl, fun W hW => ?_⟩) ?_; rotate_left
                  · (go_simp; first | done | with_reducible rfl)
                  try simp only [Act.put, List.setIfInBounds_toArray, List.set_cons_zero, List.set_cons_succ]
                  refine btake 2 (oi := _) (v := ?_) (by simp only [List.getElem?_toArray, List.getElem?_cons_succ, List.getElem?_cons_zero]; rfl) (by kernel_rfl) (by exact fun _ _ _ h => h) (by first | assumption | exact KB.refl _) (.inl ⟨by rfl, fun W hW => ?_⟩) ?_; rotate_left
                  · (go_simp; first | done | with_reducible rfl)
                  try simp only [Act.put, List.setIfInBounds_toArray, List.set_cons_zero, List.set_cons_succ]
                  refine btake 3 (oi := _) (v := ?_) (by simp only [List.getElem?_toArray, List.getElem?_cons_succ, List.getElem?_cons_zero]; rfl) (by kernel_rfl) (by exact fun _ _ _ h => h) (by first | assumption | exact KB.refl _) (.inl ⟨by rfl, fun W hW => ?_⟩) ?_; rotate_left
                  · (go_simp; first | done | with_reducible rfl)
                  try simp only [Act.put, List.setIfInBounds_toArray, List.set_cons_zero, List.set_cons_succ]
                  refine btake 4 (oi := _) (v := ?_) (by simp only [List.getElem?_toArray, List.getElem?_cons_succ, List.getElem?_cons_zero]; rfl) (by kernel_rfl) (by exact fun _ _ _ h => h) (by first | assumption | exact KB.refl _) (.inl ⟨by rfl, fun W hW => ?_⟩) ?_; rotate_left
                  · (go_simp; first | done | with_reducible rfl)
                  try simp only [Act.put, List.setIfInBounds_toArray, List.set_cons_zero, List.set_cons_succ]
                  refine btake 5 (oi := _) (v := ?_) (by simp only [List.getElem?_toArray, List.getElem?_cons_succ, List.getElem?_cons_zero]; rfl) (by kernel_rfl) (by exact fun _ _ _ h => h) (by first | assumption | exact KB.refl _) (.inl ⟨by rfl, fun W hW => ?_⟩) ?_; rotate_left
                  · (go_simp; first | done | with_reducible rfl)
                  try simp only [Act.put, List.setIfInBounds_toArray, List.set_cons_zero, List.set_cons_succ]
                  refine btake 6 (oi := _) (v := ?_) (by simp only [List.getElem?_toArray, List.getElem?_cons_succ, List.getElem?_cons_zero]; rfl) (by kernel_rfl) (by exact fun _ _ _ h => h) (by first | assumption | exact KB.refl _) (.inl ⟨by rfl, fun W hW => ?_⟩) ?_; rotate_left
                  · (go_simp; first | done | with_reducible rfl)
                  try simp only [Act.put, List.setIfInBounds_toArray, List.set_cons_zero, List.set_cons_succ]
                  refine btake 7 (oi := _) (v := ?_) (by simp only [List.getElem?_toArray, List.getElem?_cons_succ, List.getElem?_cons_zero]; rfl) (by kernel_rfl) (by exact fun _ _ _ h => h) (by first | assumption | exact KB.refl _) (.inl ⟨by rfl, fun W hW => ?_⟩) ?_; rotate_left
                  · (go_simp; first | done | with_reducible rfl)
                  try simp only [Act.put, List.setIfInBounds_toArray, List.set_cons_zero, List.set_cons_succ]
                  refine btake 8 (oi := _) (v := ?_) (by simp only [List.getElem?_toArray, List.getElem?_cons_succ, List.getElem?_cons_zero]; rfl) (by kernel_rfl) (by exact fun _ _ _ h => h) (by first | assumption | exact KB.refl _) (.inl ⟨by rfl, fun W hW => ?_⟩) ?_; rotate_left
                  · (go_simp; first | done | with_reducible rfl)
                  try simp only [Act.put, List.setIfInBounds_toArray, List.set_cons_zero, List.set_cons_succ]
                  -- 9: newsreel/dot.Less
                  refine bop 9 (o := _) (by simp only [List.getElem?_toArray, List.getElem?_cons_succ, List.getElem?_cons_zero]; rfl) (by kernel_rfl) (by first | assumption | exact KB.refl _) (by rfl) (fun K hK => ?_)
                  go_simp
                  refine (HL.out _).mono ?_
                  rintro e wz ⟨rfl, h6⟩
                  have hkb := KB.of h6
                  refine hK.out _ _ hkb ?_; clear hK K
                  try simp only [Act.put, List.setIfInBounds_toArray, List.set_cons_zero, List.set_cons_succ]
                  refine btake 10 (oi := _) (v := ?_) (by simp only [List.getElem?_toArray, List.getElem?_cons_succ, List.getElem?_cons_zero]; rfl) (by kernel_rfl) (by exact fun _ _ _ h => h) (by first | assumption | exact KB.refl _) (.inl ⟨by rfl, fun W hW => ?_⟩) ?_; rotate_left
                  · (go_simp; first | done | with_reducible rfl)
                  try simp only [Act.put, List.setIfInBounds_toArray, List.set_cons_zero, List.set_cons_succ]
                  refine btake 11 (oi := _) (v := ?_) (by simp only [List.getElem?_toArray, List.getElem?_cons_succ, List.getElem?_cons_zero]; rfl) (by kernel_rfl) (by exact fun _ _ _ h => h) (by first | assumption | exact KB.refl _) (.inl ⟨by rfl, fun W hW => ?_⟩) ?_; rotate_left
                  · (go_simp; first | done | with_reducible rfl)
                  try simp only [Act.put, List.setIfInBounds_toArray, List.set_cons_zero, List.set_cons_succ]
                  refine btake 12 (oi := _) (v := ?_) (by simp only [List.getElem?_toArray, List.getElem?_cons_succ, List.getElem?_cons_zero]; rfl) (by kernel_rfl) (by exact fun _ _ _ h => h) (by first | assumption | exact KB.refl _) (.inl ⟨by rfl, fun W hW => ?_⟩) ?_; rotate_left
                  · (go_simp; first | done | with_reducible rfl)
                  try simp only [Act.put, List.setIfInBounds_toArray, List.set_cons_zero, List.set_cons_succ]
                  refine bdone (by kernel_rfl) ?_
                  have hst2 := (StandsD.new w5 23 d).below ((Below.refl _ _).drew.trans h6)
                  have how2 := (hown.below hba).below ((Below.refl _ _).drew.trans h6)
                  have hbz := hbx.trans (((Below.refl _ _).drew.trans h6).mono hbx.size)
                  clear e0 e1 e2 e3 hkb hown hbx h5 h6 hba
                  have m0 := hst2.2.1
                  have m1 := hst2.2.2.1
                  have how3 := how2.below (balloc (Below.refl _ _) (.cells #[.int .i64 d.r, .int .i64 d.q] 23))
                  have hbz3 := hbz.alloc hbz.size (.cells #[.int .i64 d.r, .int .i64 d.q] 23)
                  have hSl : Sl (wz.alloc (.cells #[.int .i64 d.r, .int .i64 d.q] 23)) (wz.heap.size + 1) (some ⟨wz.heap.size, 0, none⟩) (dv [d]) := Sl.new wz 23 #[.int .i64 d.r, .int .i64 d.q] (0, 0)
                  clear hst2 how2
                  go_wp2_with (at_builtin; refine appD rfl rfl how3 hSl rfl rfl rfl (by rw [hql, List.length_singleton]; omega) hbz3.size ?_; intro v7 w7 h7 hg7 hat7)
                  go_roundw
                  case rel => exact ⟨i + 2, p + j, q ++ [d], by omega, by go_num, by go_num, by omega, by rw [List.length_append, hql]; rfl, h7, HG.out, own_belowD hbz3 hbz3.size how3 hg7⟩
                  case measure => simp [intOf]; omega
          · have HR := Lib.hid (show takeDs l = ([], 0, e2) by rw [hR, ← hgo]; exact goA_e hd he2)
            have he1 : ((e2 : Int) != 0) = true := by rw [bne_iff_ne]; omega
            clear hgo he2 hd hown
            rcases hAe with ⟨hc1, rfl⟩ | ⟨hc1, rfl⟩
            all_goals
              try subst hc1
              go_wp2_with fail
              refine (HT2.out _ (by have := HN.out; omega) (by have := HN.out; omega)).mono ?_
              rintro e' w5 ⟨rfl, h5⟩
              have hbx := (hbel.trans (h5.mono hbel.size)).alloc (Nat.le_trans hbel.size h5.size) (.cells #[.int .i64 d.r, .int .i64 d.q] 23)
              go_wp2_with fail
              exact bodyPost_ret (v := .tuple #[.slice none 0 0, .int .i64 0, .int .i64 (e2 : Int)]) (by simp [results, Try.results24, go_sem]) rfl ⟨none, 0, by rw [HR.out]; rfl, by rw [HR.out]; exact .inl rfl, by rw [HR.out]; exact Nat.le_refl _, by simp [maxLen], hbx⟩
        · obtain rfl : i = v := by omega
          have hd1 : decide ((i : Int) < (i : Int)) = false := by rw [decide_eq_false_iff_not]; omega
          obtain ⟨Av, cv, e9, hlv, hmv, hsv, _⟩ := hown.form
          rw [hql] at e9
          subst e9
          have HR := Lib.hid (show takeDs l = (q, p, 0) by rw [hR, ← hgo, Nat.sub_self]; rfl)
          have HS := Lib.hid (And.intro hsv (And.intro hlv (And.intro hmv hbel)))
          clear hown hgo hR
          go_wp2_with fail
          exact bodyPost_ret (v := .tuple #[.slice Av i cv, .int .i64 (p : Int), .int .i64 0]) (by simp [results, Try.results24, go_sem]) rfl ⟨Av, cv, by rw [HR.out]; show _ = Ending.returned (.tuple #[.slice Av q.length cv, _, _]); rw [hql]; rfl, by rw [HR.out]; exact HS.out.1, by rw [HR.out]; exact HS.out.2.1, HS.out.2.2.1, HS.out.2.2.2⟩
  · have HR := Lib.hid (takeDs_e ht he)
    have he1 : ((e : Int) != 0) = true := by rw [bne_iff_ne]; omega
    clear ht hb he h0
    go_enter Try.func24, Try.ntmps24
    go_wp2_with fail
    refine HT.out.mono ?_
    rintro e' w1 ⟨rfl, rfl⟩
    go_wp2_with fail
    exact bodyPost_ret (v := .tuple #[.slice none 0 0, .int .i64 0, .int .i64 (e : Int)]) (by simp [results, Try.results24, go_sem]) rfl ⟨none, 0, by rw [HR.out]; rfl, by rw [HR.out]; exact .inl rfl, by rw [HR.out]; exact Nat.le_refl _, by simp [maxLen], Below.refl _ _⟩
set_option maxRecDepth 100000 in
set_option maxHeartbeats 6400000 in
theorem DotAll_any (w : World) (A : Option Addr) (n c : Nat) (l : List UInt8) (hb : Sl w w.heap.size A (bv l)) (h0 : n = l.length) (hc : n ≤ c) (hcm : c ≤ maxLen) :
    Calls Try.prog 25 #[.slice A n c] w (TakeAllPost w l) := by
  obtain ⟨⟨v, k, e⟩, ht⟩ : ∃ r, takeS l = r := ⟨_, rfl⟩
  have HT : RowKit.Hid (Calls Try.prog 33 #[.slice A n c] w fun e' w' => e' = .returned (.tuple #[.int .u64 (v : Int), .int .i64 (k : Int), .int .i64 (e : Int)]) ∧ w = w') := by
    have h := RefTake_any w _ A c l hb (by omega) hcm
    rw [ht, ← h0] at h
    exact h
  by_cases he : e = 0
  · subst he
    by_cases hv : v > 16
    · have HR := Lib.hid (takeDs_big ht hv)
      have hv1 : decide ((16 : Int) < (v : Int)) = true := by rw [decide_eq_true_eq]; omega
      clear ht hb hv h0
      go_enter Try.func25, Try.ntmps25
      go_wp2_with fail
      refine HT.out.mono ?_
      rintro e' w1 ⟨rfl, rfl⟩
      go_wp2_with fail
      exact bodyPost_ret (v := .tuple #[.slice none 0 0, .int .i64 0, .int .i64 21]) (by simp [results, Try.results25, go_sem]) rfl ⟨none, 0, by rw [HR.out]; rfl, by rw [HR.out]; exact .inl rfl, by rw [HR.out]; exact Nat.le_refl _, by simp [maxLen], Below.refl _ _⟩
    · have hR := takeDs_go ht hv
      have hv1 : decide ((16 : Int) < (v : Int)) = false := by rw [decide_eq_false_iff_not]; omega
      have hw1 : IntKind.i64.wrap (v : Int) = (v : Int) := by rw [IntKind.wrap_i64]; omega
      have hk9 : 0 < n ∧ k ≤ n := by
        have := takeS_ok l (by rw [ht])
        rw [ht] at this
        obtain ⟨t1, t2, t3, _⟩ := this
        simp only at t1 t3
        omega
      obtain ⟨b, o, rfl, _, hbw, _⟩ := hb.at_ (k := 0) (by simp; omega)
      have HN := Lib.hid (And.intro h0 (And.intro hc hcm))
      clear ht h0 hc hcm
      go_enter Try.func25, Try.ntmps25
      go_wp2_with fail
      refine HT.out.mono ?_
      rintro e' w1 ⟨rfl, rfl⟩
      go_wp2_with fail
      go_loopw [6, 8, 9] (fun x6 x8 x wr => ∃ (i at' : Nat) (out : List D2), i ≤ v ∧ x = .int .i64 (i : Int) ∧ x6 = .int .i64 (at' : Int) ∧ at' ≤ n ∧ out.length = i ∧ OwnD wr w.heap.size x8 out ∧ goA l (v - i) out at' = goA l v [] k ∧ Below w.heap.size w wr) (fun _ _ x _ => v - (intOf x).toNat)
      case atStart => exact ⟨0, k, [], by omega, rfl, rfl, hk9.2, rfl, OwnD.nil _ _, rfl, Below.refl _ _⟩
      case round =>
        obtain ⟨i, p, q, hi, rfl, rfl, hp, hql, hown, hgo, hbel⟩ := hrel
        by_cases hlt : i < v
        · have hd1 : decide ((i : Int) < (v : Int)) = true := by rw [decide_eq_true_eq]; omega
          obtain ⟨⟨d, j, e2⟩, hd⟩ : ∃ r, takeD (l.drop p) = r := ⟨_, rfl⟩
          have hp0 : (0 : Int) ≤ (p : Int) := by omega
          have hp1 : (p : Int) ≤ (n : Int) := by omega
          have hcut := hb.cut p c (by have := HN.out; simp; omega)
          rw [show (bv l).drop p = bv (l.drop p) by simp [bv, List.map_drop]] at hcut
          obtain ⟨A2, hA2⟩ : ∃ A2, (if c = p then some (⟨b, o, none⟩ : Addr) else (some (⟨b, o, none⟩ : Addr)).map (·.add p)) = A2 := ⟨_, rfl⟩
          rw [hA2] at hcut
          have HT2 : RowKit.Hid (∀ cc, n - p ≤ cc → cc ≤ maxLen → Calls Try.prog 21 #[.slice A2 (n - p) cc] wr fun e' w' => e' = .returned (.tuple #[d.v, .int .i64 (j : Int), .int .i64 (e2 : Int)]) ∧ Below wr.heap.size wr w') := by
            intro cc h1 h2
            have h := RDTake_any wr A2 (n - p) cc (l.drop p) ((hcut.below hbel).more hbel.size) (by rw [List.length_drop, ← HN.out.1]) h1 h2
            unfold TakeDPost at h
            rw [hd] at h
            exact h
          have hAe : (p = c ∧ A2 = some (⟨b, o, none⟩ : Addr)) ∨ (¬ c = p ∧ A2 = some (⟨b, o + p, none⟩ : Addr)) := by
            by_cases h : c = p
            · rw [if_pos h] at hA2; exact .inl ⟨h.symm, hA2.symm⟩
            · rw [if_neg h] at hA2; refine .inr ⟨h, ?_⟩; rw [← hA2]; cases p <;> rfl
          unfold D2.v at HT2
          have hvi : v - i = (v - (i + 1)) + 1 := by omega
          rw [hvi] at hgo
          clear hcut hA2 hvi
          by_cases he2 : e2 = 0
          · subst he2
            have hjk := takeD_ok (b := l.drop p) (by rw [hd])
            rw [hd] at hjk
            obtain ⟨_, _, hj1, hj2⟩ := hjk
            simp only [List.length_drop, ← HN.out.1] at hj1 hj2
            have hwj : IntKind.i64.wrap ((p : Int) + (j : Int)) = (p : Int) + (j : Int) := by have := HN.out; simp only [maxLen] at this; rw [IntKind.wrap_i64]; omega
            cases i with
            | zero =>
              have HG := Lib.hid ((goA_one hd hql).symm.trans hgo)
              clear hgo hd
              rcases hAe with ⟨hc1, rfl⟩ | ⟨hc1, rfl⟩
              all_goals
                try subst hc1
                go_wp2_with fail
                refine (HT2.out _ (by have := HN.out; omega) (by have := HN.out; omega)).mono ?_
                rintro e' w5 ⟨rfl, h5⟩
                have hbx := (hbel.trans (h5.mono hbel.size)).alloc (Nat.le_trans hbel.size h5.size) (.cells #[.int .i64 d.r, .int .i64 d.q] 23)
                go_wp2_with fail
                refine bstart (by kernel_rfl) ?_
                refine btake 0 (oi := _) (v := ?_) (by simp only [List.getElem?_toArray, List.getElem?_cons_zero]; rfl) (by kernel_rfl) (by exact fun _ _ _ h => h) (by first | assumption | exact KB.refl _) (.inl ⟨by rfl, fun W hW => ?_⟩) ?_; rotate_left
                · (go_simp; first | done | with_reducible rfl)
                try simp only [Act.put, List.setIfInBounds_toArray, List.set_cons_zero, List.set_cons_succ]
                refine btake 1 (oi := _) (v := ?_) (by simp only [List.getElem?_toArray, List.getElem?_cons_succ, List.getElem?_cons_zero]; rfl) (by kernel_rfl) (by exact fun _ _ _ h => h) (by first | assumption | exact KB.refl _) (.inl ⟨by rfl, fun W hW => ?_⟩) ?_; rotate_left
                · (go_simp; first | done | with_reducible rfl)
                try simp only [Act.put, List.setIfInBounds_toArray, List.set_cons_zero, List.set_cons_succ]
                refine btake 2 (oi := _) (v := ?_) (by simp only [List.getElem?_toArray, List.getElem?_cons_succ, List.getElem?_cons_zero]; rfl) (by kernel_rfl) (by exact fun _ _ _ h => h) (by first | assumption | exact KB.refl _) (.inl ⟨by rfl, fun W hW => ?_⟩) ?_; rotate_left
                · (go_simp; first | done | with_reducible rfl)
                try simp only [Act.put, List.setIfInBounds_toArray, List.set_cons_zero, List.set_cons_succ]
                refine btake 3 (oi := _) (v := undef) (by simp only [List.getElem?_toArray, List.getElem?_cons_succ, List.getElem?_cons_zero]; rfl) (by kernel_rfl) (by exact fun _ _ _ h => h) (by first | assumption | exact KB.refl _) (.inr ⟨by rfl, rfl⟩) ?_
                try simp only [Act.put, List.setIfInBounds_toArray, List.set_cons_zero, List.set_cons_succ]
                refine btake 4 (oi := _) (v := undef) (by simp only [List.getElem?_toArray, List.getElem?_cons_succ, List.getElem?_cons_zero]; rfl) (by kernel_rfl) (by exact fun _ _ _ h => h) (by first | assumption | exact KB.refl _) (.inr ⟨by rfl, rfl⟩) ?_
                try simp only [Act.put, List.setIfInBounds_toArray, List.set_cons_zero, List.set_cons_succ]
                refine btake 5 (oi := _) (v := undef) (by simp only [List.getElem?_toArray, List.getElem?_cons_succ, List.getElem?_cons_zero]; rfl) (by kernel_rfl) (by exact fun _ _ _ h => h) (by first | assumption | exact KB.refl _) (.inr ⟨by rfl, rfl⟩) ?_
                try simp only [Act.put, List.setIfInBounds_toArray, List.set_cons_zero, List.set_cons_succ]
                refine btake 6 (oi := _) (v := undef) (by simp only [List.getElem?_toArray, List.getElem?_cons_succ, List.getElem?_cons_zero]; rfl) (by kernel_rfl) (by exact fun _ _ _ h => h) (by first | assumption | exact KB.refl _) (.inr ⟨by rfl, rfl⟩) ?_
                try simp only [Act.put, List.setIfInBounds_toArray, List.set_cons_zero, List.set_cons_succ]
                refine btake 7 (oi := _) (v := undef) (by simp only [List.getElem?_toArray, List.getElem?_cons_succ, List.getElem?_cons_zero]; rfl) (by kernel_rfl) (by exact fun _ _ _ h => h) (by first | assumption | exact KB.refl _) (.inr ⟨by rfl, rfl⟩) ?_
                try simp only [Act.put, List.setIfInBounds_toArray, List.set_cons_zero, List.set_cons_succ]
                refine btake 8 (oi := _) (v := undef) (by simp only [List.getElem?_toArray, List.getElem?_cons_succ, List.getElem?_cons_zero]; rfl) (by kernel_rfl) (by exact fun _ _ _ h => h) (by first | assumption | exact KB.refl _) (.inr ⟨by rfl, rfl⟩) ?_
                try simp only [Act.put, List.setIfInBounds_toArray, List.set_cons_zero, List.set_cons_succ]
                refine btake 9 (oi := _) (v := undef) (by simp only [List.getElem?_toArray, List.getElem?_cons_succ, List.getElem?_cons_zero]; rfl) (by kernel_rfl) (by exact fun _ _ _ h => h) (by first | assumption | exact KB.refl _) (.inr ⟨by rfl, rfl⟩) ?_
                try simp only [Act.put, List.setIfInBounds_toArray, List.set_cons_zero, List.set_cons_succ]
                refine btake 10 (oi := _) (v := undef) (by simp only [List.getElem?_toArray, List.getElem?_cons_succ, List.getElem?_cons_zero]; rfl) (by kernel_rfl) (by exact fun _ _ _ h => h) (by first | assumption | exact KB.refl _) (.inr ⟨by rfl, rfl⟩) ?_
                try simp only [Act.put, List.setIfInBounds_toArray, List.set_cons_zero, List.set_cons_succ]
                refine btake 11 (oi := _) (v := ?_) (by simp only [List.getElem?_toArray, List.getElem?_cons_succ, List.getElem?_cons_zero]; rfl) (by kernel_rfl) (by exact fun _ _ _ h => h) (by first | assumption | exact KB.refl _) (.inl ⟨by rfl, fun W hW => ?_⟩) ?_; rotate_left
                · (go_simp; first | done | with_reducible rfl)
                try simp only [Act.put, List.setIfInBounds_toArray, List.set_cons_zero, List.set_cons_succ]
                refine bdone (by kernel_rfl) ?_
                have hst2 := (StandsD.new w5 23 d).below (Below.refl _ _).drew
                have how2 := (hown.below (h5.alloc h5.size (.cells #[.int .i64 d.r, .int .i64 d.q] 23))).below (Below.refl _ _).drew
                have hbz := hbx.drew
                generalize (w5.alloc (.cells #[.int .i64 d.r, .int .i64 d.q] 23)).drew = wz at hst2 how2 hbz ⊢
                clear hown hbx h5
                have m0 := hst2.2.1
                have m1 := hst2.2.2.1
                have how3 := how2.below (balloc (Below.refl _ _) (.cells #[.int .i64 d.r, .int .i64 d.q] 23))
                have hbz3 := hbz.alloc hbz.size (.cells #[.int .i64 d.r, .int .i64 d.q] 23)
                have hSl : Sl (wz.alloc (.cells #[.int .i64 d.r, .int .i64 d.q] 23)) (wz.heap.size + 1) (some ⟨wz.heap.size, 0, none⟩) (dv [d]) := Sl.new wz 23 #[.int .i64 d.r, .int .i64 d.q] (0, 0)
                clear hst2 how2
                go_wp2_with (at_builtin; refine appD rfl rfl how3 hSl rfl rfl rfl (by rw [hql, List.length_singleton]; omega) hbz3.size ?_; intro v7 w7 h7 hg7 hat7)
                go_roundw
                case rel => exact ⟨1, p + j, q ++ [d], by omega, by go_num, by go_num, by omega, by rw [List.length_append, hql]; rfl, h7, HG.out, own_belowD hbz3 hbz3.size how3 hg7⟩
                case measure => simp [intOf]; omega
            | succ i =>
              obtain ⟨g, cg, hv9, hg1, hg2, _, _⟩ := hown.head (by omega)
              have hr2 := hown
              rw [hv9] at hr2
              obtain ⟨y0, y1, _, _⟩ := hr2.row2.2 i (by omega)
              rw [hql] at hv9
              subst hv9
              clear hr2
              obtain ⟨y, hy⟩ : ∃ y, q[i]?.getD ⟨0, 0⟩ = y := ⟨_, rfl⟩
              rw [hy] at y0 y1
              obtain ⟨s, hs⟩ : ∃ s, y.lt d = s := ⟨_, rfl⟩
              have HL := Lib.hid (fun W => RDLess_any W y d)
              rw [hs] at HL
              unfold D2.v at HL
              have hi0 : (0 : Int) ≤ (i : Int) := by omega
              replace hd1 : decide ((i : Int) + 1 < (v : Int)) = true := by rw [decide_eq_true_eq]; omega
              have hi1 : i < i + 1 := by omega
              have hi2 : (i : Int) < (i : Int) + 1 := by omega
              have hi3 : decide ((0 : Int) < (i : Int) + 1) = true := by rw [decide_eq_true_eq]; omega
              have hwk : IntKind.i64.wrap (i : Int) = (i : Int) := by rw [IntKind.wrap_i64]; omega
              cases s with
              | false =>
                have HR := Lib.hid (show takeDs l = ([], 0, 21) by rw [hR, ← hgo]; exact goA_lt hd i hql hy hs)
                clear hgo hd hy hs
                rcases hAe with ⟨hc1, rfl⟩ | ⟨hc1, rfl⟩
                all_goals
                  try subst hc1
                  go_wp2_with fail
                  refine (HT2.out _ (by have := HN.out; omega) (by have := HN.out; omega)).mono ?_
                  rintro e' w5 ⟨rfl, h5⟩
                  have hbx := (hbel.trans (h5.mono hbel.size)).alloc (Nat.le_trans hbel.size h5.size) (.cells #[.int .i64 d.r, .int .i64 d.q] 23)
                  go_wp2_with fail
                  have hba : Below wr.heap.size wr (w5.alloc (.cells #[.int .i64 d.r, .int .i64 d.q] 23)) := h5.alloc h5.size _
                  obtain ⟨_, e0, e1, _, _⟩ := StandsD.new w5 23 d
                  replace e0 := cellB e0
                  replace e1 := cellB e1
                  have e2 := cellB ((hba.cell hg2).trans y0)
                  have e3 := cellB ((hba.cell hg2).trans y1)
                  refine bstart (by kernel_rfl) ?_
                  refine btake 0 (oi := _) (v := ?_) (by simp only [List.getElem?_toArray, List.getElem?_cons_zero]; rfl) (by kernel_rfl) (by exact fun _ _ _ h => h) (by first | assumption | exact KB.refl _) (.inl ⟨by rfl, fun W hW => ?_⟩) ?_; rotate_left
                  · (go_simp; first | done | with_reducible rfl)
                  try simp only [Act.put, List.setIfInBounds_toArray, List.set_cons_zero, List.set_cons_succ]
                  refine btake 1 (oi := _) (v := ?_) (by simp only [List.getElem?_toArray, List.getElem?_cons_succ, List.getElem?_cons_zero]; rfl) (by kernel_rfl) (by exact fun _ _ _ h => h) (by first | assumption | exact KB.refl _) (.inl ⟨by rfl, fun W hW => ?_⟩) ?_; rotate_left
                  · (go_simp; first | done | with_reducible rfl)
                  try simp only [Act.put, List.setIfInBounds_toArray, List.set_cons_zero, List.set_cons_succ]
                  refine btake 2 (oi := _) (v := ?_) (by simp only [List.getElem?_toArray, List.getElem?_cons_succ, List.getElem?_cons_zero]; rfl) (by kernel_rfl) (by exact fun _ _ _ h => h) (by first | assumption | exact KB.refl _) (.inl ⟨by rfl, fun W hW => ?_⟩) ?_; rotate_left
                  · (go_simp; first | done | with_reducible rfl)
                  try simp only [Act.put, List.setIfInBounds_toArray, List.set_cons_zero, List.set_cons_succ]
                  refine btake 3 (oi := _) (v := ?_) (by simp only [List.getElem?_toArray, List.getElem?_cons_succ, List.getElem?_cons_zero]; rfl) (by kernel_rfl) (by exact fun _ _ _ h => h) (by first | assumption | exact KB.refl _) (.inl ⟨by rfl, fun W hW => ?_⟩) ?_; rotate_left
                  · (go_simp; first | done | with_reducible rfl)
                  try simp only [Act.put, List.setIfInBounds_toArray, List.set_cons_zero, List.set_cons_succ]
                  refine btake 4 (oi := _) (v := ?_) (by simp only [List.getElem?_toArray, List.getElem?_cons_succ, List.getElem?_cons_zero]; rfl) (by kernel_rfl) (by exact fun _ _ _ h => h) (by first | assumption | exact KB.refl _) (.inl ⟨by rfl, fun W hW => ?_⟩) ?_; rotate_left
                  · (go_simp; first | done | with_reducible rfl)
                  try simp only [Act.put, List.setIfInBounds_toArray, List.set_cons_zero, List.set_cons_succ]
                  refine btake 5 (oi := _) (v := ?_) (by simp only [List.getElem?_toArray, List.getElem?_cons_succ, List.getElem?_cons_zero]; rfl) (by kernel_rfl) (by exact fun _ _ _ h => h) (by first | assumption | exact KB.refl _) (.inl ⟨by rfl, fun W hW => ?_⟩) ?_; rotate_left
                  · (go_simp; first | done | with_reducible rfl)
                  try simp only [Act.put, List.setIfInBounds_toArray, List.set_cons_zero, List.set_cons_succ]
                  refine btake 6 (oi := _) (v := ?_) (by simp only [List.getElem?_toArray, List.getElem?_cons_succ, List.getElem?_cons_zero]; rfl) (by kernel_rfl) (by exact fun _ _ _ h => h) (by first | assumption | exact KB.refl _) (.inl ⟨by rfl, fun W hW => ?_⟩) ?_; rotate_left
                  · (go_simp; first | done | with_reducible rfl)
                  try simp only [Act.put, List.setIfInBounds_toArray, List.set_cons_zero, List.set_cons_succ]
                  refine btake 7 (oi := _) (v := ?_) (by simp only [List.getElem?_toArray, List.getElem?_cons_succ, List.getElem?_cons_zero]; rfl) (by kernel_rfl) (by exact fun _ _ _ h => h) (by first | assumption | exact KB.refl _) (.inl ⟨by rfl, fun W hW => ?_⟩) ?_; rotate_left
                  · (go_simp; first | done | with_reducible rfl)
                  try simp only [Act.put, List.setIfInBounds_toArray, List.set_cons_zero, List.set_cons_succ]
                  refine btake 8 (oi := _) (v := ?_) (by simp only [List.getElem?_toArray, List.getElem?_cons_succ, List.getElem?_cons_zero]; rfl) (by kernel_rfl) (by exact fun _ _ _ h => h) (by first | assumption | exact KB.refl _) (.inl ⟨by rfl, fun W hW => ?_⟩) ?_; rotate_left
                  · (go_simp; first | done | with_reducible rfl)
                  try simp only [Act.put, List.setIfInBounds_toArray, List.set_cons_zero, List.set_cons_succ]
                  -- 9: newsreel/newsreelref1.DotLess
                  refine bop 9 (o := _) (by simp only [List.getElem?_toArray, List.getElem?_cons_succ, List.getElem?_cons_zero]; rfl) (by kernel_rfl) (by first | assumption | exact KB.refl _) (by rfl) (fun K hK => ?_)
                  go_simp
                  refine (HL.out _).mono ?_
                  rintro e wz ⟨rfl, h6⟩
                  have hkb := KB.of h6
                  refine hK.out _ _ hkb ?_; clear hK K
                  try simp only [Act.put, List.setIfInBounds_toArray, List.set_cons_zero, List.set_cons_succ]
                  refine btake 10 (oi := _) (v := ?_) (by simp only [List.getElem?_toArray, List.getElem?_cons_succ, List.getElem?_cons_zero]; rfl) (by kernel_rfl) (by exact fun _ _ _ h => h) (by first | assumption | exact KB.refl _) (.inl ⟨by rfl, fun W hW => ?_⟩) ?_; rotate_left
                  · (go_simp; first | done | with_reducible rfl)
                  try simp only [Act.put, List.setIfInBounds_toArray, List.set_cons_zero, List.set_cons_succ]
                  refine btake 11 (oi := _) (v := ?_) (by simp only [List.getElem?_toArray, List.getElem?_cons_succ, List.getElem?_cons_zero]; rfl) (by kernel_rfl) (by exact fun _ _ _ h => h) (by first | assumption | exact KB.refl _) (.inl ⟨by rfl, fun W hW => ?_⟩) ?_; rotate_left
                  · (go_simp; first | done | with_reducible rfl)
                  try simp only [Act.put, List.setIfInBounds_toArray, List.set_cons_zero, List.set_cons_succ]
                  refine bdone (by kernel_rfl) ?_
                  have hst2 := (StandsD.new w5 23 d).below ((Below.refl _ _).drew.trans h6)
                  have how2 := (hown.below hba).below ((Below.refl _ _).drew.trans h6)
                  have hbz := hbx.trans (((Below.refl _ _).drew.trans h6).mono hbx.size)
                  clear hst2 how2 e0 e1 e2 e3 hkb
                  go_wp2_with fail
                  exact bodyPost_ret (v := .tuple #[.slice none 0 0, .int .i64 0, .int .i64 21]) (by simp [results, Try.results25, go_sem]) rfl ⟨none, 0, by rw [HR.out]; rfl, by rw [HR.out]; exact .inl rfl, by rw [HR.out]; exact Nat.le_refl _, by simp [maxLen], hbz⟩
              | true =>
                have HG := Lib.hid ((goA_more hd i hql hy hs).symm.trans hgo)
                clear hgo hd hy hs
                rcases hAe with ⟨hc1, rfl⟩ | ⟨hc1, rfl⟩
                all_goals
                  try subst hc1
                  go_wp2_with fail
                  refine (HT2.out _ (by have := HN.out; omega) (by have := HN.out; omega)).mono ?_
                  rintro e' w5 ⟨rfl, h5⟩
                  have hbx := (hbel.trans (h5.mono hbel.size)).alloc (Nat.le_trans hbel.size h5.size) (.cells #[.int .i64 d.r, .int .i64 d.q] 23)
                  go_wp2_with fail
                  have hba : Below wr.heap.size wr (w5.alloc (.cells #[.int .i64 d.r, .int .i64 d.q] 23)) := h5.alloc h5.size _
                  obtain ⟨_, e0, e1, _, _⟩ := StandsD.new w5 23 d
                  replace e0 := cellB e0
                  replace e1 := cellB e1
                  have e2 := cellB ((hba.cell hg2).trans y0)
                  have e3 := cellB ((hba.cell hg2).trans y1)
                  refine bstart (by kernel_rfl) ?_
                  refine btake 0 (oi := _) (v := ?_) (by simp only [List.getElem?_toArray, List.getElem?_cons_zero]; rfl) (by kernel_rfl) (by exact fun _ _ _ h => h) (by first | assumption | exact KB.refl _) (.inl ⟨by rfl, fun W hW => ?_⟩) ?_; rotate_left
                  · (go_simp; first | done | with_reducible rfl)
                  try simp only [Act.put, List.setIfInBounds_toArray, List.set_cons_zero, List.set_cons_succ]
                  refine btake 1 (oi := _) (v := ?_) (by simp only [List.getElem?_toArray, List.getElem?_cons_succ, List.getElem?_cons_zero]; rfl) (by kernel_rfl) (by exact fun _ _ _ h => h) (by first | assumption | exact KB.refl _) (.inl ⟨by rfl, fun W hW => ?_⟩) ?_; rotate_left
                  · (go_simp; first | done | with_reducible rfl)
                  try simp only [Act.put, List.setIfInBounds_toArray, List.set_cons_zero, List.set_cons_succ]
                  refine btake 2 (oi := _) (v := ?_) (by simp only [List.getElem?_toArray, List.getElem?_cons_succ, List.getElem?_cons_zero]; rfl) (by kernel_rfl) (by exact fun _ _ _ h => h) (by first | assumption | exact KB.refl _) (.inl ⟨by rfl, fun W hW => ?_⟩) ?_; rotate_left
                  · (go_simp; first | done | with_reducible rfl)
                  try simp only [Act.put, List.setIfInBounds_toArray, List.set_cons_zero, List.set_cons_succ]
                  refine btake 3 (oi := _) (v := ?_) (by simp only [List.getElem?_toArray, List.getElem?_cons_succ, List.getElem?_cons_zero]; rfl) (by kernel_rfl) (by exact fun _ _ _ h => h) (by first | assumption | exact KB.refl _) (.inl ⟨by rfl, fun W hW => ?_⟩) ?_; rotate_left
                  · (go_simp; first | done | with_reducible rfl)
                  try simp only [Act.put, List.setIfInBounds_toArray, List.set_cons_zero, List.set_cons_succ]
                  refine btake 4 (oi := _) (v := ?_) (by simp only [List.getElem?_toArray, List.getElem?_cons_succ, List.getElem?_cons_zero]; rfl) (by kernel_rfl) (by exact fun _ _ _ h => h) (by first | assumption | exact KB.refl _) (.inl ⟨by rfl, fun W hW => ?_⟩) ?_; rotate_left
                  · (go_simp; first | done | with_reducible rfl)
                  try simp only [Act.put, List.setIfInBounds_toArray, List.set_cons_zero, List.set_cons_succ]
                  refine btake 5 (oi := _) (v := ?_) (by simp only [List.getElem?_toArray, List.getElem?_cons_succ, List.getElem?_cons_zero]; rfl) (by kernel_rfl) (by exact fun _ _ _ h => h) (by first | assumption | exact KB.refl _) (.inl ⟨by rfl, fun W hW => ?_⟩) ?_; rotate_left
                  · (go_simp; first | done | with_reducible rfl)
                  try simp only [Act.put, List.setIfInBounds_toArray, List.set_cons_zero, List.set_cons_succ]
                  refine btake 6 (oi := _) (v := ?_) (by simp only [List.getElem?_toArray, List.getElem?_cons_succ, List.getElem?_cons_zero]; rfl) (by kernel_rfl) (by exact fun _ _ _ h => h) (by first | assumption | exact KB.refl _) (.inl ⟨by rfl, fun W hW => ?_⟩) ?_; rotate_left
                  · (go_simp; first | done | with_reducible rfl)
                  try simp only [Act.put, List.setIfInBounds_toArray, List.set_cons_zero, List.set_cons_succ]
                  refine btake 7 (oi := _) (v := ?_) (by simp only [List.getElem?_toArray, List.getElem?_cons_succ, List.getElem?_cons_zero]; rfl) (by kernel_rfl) (by exact fun _ _ _ h => h) (by first | assumption | exact KB.refl _) (.inl ⟨by rfl, fun W hW => ?_⟩) ?_; rotate_left
                  · (go_simp; first | done | with_reducible rfl)
                  try simp only [Act.put, List.setIfInBounds_toArray, List.set_cons_zero, List.set_cons_succ]
                  refine btake 8 (oi := _) (v := ?_) (by simp only [List.getElem?_toArray, List.getElem?_cons_succ, List.getElem?_cons_zero]; rfl) (by kernel_rfl) (by exact fun _ _ _ h => h) (by first | assumption | exact KB.refl _) (.inl ⟨by rfl, fun W hW => ?_⟩) ?_; rotate_left
                  · (go_simp; first | done | with_reducible rfl)
                  try simp only [Act.put, List.setIfInBounds_toArray, List.set_cons_zero, List.set_cons_succ]
                  -- 9: newsreel/newsreelref1.DotLess
                  refine bop 9 (o := _) (by simp only [List.getElem?_toArray, List.getElem?_cons_succ, List.getElem?_cons_zero]; rfl) (by kernel_rfl) (by first | assumption | exact KB.refl _) (by rfl) (fun K hK => ?_)
                  go_simp
                  refine (HL.out _).mono ?_
                  rintro e wz ⟨rfl, h6⟩
                  have hkb := KB.of h6
                  refine hK.out _ _ hkb ?_; clear hK K
                  try simp only [Act.put, List.setIfInBounds_toArray, List.set_cons_zero, List.set_cons_succ]
                  refine btake 10 (oi := _) (v := ?_) (by simp only [List.getElem?_toArray, List.getElem?_cons_succ, List.getElem?_cons_zero]; rfl) (by kernel_rfl) (by exact fun _ _ _ h => h) (by first | assumption | exact KB.refl _) (.inl ⟨by rfl, fun W hW => ?_⟩) ?_; rotate_left
                  · (go_simp; first | done | with_reducible rfl)
                  try simp only [Act.put, List.setIfInBounds_toArray, List.set_cons_zero, List.set_cons_succ]
                  refine btake 11 (oi := _) (v := ?_) (by simp only [List.getElem?_toArray, List.getElem?_cons_succ, List.getElem?_cons_zero]; rfl) (by kernel_rfl) (by exact fun _ _ _ h => h) (by first | assumption | exact KB.refl _) (.inl ⟨by rfl, fun W hW => ?_⟩) ?_; rotate_left
                  · (go_simp; first | done | with_reducible rfl)
                  try simp only [Act.put, List.setIfInBounds_toArray, List.set_cons_zero, List.set_cons_succ]
                  refine bdone (by kernel_rfl) ?_
                  have hst2 := (StandsD.new w5 23 d).below ((Below.refl _ _).drew.trans h6)
                  have how2 := (hown.below hba).below ((Below.refl _ _).drew.trans h6)
                  have hbz := hbx.trans (((Below.refl _ _).drew.trans h6).mono hbx.size)
                  clear e0 e1 e2 e3 hkb hown hbx h5 h6 hba
                  have m0 := hst2.2.1
                  have m1 := hst2.2.2.1
                  have how3 := how2.below (balloc (Below.refl _ _) (.cells #[.int .i64 d.r, .int .i64 d.q] 23))
                  have hbz3 := hbz.alloc hbz.size (.cells #[.int .i64 d.r, .int .i64 d.q] 23)
                  have hSl : Sl (wz.alloc (.cells #[.int .i64 d.r, .int .i64 d.q] 23)) (wz.heap.size + 1) (some ⟨wz.heap.size, 0, none⟩) (dv [d]) := Sl.new wz 23 #[.int .i64 d.r, .int .i64 d.q] (0, 0)
                  clear hst2 how2
                  go_wp2_with (at_builtin; refine appD rfl rfl how3 hSl rfl rfl rfl (by rw [hql, List.length_singleton]; omega) hbz3.size ?_; intro v7 w7 h7 hg7 hat7)
                  go_roundw
                  case rel => exact ⟨i + 2, p + j, q ++ [d], by omega, by go_num, by go_num, by omega, by rw [List.length_append, hql]; rfl, h7, HG.out, own_belowD hbz3 hbz3.size how3 hg7⟩
                  case measure => simp [intOf]; omega
          · have HR := Lib.hid (show takeDs l = ([], 0, e2) by rw [hR, ← hgo]; exact goA_e hd he2)
            have he1 : ((e2 : Int) != 0) = true := by rw [bne_iff_ne]; omega
            clear hgo he2 hd hown
            rcases hAe with ⟨hc1, rfl⟩ | ⟨hc1, rfl⟩
            all_goals
              try subst hc1
              go_wp2_with fail
              refine (HT2.out _ (by have := HN.out; omega) (by have := HN.out; omega)).mono ?_
              rintro e' w5 ⟨rfl, h5⟩
              have hbx := (hbel.trans (h5.mono hbel.size)).alloc (Nat.le_trans hbel.size h5.size) (.cells #[.int .i64 d.r, .int .i64 d.q] 23)
              go_wp2_with fail
              exact bodyPost_ret (v := .tuple #[.slice none 0 0, .int .i64 0, .int .i64 (e2 : Int)]) (by simp [results, Try.results25, go_sem]) rfl ⟨none, 0, by rw [HR.out]; rfl, by rw [HR.out]; exact .inl rfl, by rw [HR.out]; exact Nat.le_refl _, by simp [maxLen], hbx⟩
        · obtain rfl : i = v := by omega
          have hd1 : decide ((i : Int) < (i : Int)) = false := by rw [decide_eq_false_iff_not]; omega
          obtain ⟨Av, cv, e9, hlv, hmv, hsv, _⟩ := hown.form
          rw [hql] at e9
          subst e9
          have HR := Lib.hid (show takeDs l = (q, p, 0) by rw [hR, ← hgo, Nat.sub_self]; rfl)
          have HS := Lib.hid (And.intro hsv (And.intro hlv (And.intro hmv hbel)))
          clear hown hgo hR
          go_wp2_with fail
          exact bodyPost_ret (v := .tuple #[.slice Av i cv, .int .i64 (p : Int), .int .i64 0]) (by simp [results, Try.results25, go_sem]) rfl ⟨Av, cv, by rw [HR.out]; show _ = Ending.returned (.tuple #[.slice Av q.length cv, _, _]); rw [hql]; rfl, by rw [HR.out]; exact HS.out.1, by rw [HR.out]; exact HS.out.2.1, HS.out.2.2.1, HS.out.2.2.2⟩
  · have HR := Lib.hid (takeDs_e ht he)
    have he1 : ((e : Int) != 0) = true := by rw [bne_iff_ne]; omega
    clear ht hb he h0
    go_enter Try.func25, Try.ntmps25
    go_wp2_with fail
    refine HT.out.mono ?_
    rintro e' w1 ⟨rfl, rfl⟩
    go_wp2_with fail
    exact bodyPost_ret (v := .tuple #[.slice none 0 0, .int .i64 0, .int .i64 (e : Int)]) (by simp [results, Try.results25, go_sem]) rfl ⟨none, 0, by rw [HR.out]; rfl, by rw [HR.out]; exact .inl rfl, by rw [HR.out]; exact Nat.le_refl _, by simp [maxLen], Below.refl _ _⟩
end Go.Proofs.Ytpeecgphmcihaaa

