/- 'StampMax': the walk of the law. -/
import Derived.Test.YthpooogjlmaemaaStampK
import Derived.Test.YthpooogjlmaemaaStampF
namespace Go.Proofs.Ythpooogjlmaemaa
open Go.RowKit Go.Proofs.Ythpooogjlmaemaa.Pl

theorem lt_irr (s : S3) : s.lt s = false := by unfold S3.lt; simp
theorem lt_keep {m s x : S3} (h : m.lt s = true) (hx : m.lt x = false) : s.lt x = false := by
  unfold S3.lt at *
  rw [decide_eq_true_eq] at h
  rw [decide_eq_false_iff_not] at hx ⊢
  omega
theorem mx_all (ls : List S3) : ∀ k, k ≤ ls.length → (∀ i, i < k → (mxS (ls.take k)).lt (ls[i]?.getD ⟨0, 0, 0⟩) = false) ∧ (0 < k → ∃ i, i < k ∧ ls[i]?.getD ⟨0, 0, 0⟩ = mxS (ls.take k))
  | 0, _ => ⟨fun i h => by omega, fun h => by omega⟩
  | k + 1, hk => by
    obtain ⟨h1, h2⟩ := mx_all ls k (by omega)
    rw [mx_succ ls k (by omega)]
    by_cases h0 : k = 0
    · rw [if_pos h0]
      refine ⟨fun i hi => ?_, fun _ => ⟨k, by omega, rfl⟩⟩
      obtain rfl : i = k := by omega
      exact lt_irr _
    · rw [if_neg h0]
      by_cases hl : (mxS (ls.take k)).lt (ls[k]?.getD ⟨0, 0, 0⟩) = true
      · rw [if_pos hl]
        refine ⟨fun i hi => ?_, fun _ => ⟨k, by omega, rfl⟩⟩
        by_cases e : i = k
        · subst e; exact lt_irr _
        · exact lt_keep hl (h1 i (by omega))
      · rw [if_neg hl]
        obtain ⟨i, hi, he⟩ := h2 (by omega)
        refine ⟨fun j hj => ?_, fun _ => ⟨i, by omega, he⟩⟩
        by_cases e : j = k
        · subst e; simpa using hl
        · exact h1 j (by omega)
def thereB (ls : List S3) (k : Nat) : Bool := (ls.length == 0) || (ls.take k).any (fun s => decide (s = mxS ls))
theorem there_succ (ls : List S3) (k : Nat) (hk : k < ls.length) : thereB ls (k + 1) = (thereB ls k || decide (ls[k]?.getD ⟨0, 0, 0⟩ = mxS ls)) := by
  unfold thereB
  rw [List.take_succ_eq_append_getElem hk, List.any_append, List.getElem?_eq_getElem hk]
  simp [Bool.or_assoc]
theorem there_all (ls : List S3) : thereB ls ls.length = true := by
  unfold thereB
  by_cases h : ls.length = 0
  · simp [h]
  · obtain ⟨i, hi, he⟩ := (mx_all ls ls.length (Nat.le_refl _)).2 (by omega)
    rw [List.take_of_length_le (Nat.le_refl _)] at *
    rw [Bool.or_eq_true]
    right
    rw [List.any_eq_true]
    refine ⟨ls[i], List.getElem_mem hi, ?_⟩
    rw [List.getElem?_eq_getElem hi] at he
    simpa using he
def SMaxRel (w : World) (g : Nat) (ls : List S3) (x4 x5 : Value) (wr : World) : Prop := ∃ k : Nat, k ≤ ls.length ∧ x5 = .int .i64 (k : Int) ∧ x4 = .bool (thereB ls k) ∧ Below w.heap.size w wr ∧ Stands wr g (mxS ls)
set_option maxRecDepth 100000 in
set_option maxHeartbeats 3200000 in
theorem StampMax_walk (w : World) (A : Option Addr) (c : Nat) (ls : List S3) (hb : Sl w w.heap.size A (sv ls)) (hc : ls.length ≤ c) (hm : c ≤ maxLen) :
    Calls Try.prog 6 #[.slice A ls.length c] w fun e w' => e = .returned (.bool true) ∧ Below w.heap.size w w' := by
  by_cases h300 : 300 < ls.length
  · go_enter Try.func6, Try.ntmps6
    go_wp2_with fail
    refine (stampKnown_any w).mono ?_
    rintro e w1 ⟨rfl, hb1⟩
    go_wp2_with fail
    go_ret
    exact ⟨rfl, hb1⟩
  have h300' : ls.length ≤ 300 := by omega
  have hall := there_all ls
  have hlt0 := fun i (hi : i < ls.length) => (mx_all ls ls.length (Nat.le_refl _)).1 i hi
  rw [List.take_of_length_le (Nat.le_refl _)] at hlt0
  have hmx := fun W h => Max_any W A ls.length c ls h rfl (by omega)
  have hrm := fun W h => RefMax_any W A ls.length c ls h rfl (by omega)
  have hsu := there_succ ls
  have h00 : ls.length = 0 → mxS ls = ⟨0, 0, 0⟩ := fun h => by rw [List.eq_nil_of_length_eq_zero h]; rfl
  have hth0 : thereB ls 0 = (ls.length == 0) := by simp [thereB]
  obtain ⟨m, hmm⟩ : ∃ m, mxS ls = m := ⟨_, rfl⟩
  obtain ⟨T, hT⟩ : ∃ T, thereB ls = T := ⟨_, rfl⟩
  rw [hT] at hall hsu hth0
  have hrel' : ∀ g x4 x5 wr, SMaxRel w g ls x4 x5 wr ↔ ∃ k : Nat, k ≤ ls.length ∧ x5 = .int .i64 (k : Int) ∧ x4 = .bool (T k) ∧ Below w.heap.size w wr ∧ Stands wr g m := by
    intro g x4 x5 wr; unfold SMaxRel; rw [hT, hmm]
  rw [hmm] at hlt0 hmx hrm hsu h00
  have H := Lib.hid (And.intro hall (And.intro hlt0 (And.intro hmx (And.intro hrm (And.intro hsu (And.intro h00 (And.intro hth0 hrel')))))))
  clear hall hlt0 hmx hrm hsu h00 hmm hT hth0 hrel'
  go_enter Try.func6, Try.ntmps6
  go_wp2_with fail
  refine (stampKnown_any w).mono ?_
  rintro e w1 ⟨rfl, hb1⟩
  have hbl := (hb.below hb1).more hb1.size
  go_wp2_with fail
  refine (H.out.2.2.1 w1 hbl).mono ?_
  rintro e w2 ⟨rfl, hb2⟩
  have hb2' := bstep hb1 hb2
  unfold S3.v
  go_wp2_with fail
  have hst := Stands.new w2 23 m
  have hb3 := balloc hb2' (.cells #[.int .i64 m.p, .int .i64 m.l, .int .i64 m.r] 23)
  generalize w2.alloc (.cells #[.int .i64 m.p, .int .i64 m.l, .int .i64 m.r] 23) = w3 at *
  generalize w2.heap.size = g at *
  have e0 := cellB hst.2.1
  have e1 := cellB hst.2.2.1
  have e2 := cellB hst.2.2.2.1
  refine bstart (by kernel_rfl) ?_
  refine btake 0 (oi := _) (v := ?_) (by simp only [List.getElem?_toArray, List.getElem?_cons_succ, List.getElem?_cons_zero]; rfl) (by kernel_rfl) (by exact fun _ _ _ h => h) (by first | assumption | exact KB.refl _) (.inl ⟨by rfl, fun W hW => ?_⟩) ?_; rotate_left
  · (go_simp; first | done | with_reducible rfl)
  try simp only [Act.put, List.setIfInBounds_toArray, List.set_cons_zero, List.set_cons_succ]
  refine btake 1 (oi := _) (v := ?_) (by simp only [List.getElem?_toArray, List.getElem?_cons_succ, List.getElem?_cons_zero]; rfl) (by kernel_rfl) (by exact fun _ _ _ h => h) (by first | assumption | exact KB.refl _) (.inl ⟨by rfl, fun W hW => ?_⟩) ?_; rotate_left
  · (go_simp; first | done | with_reducible rfl)
  try simp only [Act.put, List.setIfInBounds_toArray, List.set_cons_zero, List.set_cons_succ]
  -- 2: newsreel/newsreelref1.StampMax
  refine bop 2 (o := _) (by simp only [List.getElem?_toArray, List.getElem?_cons_succ, List.getElem?_cons_zero]; rfl) (by kernel_rfl) (by first | assumption | exact KB.refl _) (by rfl) (fun K hK => ?_)
  go_simp
  refine (H.out.2.2.2.1 _ (by exact (hb.below hb3).more hb3.size)).mono ?_
  rintro e w4 ⟨rfl, hb4⟩
  have hst := Stands.below (w := w3.drew) hst hb4
  have hb4' := bstep hb3.drew hb4
  have e0 := cellB hst.2.1
  have e1 := cellB hst.2.2.1
  have e2 := cellB hst.2.2.2.1
  have hkb := KB.of hb4
  unfold S3.v
  refine hK.out _ _ hkb ?_; clear hK K
  try simp only [Act.put, List.setIfInBounds_toArray, List.set_cons_zero, List.set_cons_succ]
  refine btake 3 (oi := _) (v := ?_) (by simp only [List.getElem?_toArray, List.getElem?_cons_succ, List.getElem?_cons_zero]; rfl) (by kernel_rfl) (by exact fun _ _ _ h => h) (by first | assumption | exact KB.refl _) (.inl ⟨by rfl, fun W hW => ?_⟩) ?_; rotate_left
  · (go_simp; first | done | with_reducible rfl)
  try simp only [Act.put, List.setIfInBounds_toArray, List.set_cons_zero, List.set_cons_succ]
  refine bdone (by kernel_rfl) ?_
  clear e0 e1 e2 hkb hb2 hb3
  have hblA := (hb.below hb4').more hb4'.size
  by_cases hz : ls.length = 0
  · have hm0 := H.out.2.2.2.2.2.1 hz
    subst hm0
    obtain rfl := List.eq_nil_of_length_eq_zero hz
    clear hz
    obtain ⟨_, f0, f1, f2, _, _, _⟩ := hst
    go_wp2_with fail
    go_loopw [4, 5] (fun x4 x5 wr => x4 = .bool true ∧ x5 = .int .i64 0 ∧ wr = w4) (fun _ _ _ => 0)
    case atStart => exact ⟨rfl, rfl, rfl⟩
    case round =>
      obtain ⟨rfl, rfl, rfl⟩ := hrel
      go_wp2_with fail
      go_ret
      exact ⟨rfl, hb4'⟩
  · have hT0 : T 0 = false := by rw [H.out.2.2.2.2.2.2.1]; simp [hz]
    have hzi : ((ls.length : Int) == 0) = false := by simp [hz]
    have HST := Lib.hid hst
    obtain ⟨_, f0, f1, f2, _, _, _⟩ := hst
    go_wp2_with fail
    clear f0 f1 f2
    go_loopw [4, 5] (fun x4 x5 wr => ∃ k : Nat, k ≤ ls.length ∧ x5 = .int .i64 (k : Int) ∧ x4 = .bool (T k) ∧ Below w4.heap.size w4 wr ∧ Stands wr g m) (fun _ x5 _ => ls.length - (intOf x5).toNat)
    case atStart => exact ⟨0, Nat.zero_le _, rfl, by rw [hT0], Below.refl _ _, HST.out⟩
    case round =>
      obtain ⟨k, hk, rfl, rfl, hbel, hst⟩ := hrel
      by_cases hlt : k < ls.length
      · obtain ⟨b, o, rfl, hbB, hbW, hc0, hc1, hc2⟩ := stampAt (hblA.below hbel) hlt
        have hmlt := H.out.2.1 k hlt
        have hsu := H.out.2.2.2.2.1 k hlt
        generalize ls[k]?.getD ⟨0, 0, 0⟩ = s at *
        have HS := Lib.hid hsu
        clear hsu
        have e0 := cellB hst.2.1
        have e1 := cellB hst.2.2.1
        have e2 := cellB hst.2.2.2.1
        have e3 := cellB hc0
        have e4 := cellB hc1
        have e5 := cellB hc2
        go_wp2_with fail
        refine bstart (by kernel_rfl) ?_
        refine btake 0 (oi := _) (v := ?_) (by simp only [List.getElem?_toArray, List.getElem?_cons_succ, List.getElem?_cons_zero]; rfl) (by kernel_rfl) (by exact fun _ _ _ h => h) (by first | assumption | exact KB.refl _) (.inl ⟨by rfl, fun W hW => ?_⟩) ?_; rotate_left
        · (go_simp; first | done | with_reducible rfl)
        try simp only [Act.put, List.setIfInBounds_toArray, List.set_cons_zero, List.set_cons_succ]
        refine btake 1 (oi := _) (v := ?_) (by simp only [List.getElem?_toArray, List.getElem?_cons_succ, List.getElem?_cons_zero]; rfl) (by kernel_rfl) (by exact fun _ _ _ h => h) (by first | assumption | exact KB.refl _) (.inl ⟨by rfl, fun W hW => ?_⟩) ?_; rotate_left
        · (go_simp; first | done | with_reducible rfl)
        try simp only [Act.put, List.setIfInBounds_toArray, List.set_cons_zero, List.set_cons_succ]
        refine btake 2 (oi := _) (v := ?_) (by simp only [List.getElem?_toArray, List.getElem?_cons_succ, List.getElem?_cons_zero]; rfl) (by kernel_rfl) (by exact fun _ _ _ h => h) (by first | assumption | exact KB.refl _) (.inl ⟨by rfl, fun W hW => ?_⟩) ?_; rotate_left
        · (go_simp; first | done | with_reducible rfl)
        try simp only [Act.put, List.setIfInBounds_toArray, List.set_cons_zero, List.set_cons_succ]
        refine btake 3 (oi := _) (v := ?_) (by simp only [List.getElem?_toArray, List.getElem?_cons_succ, List.getElem?_cons_zero]; rfl) (by kernel_rfl) (by exact fun _ _ _ h => h) (by first | assumption | exact KB.refl _) (.inl ⟨by rfl, fun W hW => ?_⟩) ?_; rotate_left
        · (go_simp; first | done | with_reducible rfl)
        try simp only [Act.put, List.setIfInBounds_toArray, List.set_cons_zero, List.set_cons_succ]
        refine btake 4 (oi := _) (v := ?_) (by simp only [List.getElem?_toArray, List.getElem?_cons_succ, List.getElem?_cons_zero]; rfl) (by kernel_rfl) (by exact fun _ _ _ h => h) (by first | assumption | exact KB.refl _) (.inl ⟨by rfl, fun W hW => ?_⟩) ?_; rotate_left
        · (go_simp; first | done | with_reducible rfl)
        try simp only [Act.put, List.setIfInBounds_toArray, List.set_cons_zero, List.set_cons_succ]
        -- 5: newsreel/stamp.Less
        refine bop 5 (o := _) (by simp only [List.getElem?_toArray, List.getElem?_cons_succ, List.getElem?_cons_zero]; rfl) (by kernel_rfl) (by first | assumption | exact KB.refl _) (by rfl) (fun K hK => ?_)
        go_simp
        refine (Less_any _ m s).mono ?_
        rw [hmlt]
        rintro e w5 ⟨rfl, hb5⟩
        have hst := Stands.below (w := wr.drew) hst hb5
        have hb5' := hbel.drew.trans (hb5.mono hbel.size)
        have hkb := KB.of hb5
        refine hK.out _ _ hkb ?_; clear hK K
        try simp only [Act.put, List.setIfInBounds_toArray, List.set_cons_zero, List.set_cons_succ]
        refine bdone (by kernel_rfl) ?_
        have hbw : Below wr.heap.size wr w5 := (Below.refl wr.heap.size wr).drew.trans hb5
        have c0 := (hbw.cell (p := ⟨b, o + k * 3, none⟩) hbW).trans hc0
        have c1 := (hbw.cell (p := ⟨b, o + k * 3 + 1, none⟩) hbW).trans hc1
        have c2 := (hbw.cell (p := ⟨b, o + k * 3 + 2, none⟩) hbW).trans hc2
        clear e0 e1 e2 e3 e4 e5 hc0 hc1 hc2 hkb
        have e0 := cellB hst.2.1
        have e1 := cellB hst.2.2.1
        have e2 := cellB hst.2.2.2.1
        have e3 := cellB c0
        have e4 := cellB c1
        have e5 := cellB c2
        by_cases hT : T k = true
        · go_wp2_with fail
          refine bstart (by kernel_rfl) ?_
          refine btake 0 (oi := _) (v := ?_) (by simp only [List.getElem?_toArray, List.getElem?_cons_succ, List.getElem?_cons_zero]; rfl) (by kernel_rfl) (by exact fun _ _ _ h => h) (by first | assumption | exact KB.refl _) (.inl ⟨by rfl, fun W hW => ?_⟩) ?_; rotate_left
          · (go_simp; first | done | with_reducible rfl)
          try simp only [Act.put, List.setIfInBounds_toArray, List.set_cons_zero, List.set_cons_succ]
          refine btake 1 (oi := _) (v := ?_) (by simp only [List.getElem?_toArray, List.getElem?_cons_succ, List.getElem?_cons_zero]; rfl) (by kernel_rfl) (by exact fun _ _ _ h => h) (by first | assumption | exact KB.refl _) (.inl ⟨by rfl, fun W hW => ?_⟩) ?_; rotate_left
          · (go_simp; first | done | with_reducible rfl)
          try simp only [Act.put, List.setIfInBounds_toArray, List.set_cons_zero, List.set_cons_succ]
          refine btake 2 (oi := _) (v := undef) (by simp only [List.getElem?_toArray, List.getElem?_cons_succ, List.getElem?_cons_zero]; rfl) (by kernel_rfl) (by exact fun _ _ _ h => h) (by first | assumption | exact KB.refl _) (.inr ⟨by rfl, rfl⟩) ?_
          try simp only [Act.put, List.setIfInBounds_toArray, List.set_cons_zero, List.set_cons_succ]
          refine btake 3 (oi := _) (v := undef) (by simp only [List.getElem?_toArray, List.getElem?_cons_succ, List.getElem?_cons_zero]; rfl) (by kernel_rfl) (by exact fun _ _ _ h => h) (by first | assumption | exact KB.refl _) (.inr ⟨by rfl, rfl⟩) ?_
          try simp only [Act.put, List.setIfInBounds_toArray, List.set_cons_zero, List.set_cons_succ]
          refine btake 4 (oi := _) (v := undef) (by simp only [List.getElem?_toArray, List.getElem?_cons_succ, List.getElem?_cons_zero]; rfl) (by kernel_rfl) (by exact fun _ _ _ h => h) (by first | assumption | exact KB.refl _) (.inr ⟨by rfl, rfl⟩) ?_
          try simp only [Act.put, List.setIfInBounds_toArray, List.set_cons_zero, List.set_cons_succ]
          refine btake 5 (oi := _) (v := undef) (by simp only [List.getElem?_toArray, List.getElem?_cons_succ, List.getElem?_cons_zero]; rfl) (by kernel_rfl) (by exact fun _ _ _ h => h) (by first | assumption | exact KB.refl _) (.inr ⟨by rfl, rfl⟩) ?_
          try simp only [Act.put, List.setIfInBounds_toArray, List.set_cons_zero, List.set_cons_succ]
          refine btake 6 (oi := _) (v := undef) (by simp only [List.getElem?_toArray, List.getElem?_cons_succ, List.getElem?_cons_zero]; rfl) (by kernel_rfl) (by exact fun _ _ _ h => h) (by first | assumption | exact KB.refl _) (.inr ⟨by rfl, rfl⟩) ?_
          try simp only [Act.put, List.setIfInBounds_toArray, List.set_cons_zero, List.set_cons_succ]
          refine btake 7 (oi := _) (v := undef) (by simp only [List.getElem?_toArray, List.getElem?_cons_succ, List.getElem?_cons_zero]; rfl) (by kernel_rfl) (by exact fun _ _ _ h => h) (by first | assumption | exact KB.refl _) (.inr ⟨by rfl, rfl⟩) ?_
          try simp only [Act.put, List.setIfInBounds_toArray, List.set_cons_zero, List.set_cons_succ]
          refine btake 8 (oi := _) (v := ?_) (by simp only [List.getElem?_toArray, List.getElem?_cons_succ, List.getElem?_cons_zero]; rfl) (by kernel_rfl) (by exact fun _ _ _ h => h) (by first | assumption | exact KB.refl _) (.inl ⟨by rfl, fun W hW => ?_⟩) ?_; rotate_left
          · (go_simp; first | done | with_reducible rfl)
          try simp only [Act.put, List.setIfInBounds_toArray, List.set_cons_zero, List.set_cons_succ]
          refine btake 9 (oi := _) (v := ?_) (by simp only [List.getElem?_toArray, List.getElem?_cons_succ, List.getElem?_cons_zero]; rfl) (by kernel_rfl) (by exact fun _ _ _ h => h) (by first | assumption | exact KB.refl _) (.inl ⟨by rfl, fun W hW => ?_⟩) ?_; rotate_left
          · (go_simp; first | done | with_reducible rfl)
          try simp only [Act.put, List.setIfInBounds_toArray, List.set_cons_zero, List.set_cons_succ]
          refine bdone (by kernel_rfl) ?_
          go_wp2_with fail
          go_roundw
          case rel => exact ⟨k + 1, hlt, by go_num, by rw [HS.out, hT]; rfl, hb5'.drew, hst⟩
          case measure => simp [intOf]; omega
        · have hT : T k = false := by simpa using hT
          have heq := fun W => eq3 W s m
          unfold S3.v at heq
          go_wp2_with fail
          refine bstart (by kernel_rfl) ?_
          refine btake 0 (oi := _) (v := ?_) (by simp only [List.getElem?_toArray, List.getElem?_cons_succ, List.getElem?_cons_zero]; rfl) (by kernel_rfl) (by exact fun _ _ _ h => h) (by first | assumption | exact KB.refl _) (.inl ⟨by rfl, fun W hW => ?_⟩) ?_; rotate_left
          · (go_simp; first | done | with_reducible rfl)
          try simp only [Act.put, List.setIfInBounds_toArray, List.set_cons_zero, List.set_cons_succ]
          refine btake 1 (oi := _) (v := ?_) (by simp only [List.getElem?_toArray, List.getElem?_cons_succ, List.getElem?_cons_zero]; rfl) (by kernel_rfl) (by exact fun _ _ _ h => h) (by first | assumption | exact KB.refl _) (.inl ⟨by rfl, fun W hW => ?_⟩) ?_; rotate_left
          · (go_simp; first | done | with_reducible rfl)
          try simp only [Act.put, List.setIfInBounds_toArray, List.set_cons_zero, List.set_cons_succ]
          refine btake 2 (oi := _) (v := ?_) (by simp only [List.getElem?_toArray, List.getElem?_cons_succ, List.getElem?_cons_zero]; rfl) (by kernel_rfl) (by exact fun _ _ _ h => h) (by first | assumption | exact KB.refl _) (.inl ⟨by rfl, fun W hW => ?_⟩) ?_; rotate_left
          · (go_simp; first | done | with_reducible rfl)
          try simp only [Act.put, List.setIfInBounds_toArray, List.set_cons_zero, List.set_cons_succ]
          refine btake 3 (oi := _) (v := ?_) (by simp only [List.getElem?_toArray, List.getElem?_cons_succ, List.getElem?_cons_zero]; rfl) (by kernel_rfl) (by exact fun _ _ _ h => h) (by first | assumption | exact KB.refl _) (.inl ⟨by rfl, fun W hW => ?_⟩) ?_; rotate_left
          · (go_simp; first | done | with_reducible rfl)
          try simp only [Act.put, List.setIfInBounds_toArray, List.set_cons_zero, List.set_cons_succ]
          refine btake 4 (oi := _) (v := ?_) (by simp only [List.getElem?_toArray, List.getElem?_cons_succ, List.getElem?_cons_zero]; rfl) (by kernel_rfl) (by exact fun _ _ _ h => h) (by first | assumption | exact KB.refl _) (.inl ⟨by rfl, fun W hW => ?_⟩) ?_; rotate_left
          · (go_simp; first | done | with_reducible rfl)
          try simp only [Act.put, List.setIfInBounds_toArray, List.set_cons_zero, List.set_cons_succ]
          refine btake 5 (oi := _) (v := ?_) (by simp only [List.getElem?_toArray, List.getElem?_cons_succ, List.getElem?_cons_zero]; rfl) (by kernel_rfl) (by exact fun _ _ _ h => h) (by first | assumption | exact KB.refl _) (.inl ⟨by rfl, fun W hW => ?_⟩) ?_; rotate_left
          · (go_simp; first | done | with_reducible rfl)
          try simp only [Act.put, List.setIfInBounds_toArray, List.set_cons_zero, List.set_cons_succ]
          refine btake 6 (oi := _) (v := ?_) (by simp only [List.getElem?_toArray, List.getElem?_cons_succ, List.getElem?_cons_zero]; rfl) (by kernel_rfl) (by exact fun _ _ _ h => h) (by first | assumption | exact KB.refl _) (.inl ⟨by rfl, fun W hW => ?_⟩) ?_; rotate_left
          · (go_simp; first | done | with_reducible rfl)
          try simp only [Act.put, List.setIfInBounds_toArray, List.set_cons_zero, List.set_cons_succ]
          refine btake 7 (oi := _) (v := ?_) (by simp only [List.getElem?_toArray, List.getElem?_cons_succ, List.getElem?_cons_zero]; rfl) (by kernel_rfl) (by exact fun _ _ _ h => h) (by first | assumption | exact KB.refl _) (.inl ⟨by rfl, fun W hW => ?_⟩) ?_; rotate_left
          · (go_simp; first | done | with_reducible rfl)
          try simp only [Act.put, List.setIfInBounds_toArray, List.set_cons_zero, List.set_cons_succ]
          refine btake 8 (oi := _) (v := ?_) (by simp only [List.getElem?_toArray, List.getElem?_cons_succ, List.getElem?_cons_zero]; rfl) (by kernel_rfl) (by exact fun _ _ _ h => h) (by first | assumption | exact KB.refl _) (.inl ⟨by rfl, fun W hW => ?_⟩) ?_; rotate_left
          · (go_simp; first | done | with_reducible rfl)
          try simp only [Act.put, List.setIfInBounds_toArray, List.set_cons_zero, List.set_cons_succ]
          refine btake 9 (oi := _) (v := ?_) (by simp only [List.getElem?_toArray, List.getElem?_cons_succ, List.getElem?_cons_zero]; rfl) (by kernel_rfl) (by exact fun _ _ _ h => h) (by first | assumption | exact KB.refl _) (.inl ⟨by rfl, fun W hW => ?_⟩) ?_; rotate_left
          · (go_simp; first | done | with_reducible rfl)
          try simp only [Act.put, List.setIfInBounds_toArray, List.set_cons_zero, List.set_cons_succ]
          refine bdone (by kernel_rfl) ?_
          go_wp2_with fail
          go_roundw
          case rel => exact ⟨k + 1, hlt, by go_num, by rw [HS.out, hT]; rfl, hb5'.drew, hst⟩
          case measure => simp [intOf]; omega
      · obtain rfl : k = ls.length := by omega
        have hTn : T ls.length = true := H.out.1
        go_wp2_with fail
        go_ret
        exact ⟨ret_b hTn, bstep hb4' hbel⟩
end Go.Proofs.Ythpooogjlmaemaa

