/- Flags: the document's SameFlags, Get, Join. -/
import Derived.Test.YtjijhmeagjhfoaaFlN
namespace Go.Proofs.Ytjijhmeagjhfoaa
open Go.RowKit
set_option maxRecDepth 20000

set_option maxRecDepth 100000 in
set_option maxHeartbeats 1600000 in
theorem SameF_any (w : World) (d1 d2 : Nat) (F1 F2 : Nat → Prop) (R1 R2 : List FE) (h1 : DS w d1 F1 R1) (h2 : DS w d2 F2 R2) (hn : R1.length < 1000000) :
    Calls Try.prog 20 #[.pointer (some ⟨d1, 0, none⟩), .pointer (some ⟨d2, 0, none⟩)] w fun e w' => e = .returned (.bool (decide (R1 = R2))) ∧ Below w.heap.size w w' := by
  obtain ⟨A1, c1, a1, s1, hc1, _, _⟩ := h1.sl
  obtain ⟨A2, c2, a2, s2, hc2, _, _⟩ := h2.sl
  obtain ⟨res, hres⟩ : ∃ res, decide (R1 = R2) = res := ⟨_, rfl⟩
  rw [hres]
  have HRes := Lib.hid hres
  obtain ⟨n1, hn1⟩ : ∃ n, R1.length = n := ⟨_, rfl⟩
  obtain ⟨n2, hn2⟩ : ∃ n, R2.length = n := ⟨_, rfl⟩
  rw [hn1] at a1 hc1 hn
  rw [hn2] at a2 hc2
  have HN := Lib.hid (And.intro hn1 hn2)
  have HA := Lib.hid (And.intro a1 (And.intro a2 (And.intro s1 s2)))
  have e1 := a1.e 0 rfl
  have e2 := a2.e 0 rfl
  clear hres hn1 hn2 a1 a2 s1 s2 h1 h2
  by_cases hne : n1 = n2
  · subst hne
    go_enter Try.func20, Try.ntmps20
    go_wp2_with fail
    refine bstart (by kernel_rfl) ?_
    refine btake 0 (oi := _) (v := ?_) (by simp only [List.getElem?_toArray, List.getElem?_cons_zero]; rfl) (by kernel_rfl) (by exact fun _ _ _ h => h) (by first | assumption | exact KB.refl _) (.inl ⟨by rfl, fun W hW => ?_⟩) ?_; rotate_left
    · (go_simp; first | done | with_reducible rfl)
    try simp only [Act.put, List.setIfInBounds_toArray, List.set_cons_zero, List.set_cons_succ]
    refine btake 1 (oi := _) (v := ?_) (by simp only [List.getElem?_toArray, List.getElem?_cons_succ, List.getElem?_cons_zero]; rfl) (by kernel_rfl) (by exact fun _ _ _ h => h) (by first | assumption | exact KB.refl _) (.inl ⟨by rfl, fun W hW => ?_⟩) ?_; rotate_left
    · (go_simp; first | done | with_reducible rfl)
    try simp only [Act.put, List.setIfInBounds_toArray, List.set_cons_zero, List.set_cons_succ]
    refine btake 2 (oi := _) (v := ?_) (by simp only [List.getElem?_toArray, List.getElem?_cons_succ, List.getElem?_cons_zero]; rfl) (by kernel_rfl) (by exact fun _ _ _ h => h) (by first | assumption | exact KB.refl _) (.inl ⟨by rfl, fun W hW => ?_⟩) ?_; rotate_left
    · (go_simp; first | done | with_reducible rfl)
    try simp only [Act.put, List.setIfInBounds_toArray, List.set_cons_zero, List.set_cons_succ]
    refine btake 3 (oi := _) (v := ?_) (by simp only [List.getElem?_toArray, List.getElem?_cons_succ, List.getElem?_cons_zero]; rfl) (by kernel_rfl) (by exact fun _ _ _ h => h) (by first | assumption | exact KB.refl _) (.inl ⟨by rfl, fun W hW => ?_⟩) ?_; rotate_left
    · (go_simp; first | done | with_reducible rfl)
    try simp only [Act.put, List.setIfInBounds_toArray, List.set_cons_zero, List.set_cons_succ]
    refine btake 4 (oi := _) (v := ?_) (by simp only [List.getElem?_toArray, List.getElem?_cons_succ, List.getElem?_cons_zero]; rfl) (by kernel_rfl) (by exact fun _ _ _ h => h) (by first | assumption | exact KB.refl _) (.inl ⟨by rfl, fun W hW => ?_⟩) ?_; rotate_left
    · (go_simp; first | done | with_reducible rfl)
    try simp only [Act.put, List.setIfInBounds_toArray, List.set_cons_zero, List.set_cons_succ]
    refine btake 5 (oi := _) (v := ?_) (by simp only [List.getElem?_toArray, List.getElem?_cons_succ, List.getElem?_cons_zero]; rfl) (by kernel_rfl) (by exact fun _ _ _ h => h) (by first | assumption | exact KB.refl _) (.inl ⟨by rfl, fun W hW => ?_⟩) ?_; rotate_left
    · (go_simp; first | done | with_reducible rfl)
    try simp only [Act.put, List.setIfInBounds_toArray, List.set_cons_zero, List.set_cons_succ]
    refine btake 6 (oi := _) (v := ?_) (by simp only [List.getElem?_toArray, List.getElem?_cons_succ, List.getElem?_cons_zero]; rfl) (by kernel_rfl) (by exact fun _ _ _ h => h) (by first | assumption | exact KB.refl _) (.inl ⟨by rfl, fun W hW => ?_⟩) ?_; rotate_left
    · (go_simp; first | done | with_reducible rfl)
    try simp only [Act.put, List.setIfInBounds_toArray, List.set_cons_zero, List.set_cons_succ]
    refine btake 7 (oi := _) (v := ?_) (by simp only [List.getElem?_toArray, List.getElem?_cons_succ, List.getElem?_cons_zero]; rfl) (by kernel_rfl) (by exact fun _ _ _ h => h) (by first | assumption | exact KB.refl _) (.inl ⟨by rfl, fun W hW => ?_⟩) ?_; rotate_left
    · (go_simp; first | done | with_reducible rfl)
    try simp only [Act.put, List.setIfInBounds_toArray, List.set_cons_zero, List.set_cons_succ]
    refine btake 8 (oi := _) (v := ?_) (by simp only [List.getElem?_toArray, List.getElem?_cons_succ, List.getElem?_cons_zero]; rfl) (by kernel_rfl) (by exact fun _ _ _ h => h) (by first | assumption | exact KB.refl _) (.inl ⟨by rfl, fun W hW => ?_⟩) ?_; rotate_left
    · (go_simp; first | done | with_reducible rfl)
    try simp only [Act.put, List.setIfInBounds_toArray, List.set_cons_zero, List.set_cons_succ]
    refine btake 9 (oi := _) (v := ?_) (by simp only [List.getElem?_toArray, List.getElem?_cons_succ, List.getElem?_cons_zero]; rfl) (by kernel_rfl) (by exact fun _ _ _ h => h) (by first | assumption | exact KB.refl _) (.inl ⟨by rfl, fun W hW => ?_⟩) ?_; rotate_left
    · (go_simp; first | done | with_reducible rfl)
    try simp only [Act.put, List.setIfInBounds_toArray, List.set_cons_zero, List.set_cons_succ]
    refine btake 10 (oi := _) (v := ?_) (by simp only [List.getElem?_toArray, List.getElem?_cons_succ, List.getElem?_cons_zero]; rfl) (by kernel_rfl) (by exact fun _ _ _ h => h) (by first | assumption | exact KB.refl _) (.inl ⟨by rfl, fun W hW => ?_⟩) ?_; rotate_left
    · (go_simp; first | done | with_reducible rfl)
    try simp only [Act.put, List.setIfInBounds_toArray, List.set_cons_zero, List.set_cons_succ]
    refine bdone (by kernel_rfl) ?_
    go_wp2_with fail
    go_loopw [5] (fun i wr => ∃ k : Nat, i = .int .i64 (k : Int) ∧ k ≤ n1 ∧ (∀ j, j < k → R1[j]? = R2[j]?) ∧ Below w.heap.size w wr) (fun i _ => n1 - (intOf i).toNat)
    case atStart => exact ⟨0, rfl, Nat.zero_le _, by omega, (Below.refl _ _).drew⟩
    case round =>
      obtain ⟨k, rfl, hk, hall, hb⟩ := hrel
      have HB := Lib.hid (And.intro hall hb)
      by_cases hlt : k < n1
      · obtain ⟨x, hx⟩ : ∃ e, R1[k]? = some e := ⟨_, List.getElem?_eq_getElem (by rw [HN.out.1]; exact hlt)⟩
        obtain ⟨y, hy⟩ : ∃ e, R2[k]? = some e := ⟨_, List.getElem?_eq_getElem (by rw [HN.out.2]; exact hlt)⟩
        obtain ⟨g1, o1, hA1, hg1, _, _, _, _, _, cs1⟩ := flagAt ((HA.out.2.2.1.below' hb).more hb.size) hx
        obtain ⟨g2, o2, hA2, hg2, _, _, _, _, _, cs2⟩ := flagAt ((HA.out.2.2.2.below' hb).more hb.size) hy
        subst hA1 hA2
        have HC := Lib.hid (And.intro cs1 cs2)
        obtain ⟨q, hq⟩ : ∃ q, decide (x = y) = q := ⟨_, rfl⟩
        have HQ := Lib.hid (And.intro hq (And.intro hx hy))
        have f1 := (HA.out.1.below hb).e 0 rfl
        have f2 := (HA.out.2.1.below hb).e 0 rfl
        have z1 := (HA.out.1.below hb).c 0 rfl
        have hx0 : (0 : Int) ≤ (k : Int) := by omega
        have hx1 : (k : Int) < (n1 : Int) := by omega
        clear hall hb cs1 cs2 hq hx hy
        go_wp2_with fail
        refine bstart (by kernel_rfl) ?_
        refine btake 0 (oi := _) (v := ?_) (by simp only [List.getElem?_toArray, List.getElem?_cons_zero]; rfl) (by kernel_rfl) (by exact fun _ _ _ h => h) (by first | assumption | exact KB.refl _) (.inl ⟨by rfl, fun W hW => ?_⟩) ?_; rotate_left
        · (go_simp; first | done | with_reducible rfl)
        try simp only [Act.put, List.setIfInBounds_toArray, List.set_cons_zero, List.set_cons_succ]
        refine btake 1 (oi := _) (v := ?_) (by simp only [List.getElem?_toArray, List.getElem?_cons_succ, List.getElem?_cons_zero]; rfl) (by kernel_rfl) (by exact fun _ _ _ h => h) (by first | assumption | exact KB.refl _) (.inl ⟨by rfl, fun W hW => ?_⟩) ?_; rotate_left
        · (go_simp; first | done | with_reducible rfl)
        try simp only [Act.put, List.setIfInBounds_toArray, List.set_cons_zero, List.set_cons_succ]
        refine btake 2 (oi := _) (v := ?_) (by simp only [List.getElem?_toArray, List.getElem?_cons_succ, List.getElem?_cons_zero]; rfl) (by kernel_rfl) (by exact fun _ _ _ h => h) (by first | assumption | exact KB.refl _) (.inl ⟨by rfl, fun W hW => ?_⟩) ?_; rotate_left
        · (go_simp; first | done | with_reducible rfl)
        try simp only [Act.put, List.setIfInBounds_toArray, List.set_cons_zero, List.set_cons_succ]
        refine btake 3 (oi := _) (v := ?_) (by simp only [List.getElem?_toArray, List.getElem?_cons_succ, List.getElem?_cons_zero]; rfl) (by kernel_rfl) (by exact fun _ _ _ h => h) (by first | assumption | exact KB.refl _) (.inl ⟨by rfl, fun W hW => ?_⟩) ?_; rotate_left
        · (go_simp; first | done | with_reducible rfl)
        try simp only [Act.put, List.setIfInBounds_toArray, List.set_cons_zero, List.set_cons_succ]
        refine btake 4 (oi := _) (v := ?_) (by simp only [List.getElem?_toArray, List.getElem?_cons_succ, List.getElem?_cons_zero]; rfl) (by kernel_rfl) (by exact fun _ _ _ h => h) (by first | assumption | exact KB.refl _) (.inl ⟨by rfl, fun W hW => ?_⟩) ?_; rotate_left
        · (go_simp; first | done | with_reducible rfl)
        try simp only [Act.put, List.setIfInBounds_toArray, List.set_cons_zero, List.set_cons_succ]
        refine btake 5 (oi := _) (v := ?_) (by simp only [List.getElem?_toArray, List.getElem?_cons_succ, List.getElem?_cons_zero]; rfl) (by kernel_rfl) (by exact fun _ _ _ h => h) (by first | assumption | exact KB.refl _) (.inl ⟨by rfl, fun W hW => ?_⟩) ?_; rotate_left
        · (go_simp; first | done | with_reducible rfl)
        try simp only [Act.put, List.setIfInBounds_toArray, List.set_cons_zero, List.set_cons_succ]
        refine btake 6 (oi := _) (v := ?_) (by simp only [List.getElem?_toArray, List.getElem?_cons_succ, List.getElem?_cons_zero]; rfl) (by kernel_rfl) (by exact fun _ _ _ h => h) (by first | assumption | exact KB.refl _) (.inl ⟨by rfl, fun W hW => ?_⟩) ?_; rotate_left
        · refine Eq.trans (ex_ldTo (us := FE.cells x) flagAgg flagSize (by rfl) (by rfl) (fun j u hu => (hW.cell hg1).trans (HC.out.1 j u hu)) (FE.cells_len _)) ?_
          with_reducible rfl
        try simp only [Act.put, List.setIfInBounds_toArray, List.set_cons_zero, List.set_cons_succ]
        refine btake 7 (oi := _) (v := ?_) (by simp only [List.getElem?_toArray, List.getElem?_cons_succ, List.getElem?_cons_zero]; rfl) (by kernel_rfl) (by exact fun _ _ _ h => h) (by first | assumption | exact KB.refl _) (.inl ⟨by rfl, fun W hW => ?_⟩) ?_; rotate_left
        · (go_simp; first | done | with_reducible rfl)
        try simp only [Act.put, List.setIfInBounds_toArray, List.set_cons_zero, List.set_cons_succ]
        refine btake 8 (oi := _) (v := ?_) (by simp only [List.getElem?_toArray, List.getElem?_cons_succ, List.getElem?_cons_zero]; rfl) (by kernel_rfl) (by exact fun _ _ _ h => h) (by first | assumption | exact KB.refl _) (.inl ⟨by rfl, fun W hW => ?_⟩) ?_; rotate_left
        · (go_simp; first | done | with_reducible rfl)
        try simp only [Act.put, List.setIfInBounds_toArray, List.set_cons_zero, List.set_cons_succ]
        refine btake 9 (oi := _) (v := ?_) (by simp only [List.getElem?_toArray, List.getElem?_cons_succ, List.getElem?_cons_zero]; rfl) (by kernel_rfl) (by exact fun _ _ _ h => h) (by first | assumption | exact KB.refl _) (.inl ⟨by rfl, fun W hW => ?_⟩) ?_; rotate_left
        · (go_simp; first | done | with_reducible rfl)
        try simp only [Act.put, List.setIfInBounds_toArray, List.set_cons_zero, List.set_cons_succ]
        refine btake 10 (oi := _) (v := ?_) (by simp only [List.getElem?_toArray, List.getElem?_cons_succ, List.getElem?_cons_zero]; rfl) (by kernel_rfl) (by exact fun _ _ _ h => h) (by first | assumption | exact KB.refl _) (.inl ⟨by rfl, fun W hW => ?_⟩) ?_; rotate_left
        · (go_simp; first | done | with_reducible rfl)
        try simp only [Act.put, List.setIfInBounds_toArray, List.set_cons_zero, List.set_cons_succ]
        refine btake 11 (oi := _) (v := ?_) (by simp only [List.getElem?_toArray, List.getElem?_cons_succ, List.getElem?_cons_zero]; rfl) (by kernel_rfl) (by exact fun _ _ _ h => h) (by first | assumption | exact KB.refl _) (.inl ⟨by rfl, fun W hW => ?_⟩) ?_; rotate_left
        · (go_simp; first | done | with_reducible rfl)
        try simp only [Act.put, List.setIfInBounds_toArray, List.set_cons_zero, List.set_cons_succ]
        refine btake 12 (oi := _) (v := ?_) (by simp only [List.getElem?_toArray, List.getElem?_cons_succ, List.getElem?_cons_zero]; rfl) (by kernel_rfl) (by exact fun _ _ _ h => h) (by first | assumption | exact KB.refl _) (.inl ⟨by rfl, fun W hW => ?_⟩) ?_; rotate_left
        · (go_simp; first | done | with_reducible rfl)
        try simp only [Act.put, List.setIfInBounds_toArray, List.set_cons_zero, List.set_cons_succ]
        refine btake 13 (oi := _) (v := ?_) (by simp only [List.getElem?_toArray, List.getElem?_cons_succ, List.getElem?_cons_zero]; rfl) (by kernel_rfl) (by exact fun _ _ _ h => h) (by first | assumption | exact KB.refl _) (.inl ⟨by rfl, fun W hW => ?_⟩) ?_; rotate_left
        · refine Eq.trans (ex_ldTo (us := FE.cells y) flagAgg flagSize (by rfl) (by rfl) (fun j u hu => (hW.cell hg2).trans (HC.out.2 j u hu)) (FE.cells_len _)) ?_
          with_reducible rfl
        try simp only [Act.put, List.setIfInBounds_toArray, List.set_cons_zero, List.set_cons_succ]
        refine btake 14 (oi := _) (v := ?_) (by simp only [List.getElem?_toArray, List.getElem?_cons_succ, List.getElem?_cons_zero]; rfl) (by kernel_rfl) (by exact fun _ _ _ h => h) (by first | assumption | exact KB.refl _) (.inl ⟨by rfl, fun W hW => ?_⟩) ?_; rotate_left
        · refine Eq.trans (ex_neFlag (e := x) (f := y) (by rfl) (by rfl) (by rfl) HQ.out.1) ?_
          with_reducible rfl
        try simp only [Act.put, List.setIfInBounds_toArray, List.set_cons_zero, List.set_cons_succ]
        refine bdone (by kernel_rfl) ?_
        clear f1 f2 z1
        cases q with
        | true =>
          go_wp2_with fail
          go_roundw
          case rel =>
            refine ⟨k + 1, by go_num, hlt, fun j hj => ?_, HB.out.2.drew⟩
            rcases Nat.lt_succ_iff_lt_or_eq.1 hj with h | rfl
            · exact HB.out.1 j h
            · rw [HQ.out.2.1, HQ.out.2.2, of_decide_eq_true HQ.out.1]
          case measure => simp [intOf]; omega
        | false =>
          go_wp2_with fail
          go_ret
          refine ⟨?_, HB.out.2.drew⟩
          rw [← HRes.out, decide_eq_false (fun h => of_decide_eq_false HQ.out.1 ?_)]
          · rfl
          · have := HQ.out.2.1
            rw [h, HQ.out.2.2] at this
            exact (Option.some.inj this).symm
      · obtain rfl : k = n1 := by omega
        have z1 := (HA.out.1.below hb).c 0 rfl
        clear hall hb
        go_wp2_with fail
        go_ret
        refine ⟨?_, HB.out.2⟩
        rw [← HRes.out, decide_eq_true (List.ext_getElem? fun j => ?_)]
        · rfl
        · by_cases hj : j < k
          · exact HB.out.1 j hj
          · rw [List.getElem?_eq_none (by rw [HN.out.1]; omega), List.getElem?_eq_none (by rw [HN.out.2]; omega)]
  · go_enter Try.func20, Try.ntmps20
    have hne' : ¬ (n1 : Int) = (n2 : Int) := fun h => hne (by exact_mod_cast h)
    go_wp2_with fail
    refine bstart (by kernel_rfl) ?_
    refine btake 0 (oi := _) (v := ?_) (by simp only [List.getElem?_toArray, List.getElem?_cons_zero]; rfl) (by kernel_rfl) (by exact fun _ _ _ h => h) (by first | assumption | exact KB.refl _) (.inl ⟨by rfl, fun W hW => ?_⟩) ?_; rotate_left
    · (go_simp; first | done | with_reducible rfl)
    try simp only [Act.put, List.setIfInBounds_toArray, List.set_cons_zero, List.set_cons_succ]
    refine btake 1 (oi := _) (v := ?_) (by simp only [List.getElem?_toArray, List.getElem?_cons_succ, List.getElem?_cons_zero]; rfl) (by kernel_rfl) (by exact fun _ _ _ h => h) (by first | assumption | exact KB.refl _) (.inl ⟨by rfl, fun W hW => ?_⟩) ?_; rotate_left
    · (go_simp; first | done | with_reducible rfl)
    try simp only [Act.put, List.setIfInBounds_toArray, List.set_cons_zero, List.set_cons_succ]
    refine btake 2 (oi := _) (v := ?_) (by simp only [List.getElem?_toArray, List.getElem?_cons_succ, List.getElem?_cons_zero]; rfl) (by kernel_rfl) (by exact fun _ _ _ h => h) (by first | assumption | exact KB.refl _) (.inl ⟨by rfl, fun W hW => ?_⟩) ?_; rotate_left
    · (go_simp; first | done | with_reducible rfl)
    try simp only [Act.put, List.setIfInBounds_toArray, List.set_cons_zero, List.set_cons_succ]
    refine btake 3 (oi := _) (v := ?_) (by simp only [List.getElem?_toArray, List.getElem?_cons_succ, List.getElem?_cons_zero]; rfl) (by kernel_rfl) (by exact fun _ _ _ h => h) (by first | assumption | exact KB.refl _) (.inl ⟨by rfl, fun W hW => ?_⟩) ?_; rotate_left
    · (go_simp; first | done | with_reducible rfl)
    try simp only [Act.put, List.setIfInBounds_toArray, List.set_cons_zero, List.set_cons_succ]
    refine btake 4 (oi := _) (v := ?_) (by simp only [List.getElem?_toArray, List.getElem?_cons_succ, List.getElem?_cons_zero]; rfl) (by kernel_rfl) (by exact fun _ _ _ h => h) (by first | assumption | exact KB.refl _) (.inl ⟨by rfl, fun W hW => ?_⟩) ?_; rotate_left
    · (go_simp; first | done | with_reducible rfl)
    try simp only [Act.put, List.setIfInBounds_toArray, List.set_cons_zero, List.set_cons_succ]
    refine btake 5 (oi := _) (v := ?_) (by simp only [List.getElem?_toArray, List.getElem?_cons_succ, List.getElem?_cons_zero]; rfl) (by kernel_rfl) (by exact fun _ _ _ h => h) (by first | assumption | exact KB.refl _) (.inl ⟨by rfl, fun W hW => ?_⟩) ?_; rotate_left
    · (go_simp; first | done | with_reducible rfl)
    try simp only [Act.put, List.setIfInBounds_toArray, List.set_cons_zero, List.set_cons_succ]
    refine btake 6 (oi := _) (v := ?_) (by simp only [List.getElem?_toArray, List.getElem?_cons_succ, List.getElem?_cons_zero]; rfl) (by kernel_rfl) (by exact fun _ _ _ h => h) (by first | assumption | exact KB.refl _) (.inl ⟨by rfl, fun W hW => ?_⟩) ?_; rotate_left
    · (go_simp; first | done | with_reducible rfl)
    try simp only [Act.put, List.setIfInBounds_toArray, List.set_cons_zero, List.set_cons_succ]
    refine btake 7 (oi := _) (v := ?_) (by simp only [List.getElem?_toArray, List.getElem?_cons_succ, List.getElem?_cons_zero]; rfl) (by kernel_rfl) (by exact fun _ _ _ h => h) (by first | assumption | exact KB.refl _) (.inl ⟨by rfl, fun W hW => ?_⟩) ?_; rotate_left
    · (go_simp; first | done | with_reducible rfl)
    try simp only [Act.put, List.setIfInBounds_toArray, List.set_cons_zero, List.set_cons_succ]
    refine btake 8 (oi := _) (v := ?_) (by simp only [List.getElem?_toArray, List.getElem?_cons_succ, List.getElem?_cons_zero]; rfl) (by kernel_rfl) (by exact fun _ _ _ h => h) (by first | assumption | exact KB.refl _) (.inl ⟨by rfl, fun W hW => ?_⟩) ?_; rotate_left
    · (go_simp; first | done | with_reducible rfl)
    try simp only [Act.put, List.setIfInBounds_toArray, List.set_cons_zero, List.set_cons_succ]
    refine btake 9 (oi := _) (v := ?_) (by simp only [List.getElem?_toArray, List.getElem?_cons_succ, List.getElem?_cons_zero]; rfl) (by kernel_rfl) (by exact fun _ _ _ h => h) (by first | assumption | exact KB.refl _) (.inl ⟨by rfl, fun W hW => ?_⟩) ?_; rotate_left
    · (go_simp; first | done | with_reducible rfl)
    try simp only [Act.put, List.setIfInBounds_toArray, List.set_cons_zero, List.set_cons_succ]
    refine btake 10 (oi := _) (v := ?_) (by simp only [List.getElem?_toArray, List.getElem?_cons_succ, List.getElem?_cons_zero]; rfl) (by kernel_rfl) (by exact fun _ _ _ h => h) (by first | assumption | exact KB.refl _) (.inl ⟨by rfl, fun W hW => ?_⟩) ?_; rotate_left
    · (go_simp; first | done | with_reducible rfl)
    try simp only [Act.put, List.setIfInBounds_toArray, List.set_cons_zero, List.set_cons_succ]
    refine bdone (by kernel_rfl) ?_
    go_wp2_with fail
    go_ret
    refine ⟨?_, (Below.refl _ _).drew⟩
    rw [← HRes.out, decide_eq_false (fun h => hne (by rw [← HN.out.1, ← HN.out.2, h]))]
    rfl
def DT (d : Nat) (v : Value) (g : Nat) (R : List FE) (W : World) : Prop := At W d [v] ∧ EF.Row W g R
set_option maxRecDepth 100000 in
set_option maxHeartbeats 1600000 in
theorem DGet_any (w : World) (d : Nat) (F : Nat → Prop) (R : List FE) (h : DS w d F R) (x : ID) (hn : R.length < 1000000) :
    Calls Try.prog 29 #[.pointer (some ⟨d, 0, none⟩), x.v] w fun e w' => e = .returned (.tuple #[.bool ((look R x).getD zeroM).on, ((look R x).getD zeroM).s.v, .bool (look R x).isSome]) ∧ Below w.heap.size w w' := by
  have HF := Lib.hid h
  have H32 := Lib.hid (show (bv x.l).length = 32 by rw [bv_len, x.h])
  obtain ⟨M, hM⟩ : ∃ M, look R x = M := ⟨_, rfl⟩
  rw [hM]
  have HM := Lib.hid hM
  clear hM h
  unfold ID.v
  have k0 := At.new w 25 (bv x.l).toArray
  have k1 := k0.alloc (.cells #[.int .i64 0, .int .i64 0, .int .i64 0] 30)
  have k2 := At.new (w.alloc (.cells (bv x.l).toArray 25)) 30 #[.int .i64 0, .int .i64 0, .int .i64 0]
  have hb2 : Below w.heap.size w ((w.alloc (.cells (bv x.l).toArray 25)).alloc (.cells #[.int .i64 0, .int .i64 0, .int .i64 0] 30)) := ((Below.refl _ w).alloc (Nat.le_refl _) _).alloc (by simp) _
  have hs2 : ((w.alloc (.cells (bv x.l).toArray 25)).alloc (.cells #[.int .i64 0, .int .i64 0, .int .i64 0] 30)).heap.size = w.heap.size + 2 := by simp
  rw [World.size_alloc] at k2
  have HK := Lib.hid (And.intro (show At _ w.heap.size (bv x.l) from k1) (And.intro (show At _ (w.heap.size + 1) ([.int .i64 0, .int .i64 0, .int .i64 0] : List Value) from k2) (And.intro hb2 (HF.out.below hb2))))
  clear k0 k1 k2 hb2
  go_enter Try.func29, Try.ntmps29
  go_wp2_with (first
    | (refine opVal rfl (ex_box32 rfl rfl) ?_; simp only [Act.put, List.setIfInBounds_toArray, List.set_cons_zero, List.set_cons_succ])
    | (refine opVal rfl (ex_ld32 rfl rfl HK.out.1 H32.out) ?_; simp only [Act.put, List.setIfInBounds_toArray, List.set_cons_zero, List.set_cons_succ]))
  generalize (w.alloc (.cells (bv x.l).toArray 25)).alloc (.cells #[.int .i64 0, .int .i64 0, .int .i64 0] 30) = w2 at *
  have HFi := Lib.hid (Find_any w2 d F R HK.out.2.2.2 x hn)
  unfold ID.v at HFi
  refine HFi.out.mono ?_
  rintro e w4 ⟨k, ok, rfl, hfi, hb4⟩
  have H4 := Lib.hid (And.intro (HK.out.2.1.below hb4) (And.intro (HK.out.2.2.1.trans (hb4.mono HK.out.2.2.1.size)) (HK.out.2.2.2.below hb4)))
  have HI := Lib.hid hfi
  have HLA := Lib.hid (look_at R x k z0FE HF.out.facts.1 hfi.1 hfi.2.1 hfi.2.2.1)
  have hs4 : w.heap.size + 2 ≤ w4.heap.size := by have := hb4.size; omega
  clear HFi hb4 hfi HK hs2
  generalize w2.heap.size = n2 at *
  cases ok with
  | false =>
    have hno : ¬ (k < R.length ∧ (R[k]?.getD z0FE).1 = x) := of_decide_eq_false HI.out.2.2.2.symm
    have hMn : M = none := by
      rw [← HM.out]
      rcases HLA.out with ⟨h1, h2, _⟩ | ⟨_, h⟩
      · exact absurd ⟨h1, h2⟩ hno
      · exact h
    subst hMn
    have z0 := H4.out.1.c 0 rfl
    have z1 := H4.out.1.c 1 rfl
    have z2 := H4.out.1.c 2 rfl
    have y0 := H4.out.1.f 0 rfl
    have y1 := H4.out.1.f 1 rfl
    have y2 := H4.out.1.f 2 rfl
    have q5 := H4.out.1.putL [.int .i64 0, .int .i64 0, .int .i64 0] rfl
    have v0 := q5.c 0 rfl
    have v1 := q5.c 1 rfl
    have v2 := q5.c 2 rfl
    have hb5 := below_putL [.int .i64 0, .int .i64 0, .int .i64 0] 0 H4.out.2.1 (g := w.heap.size + 1) (by omega)
    have HB5 := Lib.hid hb5
    clear hno q5 hb5
    simp only [putL] at v0 v1 v2
    go_wp2_with fail
    exact bodyPost_ret (v := .tuple #[.bool false, .agg #[.int .i64 0, .int .i64 0, .int .i64 0], .bool false]) (by simp [results, Try.results29, go_sem, v0, v1, v2]) rfl ⟨rfl, HB5.out⟩
  | true =>
    obtain ⟨A, c, h1, h2, hc, hcm, hFd, hfac, hFlt⟩ := H4.out.2.2
    have hyes : k < R.length ∧ (R[k]?.getD z0FE).1 = x := of_decide_eq_true HI.out.2.2.2.symm
    have hkl := hyes.1
    obtain ⟨g, rfl, hgF, hgd, hrow⟩ : ∃ g, A = some ⟨g, 0, none⟩ ∧ F g ∧ g ≠ d ∧ EF.Row w4 g R := by
      rcases h2 with ⟨_, h, _⟩ | h
      · rw [h] at hkl; simp at hkl
      · exact h
    obtain ⟨⟨y, ⟨⟨p, l, r⟩, on⟩⟩, hy⟩ : ∃ e, R[k]? = some e := ⟨_, List.getElem?_eq_getElem hkl⟩
    have hMs : M = some ⟨⟨p, l, r⟩, on⟩ := by
      rw [← HM.out]
      rcases HLA.out with ⟨_, _, h⟩ | ⟨h, _⟩
      · rw [hy] at h; exact h
      · exact absurd hyes h
    subst hMs
    obtain ⟨m, hm⟩ : ∃ m, R.length = m := ⟨_, rfl⟩
    rw [hm] at h1 hc hn hkl
    have hlay : ∀ W, DT d (.slice (some ⟨g, 0, none⟩) m c) g R W → W.cell? ⟨g, k * 36 + 32, none⟩ = some (.int .i64 p) ∧ W.cell? ⟨g, k * 36 + 33, none⟩ = some (.int .i64 l) ∧ W.cell? ⟨g, k * 36 + 34, none⟩ = some (.int .i64 r) ∧ W.cell? ⟨g, k * 36 + 35, none⟩ = some (.bool on) := fun W hW => by
      obtain ⟨g', o', e', _, _, hc0, hc1, hc2, hc3, _⟩ := flagAt (ET.Row.sl hW.2) hy
      simp only [Option.some.injEq, Addr.mk.injEq] at e'
      obtain ⟨rfl, rfl, _⟩ := e'
      simp only [Nat.zero_add] at hc0 hc1 hc2 hc3
      exact ⟨hc0, hc1, hc2, hc3⟩
    have f0 := fun W hW => (hlay W hW).1
    have f1 := fun W hW => (hlay W hW).2.1
    have f2 := fun W hW => (hlay W hW).2.2.1
    have f3 := fun W hW => (hlay W hW).2.2.2
    have f4 : ∀ W, DT d (.slice (some ⟨g, 0, none⟩) m c) g R W → W.cell? ⟨d, 0, none⟩ = some (.slice (some ⟨g, 0, none⟩) m c) := fun W h => h.1.c 0 rfl
    have hS0 : DT d (.slice (some ⟨g, 0, none⟩) m c) g R w4.drew := ⟨h1, hrow⟩
    have hgl := hrow.1
    have hdl := h1.1
    have z0 := H4.out.1.c 0 rfl
    have z1 := H4.out.1.c 1 rfl
    have z2 := H4.out.1.c 2 rfl
    have y0 := H4.out.1.f 0 rfl
    have y1 := H4.out.1.f 1 rfl
    have y2 := H4.out.1.f 2 rfl
    have q5 := H4.out.1.putL [.int .i64 p, .int .i64 l, .int .i64 r] rfl
    have hb5 := below_putL [.int .i64 p, .int .i64 l, .int .i64 r] 0 H4.out.2.1 (g := w.heap.size + 1) (by omega)
    have hnd : w.heap.size + 1 ≠ d := fun e => by have := HF.out; obtain ⟨_, _, h, _⟩ := this; have := h.1; omega
    have hng : w.heap.size + 1 ≠ g := fun e => by
      have hF0 := HF.out
      obtain ⟨_, _, _, _, _, _, _, _, hlt⟩ := hF0
      have := hlt g hgF
      omega
    have hkb6 : DT d (.slice (some ⟨g, 0, none⟩) m c) g R (putL w4.drew (w.heap.size + 1) 0 [.int .i64 p, .int .i64 l, .int .i64 r]) := ⟨At.putL_other _ 0 _ h1 hnd, At.putL_other _ 0 _ hrow hng⟩
    have HB5 := Lib.hid (And.intro q5 (And.intro hb5 hkb6))
    have hx0 : (0 : Int) ≤ (k : Int) := by omega
    have hx1 : (k : Int) < (m : Int) := by omega
    clear hlay h1 h2 hrow hyes hy hm q5 hb5 hkb6 hfac hFlt hnd hng
    go_wp2_with fail
    refine bstartS (DT d (.slice (some ⟨g, 0, none⟩) m c) g R) (by kernel_rfl) ?_
    refine btakeS 0 (oi := _) (v := ?_) (by simp only [List.getElem?_toArray, List.getElem?_cons_zero]; rfl) (by kernel_rfl) (by exact fun _ _ _ h => h) (by first | assumption | exact KB.refl _) (.inl ⟨by rfl, fun W hW => ?_⟩) ?_; rotate_left
    · (go_simp; first | done | with_reducible rfl)
    try simp only [Act.put, List.setIfInBounds_toArray, List.set_cons_zero, List.set_cons_succ]
    refine btakeS 1 (oi := _) (v := ?_) (by simp only [List.getElem?_toArray, List.getElem?_cons_succ, List.getElem?_cons_zero]; rfl) (by kernel_rfl) (by exact fun _ _ _ h => h) (by first | assumption | exact KB.refl _) (.inl ⟨by rfl, fun W hW => ?_⟩) ?_; rotate_left
    · (go_simp; first | done | with_reducible rfl)
    try simp only [Act.put, List.setIfInBounds_toArray, List.set_cons_zero, List.set_cons_succ]
    refine btakeS 2 (oi := _) (v := ?_) (by simp only [List.getElem?_toArray, List.getElem?_cons_succ, List.getElem?_cons_zero]; rfl) (by kernel_rfl) (by exact fun _ _ _ h => h) (by first | assumption | exact KB.refl _) (.inl ⟨by rfl, fun W hW => ?_⟩) ?_; rotate_left
    · (go_simp; first | done | with_reducible rfl)
    try simp only [Act.put, List.setIfInBounds_toArray, List.set_cons_zero, List.set_cons_succ]
    refine btakeS 3 (oi := _) (v := ?_) (by simp only [List.getElem?_toArray, List.getElem?_cons_succ, List.getElem?_cons_zero]; rfl) (by kernel_rfl) (by exact fun _ _ _ h => h) (by first | assumption | exact KB.refl _) (.inl ⟨by rfl, fun W hW => ?_⟩) ?_; rotate_left
    · (go_simp; first | done | with_reducible rfl)
    try simp only [Act.put, List.setIfInBounds_toArray, List.set_cons_zero, List.set_cons_succ]
    refine btakeS 4 (oi := _) (v := ?_) (by simp only [List.getElem?_toArray, List.getElem?_cons_succ, List.getElem?_cons_zero]; rfl) (by kernel_rfl) (by exact fun _ _ _ h => h) (by first | assumption | exact KB.refl _) (.inl ⟨by rfl, fun W hW => ?_⟩) ?_; rotate_left
    · (go_simp; first | done | with_reducible rfl)
    try simp only [Act.put, List.setIfInBounds_toArray, List.set_cons_zero, List.set_cons_succ]
    refine btakeS 5 (oi := _) (v := ?_) (by simp only [List.getElem?_toArray, List.getElem?_cons_succ, List.getElem?_cons_zero]; rfl) (by kernel_rfl) (by exact fun _ _ _ h => h) (by first | assumption | exact KB.refl _) (.inl ⟨by rfl, fun W hW => ?_⟩) ?_; rotate_left
    · (go_simp; first | done | with_reducible rfl)
    try simp only [Act.put, List.setIfInBounds_toArray, List.set_cons_zero, List.set_cons_succ]
    refine btakeS 6 (oi := _) (v := ?_) (by simp only [List.getElem?_toArray, List.getElem?_cons_succ, List.getElem?_cons_zero]; rfl) (by kernel_rfl) (by exact fun _ _ _ h => h) (by first | assumption | exact KB.refl _) (.inl ⟨by rfl, fun W hW => ?_⟩) ?_; rotate_left
    · (go_simp; first | done | with_reducible rfl)
    try simp only [Act.put, List.setIfInBounds_toArray, List.set_cons_zero, List.set_cons_succ]
    refine btakeS 7 (oi := _) (v := ?_) (by simp only [List.getElem?_toArray, List.getElem?_cons_succ, List.getElem?_cons_zero]; rfl) (by kernel_rfl) (by exact fun _ _ _ h => h) (by first | assumption | exact KB.refl _) (.inl ⟨by rfl, fun W hW => ?_⟩) ?_; rotate_left
    · (go_simp; first | done | with_reducible rfl)
    try simp only [Act.put, List.setIfInBounds_toArray, List.set_cons_zero, List.set_cons_succ]
    refine btakeS 8 (oi := _) (v := ?_) (by simp only [List.getElem?_toArray, List.getElem?_cons_succ, List.getElem?_cons_zero]; rfl) (by kernel_rfl) (by exact fun _ _ _ h => h) (by first | assumption | exact KB.refl _) (.inl ⟨by rfl, fun W hW => ?_⟩) ?_; rotate_left
    · (go_simp; first | done | with_reducible rfl)
    try simp only [Act.put, List.setIfInBounds_toArray, List.set_cons_zero, List.set_cons_succ]
    refine btakeS 9 (oi := _) (v := ?_) (by simp only [List.getElem?_toArray, List.getElem?_cons_succ, List.getElem?_cons_zero]; rfl) (by kernel_rfl) (by exact fun _ _ _ h => h) (by first | assumption | exact KB.refl _) (.inl ⟨by rfl, fun W hW => ?_⟩) ?_; rotate_left
    · (go_simp; first | done | with_reducible rfl)
    try simp only [Act.put, List.setIfInBounds_toArray, List.set_cons_zero, List.set_cons_succ]
    refine btakeS 10 (oi := _) (v := ?_) (by simp only [List.getElem?_toArray, List.getElem?_cons_succ, List.getElem?_cons_zero]; rfl) (by kernel_rfl) (by exact fun _ _ _ h => h) (by first | assumption | exact KB.refl _) (.inl ⟨by rfl, fun W hW => ?_⟩) ?_; rotate_left
    · (go_simp; first | done | with_reducible rfl)
    try simp only [Act.put, List.setIfInBounds_toArray, List.set_cons_zero, List.set_cons_succ]
    refine btakeS 11 (oi := _) (v := ?_) (by simp only [List.getElem?_toArray, List.getElem?_cons_succ, List.getElem?_cons_zero]; rfl) (by kernel_rfl) (by exact fun _ _ _ h => h) (by first | assumption | exact KB.refl _) (.inl ⟨by rfl, fun W hW => ?_⟩) ?_; rotate_left
    · (go_simp; first | done | with_reducible rfl)
    try simp only [Act.put, List.setIfInBounds_toArray, List.set_cons_zero, List.set_cons_succ]
    refine btakeS 12 (oi := _) (v := ?_) (by simp only [List.getElem?_toArray, List.getElem?_cons_succ, List.getElem?_cons_zero]; rfl) (by kernel_rfl) (by exact fun _ _ _ h => h) (by first | assumption | exact KB.refl _) (.inl ⟨by rfl, fun W hW => ?_⟩) ?_; rotate_left
    · (go_simp; first | done | with_reducible rfl)
    try simp only [Act.put, List.setIfInBounds_toArray, List.set_cons_zero, List.set_cons_succ]
    refine btakeS 13 (oi := _) (v := ?_) (by simp only [List.getElem?_toArray, List.getElem?_cons_succ, List.getElem?_cons_zero]; rfl) (by kernel_rfl) (by exact fun _ _ _ h => h) (by first | assumption | exact KB.refl _) (.inl ⟨by rfl, fun W hW => ?_⟩) ?_; rotate_left
    · (go_simp; first | done | with_reducible rfl)
    try simp only [Act.put, List.setIfInBounds_toArray, List.set_cons_zero, List.set_cons_succ]
    refine btakeS 14 (oi := _) (v := ?_) (by simp only [List.getElem?_toArray, List.getElem?_cons_succ, List.getElem?_cons_zero]; rfl) (by kernel_rfl) (by exact fun _ _ _ h => h) (by first | assumption | exact KB.refl _) (.inl ⟨by rfl, fun W hW => ?_⟩) ?_; rotate_left
    · (go_simp; first | done | with_reducible rfl)
    try simp only [Act.put, List.setIfInBounds_toArray, List.set_cons_zero, List.set_cons_succ]
    refine btakeS 15 (oi := _) (v := ?_) (by simp only [List.getElem?_toArray, List.getElem?_cons_succ, List.getElem?_cons_zero]; rfl) (by kernel_rfl) (by exact fun _ _ _ h => h) (by first | assumption | exact KB.refl _) (.inl ⟨by rfl, fun W hW => ?_⟩) ?_; rotate_left
    · (go_simp; first | done | with_reducible rfl)
    try simp only [Act.put, List.setIfInBounds_toArray, List.set_cons_zero, List.set_cons_succ]
    refine btakeS 16 (oi := _) (v := ?_) (by simp only [List.getElem?_toArray, List.getElem?_cons_succ, List.getElem?_cons_zero]; rfl) (by kernel_rfl) (by exact fun _ _ _ h => h) (by first | assumption | exact KB.refl _) (.inl ⟨by rfl, fun W hW => ?_⟩) ?_; rotate_left
    · (go_simp; first | done | with_reducible rfl)
    try simp only [Act.put, List.setIfInBounds_toArray, List.set_cons_zero, List.set_cons_succ]
    -- 17: Op.store 30 (Operand.tmp 5) (Operand.tmp 33)
    refine bopS 17 (o := _) (by simp only [List.getElem?_toArray, List.getElem?_cons_succ, List.getElem?_cons_zero]; rfl) (by kernel_rfl) (by rfl) (fun K hK => ?_)
    go_simp
    have hkb := HB5.out.2.2
    refine hK.out _ _ hkb ?_; clear hK K
    try simp only [Act.put, List.setIfInBounds_toArray, List.set_cons_zero, List.set_cons_succ]
    refine btakeS 18 (oi := _) (v := ?_) (by simp only [List.getElem?_toArray, List.getElem?_cons_succ, List.getElem?_cons_zero]; rfl) (by kernel_rfl) (by exact fun _ _ _ h => h) (by first | assumption | exact KB.refl _) (.inl ⟨by rfl, fun W hW => ?_⟩) ?_; rotate_left
    · (go_simp; first | done | with_reducible rfl)
    try simp only [Act.put, List.setIfInBounds_toArray, List.set_cons_zero, List.set_cons_succ]
    refine bdoneS (by kernel_rfl) ?_
    have q7 : At (putL w4 (w.heap.size + 1) 0 [.int .i64 p, .int .i64 l, .int .i64 r]).drew (w.heap.size + 1) [.int .i64 p, .int .i64 l, .int .i64 r] := HB5.out.1.drew
    have v0 := q7.c 0 rfl
    have v1 := q7.c 1 rfl
    have v2 := q7.c 2 rfl
    have hb6 : Below w.heap.size w (putL w4 (w.heap.size + 1) 0 [.int .i64 p, .int .i64 l, .int .i64 r]).drew := HB5.out.2.1.drew
    have HB6 := Lib.hid hb6
    clear q7 hb6 hkb hS0 f0 f1 f2 f3 f4 z0 z1 z2 y0 y1 y2
    simp only [putL] at v0 v1 v2
    go_wp2_with fail
    exact bodyPost_ret (v := .tuple #[.bool on, .agg #[.int .i64 p, .int .i64 l, .int .i64 r], .bool true]) (by simp [results, Try.results29, go_sem, v0, v1, v2]) rfl ⟨rfl, HB6.out⟩
def DJoinPost (w : World) (d : Nat) (F : Nat → Prop) (R : List FE) (e : Ending) (w' : World) : Prop :=
  e = .returned (.tuple #[]) ∧ ∃ F' : Nat → Prop, DS w' d F' R ∧ (∀ i, F' i → F i ∨ w.heap.size ≤ i) ∧ Grew F w w'
theorem len_join' (S : List FE) : ∀ R : List FE, Rise R → (joinR R S).length ≤ R.length + S.length := by
  induction S with
  | nil => intro R _; exact Nat.le_refl _
  | cons p S ih =>
    intro R hR
    have h1 := ih (putR R p.1 p.2) (rise_put hR _ _)
    have h2 := len_putR p.1 p.2 hR
    show (joinR (putR R p.1 p.2) S).length ≤ _
    rw [h2] at h1
    rw [List.length_cons]
    split at h1 <;> omega
theorem join_snoc' (R S : List FE) (k : Nat) (p : FE) (hk : S[k]? = some p) : joinR R (S.take (k + 1)) = putR (joinR R (S.take k)) p.1 p.2 := by
  obtain ⟨hlt, rfl⟩ := List.getElem?_eq_some_iff.1 hk
  rw [List.take_succ_eq_append_getElem hlt, joinR, List.foldl_append]
  rfl
set_option maxRecDepth 100000 in
set_option maxHeartbeats 1600000 in
theorem DJoin_any (w : World) (d d2 : Nat) (F F2 : Nat → Prop) (R R2 : List FE) (h : DS w d F R) (h2 : DS w d2 F2 R2) (hne : ∀ k, F2 k → ¬ F k) (hn : R.length + R2.length < 1000000) :
    Calls Try.prog 15 #[.pointer (some ⟨d, 0, none⟩), .pointer (some ⟨d2, 0, none⟩)] w (DJoinPost w d F (joinR R R2)) := by
  obtain ⟨n2, hn2⟩ : ∃ n, R2.length = n := ⟨_, rfl⟩
  have HN := Lib.hid (And.intro hn2 (And.intro hne hn))
  have HF := Lib.hid (And.intro h h2)
  have hn2b : n2 < 1000000 := by omega
  have hlt2 : ∀ k, F2 k → k < w.heap.size := by
    obtain ⟨_, _, _, _, _, _, _, _, hl⟩ := h2
    exact hl
  have HL2 := Lib.hid hlt2
  clear hn2 hne hn h h2 hlt2
  go_enter Try.func15, Try.ntmps15
  go_wp2_with fail
  go_loopw [4] (fun i wr => ∃ k : Nat, i = .int .i64 (k : Int) ∧ k ≤ n2 ∧ ∃ F' : Nat → Prop, DS wr d F' (joinR R (R2.take k)) ∧ DS wr d2 F2 R2 ∧ (∀ i, F' i → F i ∨ w.heap.size ≤ i) ∧ Grew F w wr) (fun i _ => n2 - (intOf i).toNat)
  case atStart => exact ⟨0, rfl, Nat.zero_le _, F, HF.out.1, HF.out.2, fun i hi => .inl hi, Grew.refl _ _⟩
  case round =>
    obtain ⟨k, rfl, hk, F', f1, f2, hF', hg⟩ := hrel
    have HX := Lib.hid (And.intro f1 (And.intro f2 (And.intro hF' hg)))
    obtain ⟨A, c, a2, s2, hc2, _, _⟩ := f2.sl
    rw [HN.out.1] at a2 hc2
    have z0 := a2.c 0 rfl
    clear f1 f2 hF' hg
    by_cases hlt : k < n2
    · obtain ⟨⟨x, ⟨⟨p, l, r⟩, on⟩⟩, hx⟩ : ∃ e, R2[k]? = some e := ⟨_, List.getElem?_eq_getElem (by rw [HN.out.1]; exact hlt)⟩
      obtain ⟨g, o, rfl, hgl, hid, c0, c1, c2, c3, _⟩ := flagAt s2 hx
      have H32 := Lib.hid (show (bv x.l).length = 32 by rw [bv_len, x.h])
      have HC := Lib.hid (And.intro hid hx)
      have hlenk := len_join' (R2.take k) R HF.out.1.facts.1
      have hpu : (joinR R (R2.take k)).length < 1000000 := by
        have := List.length_take_le k R2
        have := HN.out.2.2
        have := HN.out.1
        omega
      have HP := Lib.hid (fun W (h : DS W d F' (joinR R (R2.take k))) => DPut_any W d F' _ h x ⟨p, l, r⟩ on hpu)
      have HK := Lib.hid hlt
      have f0 := cellB c0
      have f1 := cellB c1
      have f2 := cellB c2
      have f3 := cellB c3
      have f4 := a2.e 0 rfl
      have hS0 : KB wr.heap wr.drew := KB.refl _
      have hx0 : (0 : Int) ≤ (k : Int) := by omega
      have hx1 : (k : Int) < (n2 : Int) := by omega
      have hkb : k < 1000000 := by omega
      clear hx hid c0 c1 c2 c3 hlenk hpu s2 a2
      go_wp2_with fail
      refine bstartE (KB wr.heap) 25 (by kernel_rfl) ?_
      refine btakeE 0 [] (oi := _) (v := ?_) (by simp only [List.getElem?_toArray, List.getElem?_cons_zero]; rfl) (by kernel_rfl) (by exact fun _ _ _ h => h) (by first | assumption | exact KB.refl _) (.inl ⟨by rfl, fun W hW => ?_⟩) ?_; rotate_left
      · (go_simp; first | done | with_reducible rfl)
      try simp only [Act.put, List.setIfInBounds_toArray, List.set_cons_zero, List.set_cons_succ]
      refine btakeE 1 [8, 7, 6, 4, 3, 2] (oi := _) (v := ?_) (by simp only [List.getElem?_toArray, List.getElem?_cons_succ, List.getElem?_cons_zero]; rfl) (by kernel_rfl) (by exact fun _ _ _ h => h) (by first | assumption | exact KB.refl _) (.inl ⟨by rfl, fun W hW => ?_⟩) ?_; rotate_left
      · (go_simp; first | done | with_reducible rfl)
      try simp only [Act.put, List.setIfInBounds_toArray, List.set_cons_zero, List.set_cons_succ]
      refine btakeE 2 [8, 7, 6, 4, 3] (oi := _) (v := ?_) (by simp only [List.getElem?_toArray, List.getElem?_cons_succ, List.getElem?_cons_zero]; rfl) (by kernel_rfl) (by exact fun _ _ _ h => h) (by first | assumption | exact KB.refl _) (.inl ⟨by rfl, fun W hW => ?_⟩) ?_; rotate_left
      · (go_simp; first | done | with_reducible rfl)
      try simp only [Act.put, List.setIfInBounds_toArray, List.set_cons_zero, List.set_cons_succ]
      refine btakeE 3 [8, 7, 6, 4] (oi := _) (v := ?_) (by simp only [List.getElem?_toArray, List.getElem?_cons_succ, List.getElem?_cons_zero]; rfl) (by kernel_rfl) (by exact fun _ _ _ h => h) (by first | assumption | exact KB.refl _) (.inl ⟨by rfl, fun W hW => ?_⟩) ?_; rotate_left
      · (go_simp; first | done | with_reducible rfl)
      try simp only [Act.put, List.setIfInBounds_toArray, List.set_cons_zero, List.set_cons_succ]
      refine btakeE 4 [8, 7, 6] (oi := _) (v := ?_) (by simp only [List.getElem?_toArray, List.getElem?_cons_succ, List.getElem?_cons_zero]; rfl) (by kernel_rfl) (by exact fun _ _ _ h => h) (by first | assumption | exact KB.refl _) (.inl ⟨by rfl, fun W hW => ?_⟩) ?_; rotate_left
      · (go_simp; first | done | with_reducible rfl)
      try simp only [Act.put, List.setIfInBounds_toArray, List.set_cons_zero, List.set_cons_succ]
      refine btakeE 5 [8, 7, 6] (oi := _) (v := ?_) (by simp only [List.getElem?_toArray, List.getElem?_cons_succ, List.getElem?_cons_zero]; rfl) (by kernel_rfl) (by exact fun _ _ _ h => h) (by first | assumption | exact KB.refl _) (.inl ⟨by rfl, fun W hW => ?_⟩) ?_; rotate_left
      · (go_simp; first | done | with_reducible rfl)
      try simp only [Act.put, List.setIfInBounds_toArray, List.set_cons_zero, List.set_cons_succ]
      refine btakeE 6 [8, 7] (oi := _) (v := ?_) (by simp only [List.getElem?_toArray, List.getElem?_cons_succ, List.getElem?_cons_zero]; rfl) (by kernel_rfl) (by exact fun _ _ _ h => h) (by first | assumption | exact KB.refl _) (.inl ⟨by rfl, fun W hW => ?_⟩) ?_; rotate_left
      · (go_simp; first | done | with_reducible rfl)
      try simp only [Act.put, List.setIfInBounds_toArray, List.set_cons_zero, List.set_cons_succ]
      refine btakeE 7 [8] (oi := _) (v := ?_) (by simp only [List.getElem?_toArray, List.getElem?_cons_succ, List.getElem?_cons_zero]; rfl) (by kernel_rfl) (by exact fun _ _ _ h => h) (by first | assumption | exact KB.refl _) (.inl ⟨by rfl, fun W hW => ?_⟩) ?_; rotate_left
      · (go_simp; first | done | with_reducible rfl)
      try simp only [Act.put, List.setIfInBounds_toArray, List.set_cons_zero, List.set_cons_succ]
      refine btakeE 8 [] (oi := _) (v := ?_) (by simp only [List.getElem?_toArray, List.getElem?_cons_succ, List.getElem?_cons_zero]; rfl) (by kernel_rfl) (by exact fun _ _ _ h => h) (by first | assumption | exact KB.refl _) (.inl ⟨by rfl, fun W hW => ?_⟩) ?_; rotate_left
      · refine Eq.trans (ex_ld32o (us := bv x.l) (by rfl) (by rfl) (fun j u hu => (hW.cell hgl).trans (HC.out.1 j u hu)) H32.out) ?_
        with_reducible rfl
      try simp only [Act.put, List.setIfInBounds_toArray, List.set_cons_zero, List.set_cons_succ]
      refine btakeE 9 [16, 15, 14, 12, 11, 10] (oi := _) (v := ?_) (by simp only [List.getElem?_toArray, List.getElem?_cons_succ, List.getElem?_cons_zero]; rfl) (by kernel_rfl) (by exact fun _ _ _ h => h) (by first | assumption | exact KB.refl _) (.inl ⟨by rfl, fun W hW => ?_⟩) ?_; rotate_left
      · (go_simp; first | done | with_reducible rfl)
      try simp only [Act.put, List.setIfInBounds_toArray, List.set_cons_zero, List.set_cons_succ]
      refine btakeE 10 [16, 15, 14, 12, 11] (oi := _) (v := ?_) (by simp only [List.getElem?_toArray, List.getElem?_cons_succ, List.getElem?_cons_zero]; rfl) (by kernel_rfl) (by exact fun _ _ _ h => h) (by first | assumption | exact KB.refl _) (.inl ⟨by rfl, fun W hW => ?_⟩) ?_; rotate_left
      · (go_simp; first | done | with_reducible rfl)
      try simp only [Act.put, List.setIfInBounds_toArray, List.set_cons_zero, List.set_cons_succ]
      refine btakeE 11 [16, 15, 14, 12] (oi := _) (v := ?_) (by simp only [List.getElem?_toArray, List.getElem?_cons_succ, List.getElem?_cons_zero]; rfl) (by kernel_rfl) (by exact fun _ _ _ h => h) (by first | assumption | exact KB.refl _) (.inl ⟨by rfl, fun W hW => ?_⟩) ?_; rotate_left
      · (go_simp; first | done | with_reducible rfl)
      try simp only [Act.put, List.setIfInBounds_toArray, List.set_cons_zero, List.set_cons_succ]
      refine btakeE 12 [16, 15, 14] (oi := _) (v := ?_) (by simp only [List.getElem?_toArray, List.getElem?_cons_succ, List.getElem?_cons_zero]; rfl) (by kernel_rfl) (by exact fun _ _ _ h => h) (by first | assumption | exact KB.refl _) (.inl ⟨by rfl, fun W hW => ?_⟩) ?_; rotate_left
      · (go_simp; first | done | with_reducible rfl)
      try simp only [Act.put, List.setIfInBounds_toArray, List.set_cons_zero, List.set_cons_succ]
      refine btakeE 13 [16, 15, 14] (oi := _) (v := ?_) (by simp only [List.getElem?_toArray, List.getElem?_cons_succ, List.getElem?_cons_zero]; rfl) (by kernel_rfl) (by exact fun _ _ _ h => h) (by first | assumption | exact KB.refl _) (.inl ⟨by rfl, fun W hW => ?_⟩) ?_; rotate_left
      · (go_simp; first | done | with_reducible rfl)
      try simp only [Act.put, List.setIfInBounds_toArray, List.set_cons_zero, List.set_cons_succ]
      refine btakeE 14 [16, 15] (oi := _) (v := ?_) (by simp only [List.getElem?_toArray, List.getElem?_cons_succ, List.getElem?_cons_zero]; rfl) (by kernel_rfl) (by exact fun _ _ _ h => h) (by first | assumption | exact KB.refl _) (.inl ⟨by rfl, fun W hW => ?_⟩) ?_; rotate_left
      · (go_simp; first | done | with_reducible rfl)
      try simp only [Act.put, List.setIfInBounds_toArray, List.set_cons_zero, List.set_cons_succ]
      refine btakeE 15 [16] (oi := _) (v := ?_) (by simp only [List.getElem?_toArray, List.getElem?_cons_succ, List.getElem?_cons_zero]; rfl) (by kernel_rfl) (by exact fun _ _ _ h => h) (by first | assumption | exact KB.refl _) (.inl ⟨by rfl, fun W hW => ?_⟩) ?_; rotate_left
      · (go_simp; first | done | with_reducible rfl)
      try simp only [Act.put, List.setIfInBounds_toArray, List.set_cons_zero, List.set_cons_succ]
      refine btakeE 16 [] (oi := _) (v := ?_) (by simp only [List.getElem?_toArray, List.getElem?_cons_succ, List.getElem?_cons_zero]; rfl) (by kernel_rfl) (by exact fun _ _ _ h => h) (by first | assumption | exact KB.refl _) (.inl ⟨by rfl, fun W hW => ?_⟩) ?_; rotate_left
      · (go_simp; first | done | with_reducible rfl)
      try simp only [Act.put, List.setIfInBounds_toArray, List.set_cons_zero, List.set_cons_succ]
      refine btakeE 17 [24, 23, 22, 20, 19, 18] (oi := _) (v := ?_) (by simp only [List.getElem?_toArray, List.getElem?_cons_succ, List.getElem?_cons_zero]; rfl) (by kernel_rfl) (by exact fun _ _ _ h => h) (by first | assumption | exact KB.refl _) (.inl ⟨by rfl, fun W hW => ?_⟩) ?_; rotate_left
      · (go_simp; first | done | with_reducible rfl)
      try simp only [Act.put, List.setIfInBounds_toArray, List.set_cons_zero, List.set_cons_succ]
      refine btakeE 18 [24, 23, 22, 20, 19] (oi := _) (v := ?_) (by simp only [List.getElem?_toArray, List.getElem?_cons_succ, List.getElem?_cons_zero]; rfl) (by kernel_rfl) (by exact fun _ _ _ h => h) (by first | assumption | exact KB.refl _) (.inl ⟨by rfl, fun W hW => ?_⟩) ?_; rotate_left
      · (go_simp; first | done | with_reducible rfl)
      try simp only [Act.put, List.setIfInBounds_toArray, List.set_cons_zero, List.set_cons_succ]
      refine btakeE 19 [24, 23, 22, 20] (oi := _) (v := ?_) (by simp only [List.getElem?_toArray, List.getElem?_cons_succ, List.getElem?_cons_zero]; rfl) (by kernel_rfl) (by exact fun _ _ _ h => h) (by first | assumption | exact KB.refl _) (.inl ⟨by rfl, fun W hW => ?_⟩) ?_; rotate_left
      · (go_simp; first | done | with_reducible rfl)
      try simp only [Act.put, List.setIfInBounds_toArray, List.set_cons_zero, List.set_cons_succ]
      refine btakeE 20 [24, 23, 22] (oi := _) (v := ?_) (by simp only [List.getElem?_toArray, List.getElem?_cons_succ, List.getElem?_cons_zero]; rfl) (by kernel_rfl) (by exact fun _ _ _ h => h) (by first | assumption | exact KB.refl _) (.inl ⟨by rfl, fun W hW => ?_⟩) ?_; rotate_left
      · (go_simp; first | done | with_reducible rfl)
      try simp only [Act.put, List.setIfInBounds_toArray, List.set_cons_zero, List.set_cons_succ]
      refine btakeE 21 [24, 23, 22] (oi := _) (v := ?_) (by simp only [List.getElem?_toArray, List.getElem?_cons_succ, List.getElem?_cons_zero]; rfl) (by kernel_rfl) (by exact fun _ _ _ h => h) (by first | assumption | exact KB.refl _) (.inl ⟨by rfl, fun W hW => ?_⟩) ?_; rotate_left
      · (go_simp; first | done | with_reducible rfl)
      try simp only [Act.put, List.setIfInBounds_toArray, List.set_cons_zero, List.set_cons_succ]
      refine btakeE 22 [24, 23] (oi := _) (v := ?_) (by simp only [List.getElem?_toArray, List.getElem?_cons_succ, List.getElem?_cons_zero]; rfl) (by kernel_rfl) (by exact fun _ _ _ h => h) (by first | assumption | exact KB.refl _) (.inl ⟨by rfl, fun W hW => ?_⟩) ?_; rotate_left
      · (go_simp; first | done | with_reducible rfl)
      try simp only [Act.put, List.setIfInBounds_toArray, List.set_cons_zero, List.set_cons_succ]
      refine btakeE 23 [24] (oi := _) (v := ?_) (by simp only [List.getElem?_toArray, List.getElem?_cons_succ, List.getElem?_cons_zero]; rfl) (by kernel_rfl) (by exact fun _ _ _ h => h) (by first | assumption | exact KB.refl _) (.inl ⟨by rfl, fun W hW => ?_⟩) ?_; rotate_left
      · (go_simp; first | done | with_reducible rfl)
      try simp only [Act.put, List.setIfInBounds_toArray, List.set_cons_zero, List.set_cons_succ]
      refine btakeE 24 [] (oi := _) (v := ?_) (by simp only [List.getElem?_toArray, List.getElem?_cons_succ, List.getElem?_cons_zero]; rfl) (by kernel_rfl) (by exact fun _ _ _ h => h) (by first | assumption | exact KB.refl _) (.inl ⟨by rfl, fun W hW => ?_⟩) ?_; rotate_left
      · (go_simp; first | done | with_reducible rfl)
      try simp only [Act.put, List.setIfInBounds_toArray, List.set_cons_zero, List.set_cons_succ]
      -- 25: (*newsreel/newsreelref16.Flags).Put
      refine blastE 25 (o := _) (by simp only [List.getElem?_toArray, List.getElem?_cons_succ, List.getElem?_cons_zero]; rfl) (by kernel_rfl) (by rfl) (by rfl) (fun K hK => ?_)
      go_simp
      refine (HP.out _ HX.out.1.drew).mono ?_
      rintro e w5 ⟨rfl, F5, h5, hF5, hg5⟩
      have H5 := Lib.hid (And.intro h5 (And.intro hF5 hg5))
      clear h5 hF5 hg5
      refine hK.out _ _ ?_; clear hK K
      try simp only
      refine bdoneE (by kernel_rfl) ?_
      clear f0 f1 f2 f3 f4 hS0 z0
      go_wp2_with fail
      go_roundw
      case rel =>
        have hj := join_snoc' R R2 k _ HC.out.2
        have hmr : (⟨p, l, r⟩ : S3).right = true := HF.out.2.facts.2 (x, ⟨⟨p, l, r⟩, on⟩) (List.mem_of_getElem? HC.out.2)
        have h5 := H5.out.1
        unfold putIf at h5
        rw [if_pos hmr] at h5
        have hd2 : ∀ k, F2 k → ¬ F' k := fun k hk hk' => by
          rcases HX.out.2.2.1 k hk' with h | h
          · exact HN.out.2.1 k hk h
          · have := HL2.out k hk
            omega
        refine ⟨k + 1, by go_num, HK.out, F5, by rw [hj]; exact h5, HX.out.2.1.drew.grew H5.out.2.2 hd2, fun i hi => ?_, HX.out.2.2.2.trans (show Grew F' wr w5 from ⟨H5.out.2.2.os, H5.out.2.2.tape, H5.out.2.2.output, H5.out.2.2.size, H5.out.2.2.block⟩) (fun i hi hi' => ?_)⟩
        · rcases H5.out.2.1 i hi with h | h
          · exact HX.out.2.2.1 i h
          · exact .inr (Nat.le_trans HX.out.2.2.2.size h)
        · rcases HX.out.2.2.1 i hi' with h | h
          · exact h
          · omega
      case measure => have := HK.out; simp [intOf]; omega
    · obtain rfl : k = n2 := by omega
      clear s2 a2
      go_wp2_with fail
      go_end0
      have h1 := HX.out.1
      rw [← HN.out.1, List.take_length] at h1
      exact ⟨rfl, F', h1, HX.out.2.2⟩
end Go.Proofs.Ytjijhmeagjhfoaa

