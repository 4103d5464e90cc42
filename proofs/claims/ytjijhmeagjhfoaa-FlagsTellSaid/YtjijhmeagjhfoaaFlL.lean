/- Flags: the law's alike. -/
import Derived.Test.YtjijhmeagjhfoaaFlH
namespace Go.Proofs.Ytjijhmeagjhfoaa
open Go.RowKit
set_option maxRecDepth 20000

set_option maxRecDepth 100000 in
set_option maxHeartbeats 3200000 in
theorem alike_any (w : World) (m b d : Nat) (F : Nat → Prop) (R : List FE) (h1 : FSt w m b R) (h2 : DS w d F R) (hn : R.length < 1000000) :
    Calls Try.prog 19 #[.pointer (some ⟨m, 0, none⟩), .pointer (some ⟨d, 0, none⟩)] w fun e w' => e = .returned (.bool true) ∧ Below w.heap.size w w' := by
  have HF := Lib.hid (And.intro h1 h2)
  obtain ⟨A2, c2, a2, s2, hc2, _, _⟩ := h2.sl
  have hml : (R.map (·.1)).length = R.length := List.length_map ..
  obtain ⟨n, hN⟩ : ∃ n, R.length = n := ⟨_, rfl⟩
  have HN := Lib.hid (And.intro hN (And.intro hn hml))
  have HLen := Lib.hid (fun W (h : FSt W m b R) => Len_any W m b R h)
  rw [hN] at HLen a2 hc2 hn
  have HA := Lib.hid (And.intro a2 (And.intro s2 hc2))
  have e2 := a2.e 0 rfl
  clear hN hml a2 s2 hc2 h1 h2
  go_enter Try.func19, Try.ntmps19
  go_wp2_with fail
  refine bstart (by kernel_rfl) ?_
  refine btake 0 (oi := _) (v := ?_) (by simp only [List.getElem?_toArray, List.getElem?_cons_zero]; rfl) (by kernel_rfl) (by exact fun _ _ _ h => h) (by first | assumption | exact KB.refl _) (.inl ⟨by rfl, fun W hW => ?_⟩) ?_; rotate_left
  · (go_simp; first | done | with_reducible rfl)
  try simp only [Act.put, List.setIfInBounds_toArray, List.set_cons_zero, List.set_cons_succ]
  -- 1: (*newsreel/flags.Map).Len
  refine bquiet 1 (oi := _) ?_ (by simp only [List.getElem?_toArray, List.getElem?_cons_succ, List.getElem?_cons_zero]; rfl) (by kernel_rfl) (by exact fun _ _ _ h => h) (by first | assumption | exact KB.refl _) (by rfl) (fun W hW => by go_simp; first | done | exact ⟨rfl, rfl⟩ | rfl) (fun W hW => ?_) ?_; rotate_left
  · exact HLen.out W (HF.out.1.kb hW)
  try simp only [Act.put, List.setIfInBounds_toArray, List.set_cons_zero, List.set_cons_succ]
  refine btake 2 (oi := _) (v := ?_) (by simp only [List.getElem?_toArray, List.getElem?_cons_succ, List.getElem?_cons_zero]; rfl) (by kernel_rfl) (by exact fun _ _ _ h => h) (by first | assumption | exact KB.refl _) (.inl ⟨by rfl, fun W hW => ?_⟩) ?_; rotate_left
  · (go_simp; first | done | with_reducible rfl)
  try simp only [Act.put, List.setIfInBounds_toArray, List.set_cons_zero, List.set_cons_succ]
  refine btake 3 (oi := _) (v := ?_) (by simp only [List.getElem?_toArray, List.getElem?_cons_succ, List.getElem?_cons_zero]; rfl) (by kernel_rfl) (by exact fun _ _ _ h => h) (by first | assumption | exact KB.refl _) (.inl ⟨by rfl, fun W hW => ?_⟩) ?_; rotate_left
  · (go_simp; first | done | with_reducible rfl)
  try simp only [Act.put, List.setIfInBounds_toArray, List.set_cons_zero, List.set_cons_succ]
  refine btake 4 (oi := _) (v := ?_) (by simp only [List.getElem?_toArray, List.getElem?_cons_succ, List.getElem?_cons_zero]; rfl) (by kernel_rfl) (by exact fun _ _ _ h => h) (by first | assumption | exact KB.refl _) (.inl ⟨by rfl, fun W hW => ?_⟩) ?_; rotate_left
  · (go_simp; first | done | with_reducible rfl)
  try simp only [Act.put, List.setIfInBounds_toArray, List.set_cons_zero, List.set_cons_succ]
  refine btake 5 (oi := _) (v := ?_) (by simp only [List.getElem?_toArray, List.getElem?_cons_succ, List.getElem?_cons_zero]; rfl) (by kernel_rfl) (by exact fun _ _ _ h => h) (by first | assumption | exact KB.refl _) (.inl ⟨by rfl, fun W hW => ?_⟩) ?_; rotate_left
  · (go_simp; first | done | with_reducible rfl)
  try simp only [Act.put, List.setIfInBounds_toArray, List.set_cons_zero, List.set_cons_succ]
  refine btake 6 (oi := _) (v := ?_) (by simp only [List.getElem?_toArray, List.getElem?_cons_succ, List.getElem?_cons_zero]; rfl) (by kernel_rfl) (by exact fun _ _ _ h => h) (by first | assumption | exact KB.refl _) (.inl ⟨by rfl, fun W hW => ?_⟩) ?_; rotate_left
  · (go_simp; first | done | with_reducible rfl)
  try simp only [Act.put, List.setIfInBounds_toArray, List.set_cons_zero, List.set_cons_succ]
  refine btake 7 (oi := _) (v := ?_) (by simp only [List.getElem?_toArray, List.getElem?_cons_succ, List.getElem?_cons_zero]; rfl) (by kernel_rfl) (by exact fun _ _ _ h => h) (by first | assumption | exact KB.refl _) (.inl ⟨by rfl, fun W hW => ?_⟩) ?_; rotate_left
  · (go_simp; first | done | with_reducible rfl)
  try simp only [Act.put, List.setIfInBounds_toArray, List.set_cons_zero, List.set_cons_succ]
  refine bdone (by kernel_rfl) ?_
  clear e2
  go_wp2_with fail
  refine (Ids_any w.drew m b R HF.out.1.drew (by have := HN.out.2.1; omega)).mono ?_
  rintro e w1 ⟨A, c, rfl, hsl, hc1, hcm, hb⟩
  have hbw : Below w.heap.size w w1 := Below.trans (Below.drew (Below.refl w.heap.size w)) hb
  rw [HN.out.2.2, HN.out.1] at hc1 ⊢
  have HI := Lib.hid (And.intro hsl (And.intro hc1 (And.intro hcm hbw)))
  have z2 := (HA.out.1.below hbw).c 0 rfl
  clear hsl hc1 hcm hb hbw
  go_wp2_with fail
  go_loopw [6] (fun i wr => ∃ k : Nat, i = .int .i64 (k : Int) ∧ k ≤ n ∧ Below w1.heap.size w1 wr) (fun i _ => n - (intOf i).toNat)
  case atStart => exact ⟨0, rfl, Nat.zero_le _, Below.refl _ _⟩
  case round =>
    obtain ⟨k, rfl, hk, hb⟩ := hrel
    have HB := Lib.hid hb
    by_cases hlt : k < n
    · obtain ⟨⟨x, M⟩, hx⟩ : ∃ e, R[k]? = some e := ⟨_, List.getElem?_eq_getElem (by rw [HN.out.1]; exact hlt)⟩
      obtain ⟨g1, o1, hA1, hg1, cs1⟩ := get_cell ((HI.out.1.below' hb).more hb.size) (k := k) (x := x) (by rw [List.getElem?_map, hx]; rfl)
      obtain ⟨g2, o2, hA2, hg2, cs2, _⟩ := flagAt (((HA.out.2.1.below' HI.out.2.2.2).more HI.out.2.2.2.size).below' hb |>.more hb.size) hx
      subst hA1 hA2
      have HC := Lib.hid (And.intro cs1 cs2)
      have H32 := Lib.hid (show (bv x.l).length = 32 by rw [bv_len, x.h])
      have f1 := ((HA.out.1.below HI.out.2.2.2).below hb).e 0 rfl
      have hx0 : (0 : Int) ≤ (k : Int) := by omega
      have hx1 : (k : Int) < (n : Int) := by omega
      clear cs1 cs2 hx hb
      go_wp2_with fail
      refine bstart (by kernel_rfl) ?_
      refine btake 0 (oi := _) (v := ?_) (by simp only [List.getElem?_toArray, List.getElem?_cons_zero]; rfl) (by kernel_rfl) (by exact fun _ _ _ h => h) (by first | assumption | exact KB.refl _) (.inl ⟨by rfl, fun W hW => ?_⟩) ?_; rotate_left
      · (go_simp; first | done | with_reducible rfl)
      try simp only [Act.put, List.setIfInBounds_toArray, List.set_cons_zero, List.set_cons_succ]
      refine btake 1 (oi := _) (v := ?_) (by simp only [List.getElem?_toArray, List.getElem?_cons_succ, List.getElem?_cons_zero]; rfl) (by kernel_rfl) (by exact fun _ _ _ h => h) (by first | assumption | exact KB.refl _) (.inl ⟨by rfl, fun W hW => ?_⟩) ?_; rotate_left
      · (go_simp; first | done | with_reducible rfl)
      try simp only [Act.put, List.setIfInBounds_toArray, List.set_cons_zero, List.set_cons_succ]
      refine btake 2 (oi := _) (v := ?_) (by simp only [List.getElem?_toArray, List.getElem?_cons_succ, List.getElem?_cons_zero]; rfl) (by kernel_rfl) (by exact fun _ _ _ h => h) (by first | assumption | exact KB.refl _) (.inl ⟨by rfl, fun W hW => ?_⟩) ?_; rotate_left
      · (go_simp; first | done | with_reducible rfl)
      try simp only [Act.put, List.setIfInBounds_toArray, List.set_cons_zero, List.set_cons_succ]
      refine btake 3 (oi := _) (v := ?_) (by simp only [List.getElem?_toArray, List.getElem?_cons_succ, List.getElem?_cons_zero]; rfl) (by kernel_rfl) (by exact fun _ _ _ h => h) (by first | assumption | exact KB.refl _) (.inl ⟨by rfl, fun W hW => ?_⟩) ?_; rotate_left
      · refine Eq.trans (ex_ld32o (us := bv x.l) (by rfl) (by rfl) (fun j u hu => (hW.cell hg1).trans (HC.out.1 j u hu)) H32.out) ?_
        with_reducible rfl
      try simp only [Act.put, List.setIfInBounds_toArray, List.set_cons_zero, List.set_cons_succ]
      refine btake 4 (oi := _) (v := ?_) (by simp only [List.getElem?_toArray, List.getElem?_cons_succ, List.getElem?_cons_zero]; rfl) (by kernel_rfl) (by exact fun _ _ _ h => h) (by first | assumption | exact KB.refl _) (.inl ⟨by rfl, fun W hW => ?_⟩) ?_; rotate_left
      · (go_simp; first | done | with_reducible rfl)
      try simp only [Act.put, List.setIfInBounds_toArray, List.set_cons_zero, List.set_cons_succ]
      refine btake 5 (oi := _) (v := ?_) (by simp only [List.getElem?_toArray, List.getElem?_cons_succ, List.getElem?_cons_zero]; rfl) (by kernel_rfl) (by exact fun _ _ _ h => h) (by first | assumption | exact KB.refl _) (.inl ⟨by rfl, fun W hW => ?_⟩) ?_; rotate_left
      · (go_simp; first | done | with_reducible rfl)
      try simp only [Act.put, List.setIfInBounds_toArray, List.set_cons_zero, List.set_cons_succ]
      refine btake 6 (oi := _) (v := ?_) (by simp only [List.getElem?_toArray, List.getElem?_cons_succ, List.getElem?_cons_zero]; rfl) (by kernel_rfl) (by exact fun _ _ _ h => h) (by first | assumption | exact KB.refl _) (.inl ⟨by rfl, fun W hW => ?_⟩) ?_; rotate_left
      · (go_simp; first | done | with_reducible rfl)
      try simp only [Act.put, List.setIfInBounds_toArray, List.set_cons_zero, List.set_cons_succ]
      refine btake 7 (oi := _) (v := ?_) (by simp only [List.getElem?_toArray, List.getElem?_cons_succ, List.getElem?_cons_zero]; rfl) (by kernel_rfl) (by exact fun _ _ _ h => h) (by first | assumption | exact KB.refl _) (.inl ⟨by rfl, fun W hW => ?_⟩) ?_; rotate_left
      · (go_simp; first | done | with_reducible rfl)
      try simp only [Act.put, List.setIfInBounds_toArray, List.set_cons_zero, List.set_cons_succ]
      refine btake 8 (oi := _) (v := ?_) (by simp only [List.getElem?_toArray, List.getElem?_cons_succ, List.getElem?_cons_zero]; rfl) (by kernel_rfl) (by exact fun _ _ _ h => h) (by first | assumption | exact KB.refl _) (.inl ⟨by rfl, fun W hW => ?_⟩) ?_; rotate_left
      · (go_simp; first | done | with_reducible rfl)
      try simp only [Act.put, List.setIfInBounds_toArray, List.set_cons_zero, List.set_cons_succ]
      refine btake 9 (oi := _) (v := ?_) (by simp only [List.getElem?_toArray, List.getElem?_cons_succ, List.getElem?_cons_zero]; rfl) (by kernel_rfl) (by exact fun _ _ _ h => h) (by first | assumption | exact KB.refl _) (.inl ⟨by rfl, fun W hW => ?_⟩) ?_; rotate_left
      · (go_simp; first | done | with_reducible rfl)
      try simp only [Act.put, List.setIfInBounds_toArray, List.set_cons_zero, List.set_cons_succ]
      refine btake 10 (oi := _) (v := ?_) (by simp only [List.getElem?_toArray, List.getElem?_cons_succ, List.getElem?_cons_zero]; rfl) (by kernel_rfl) (by exact fun _ _ _ h => h) (by first | assumption | exact KB.refl _) (.inl ⟨by rfl, fun W hW => ?_⟩) ?_; rotate_left
      · (go_simp; first | done | with_reducible rfl)
      try simp only [Act.put, List.setIfInBounds_toArray, List.set_cons_zero, List.set_cons_succ]
      refine btake 11 (oi := _) (v := ?_) (by simp only [List.getElem?_toArray, List.getElem?_cons_succ, List.getElem?_cons_zero]; rfl) (by kernel_rfl) (by exact fun _ _ _ h => h) (by first | assumption | exact KB.refl _) (.inl ⟨by rfl, fun W hW => ?_⟩) ?_; rotate_left
      · refine Eq.trans (ex_ld32o (us := bv x.l) (by rfl) (by rfl) (fun j u hu => (hW.cell hg2).trans (HC.out.2 j u hu)) H32.out) ?_
        with_reducible rfl
      try simp only [Act.put, List.setIfInBounds_toArray, List.set_cons_zero, List.set_cons_succ]
      refine btake 12 (oi := _) (v := ?_) (by simp only [List.getElem?_toArray, List.getElem?_cons_succ, List.getElem?_cons_zero]; rfl) (by kernel_rfl) (by exact fun _ _ _ h => h) (by first | assumption | exact KB.refl _) (.inl ⟨by rfl, fun W hW => ?_⟩) ?_; rotate_left
      · refine Eq.trans (ex_ne32f (l := x.l) (by rfl) (by rfl) (by rfl) x.h) ?_
        with_reducible rfl
      try simp only [Act.put, List.setIfInBounds_toArray, List.set_cons_zero, List.set_cons_succ]
      refine bdone (by kernel_rfl) ?_
      clear f1
      go_wp2_with fail
      go_roundw
      case rel => exact ⟨k + 1, by go_num, hlt, HB.out.drew⟩
      case measure => simp [intOf]; omega
    · obtain rfl : k = n := by omega
      clear hb
      go_wp2_with fail
      go_loopw [7] (fun i wr => ∃ q : Nat, i = .int .u8 (q : Int) ∧ q ≤ 8 ∧ Below w1.heap.size w1 wr) (fun i _ => 8 - (intOf i).toNat)
      case atStart => exact ⟨0, rfl, Nat.zero_le _, HB.out⟩
      case round =>
        obtain ⟨q, rfl, hq, hb⟩ := hrel
        have HB2 := Lib.hid hb
        clear hb
        by_cases hlt2 : q < 8
        · have f1 := HF.out.1.below (HI.out.2.2.2.trans (HB2.out.mono HI.out.2.2.2.size))
          have f2 := HF.out.2.below (HI.out.2.2.2.trans (HB2.out.mono HI.out.2.2.2.size))
          have HFF := Lib.hid (And.intro f1 f2)
          clear f1 f2
          obtain ⟨⟨⟨p, l, r⟩, on⟩, hM⟩ : ∃ M, (look R (idOf q)).getD zeroM = M := ⟨_, rfl⟩
          obtain ⟨is, hIs⟩ : ∃ is, (look R (idOf q)).isSome = is := ⟨_, rfl⟩
          have HG := Lib.hid (fun W (h : FSt W m b R) => Get_any W m b R h (idOf q))
          have HD := Lib.hid (fun W (h : DS W d F R) => DGet_any W d F R h (idOf q) (by have := HN.out.2.1; omega))
          rw [hM, hIs] at HG HD
          unfold S3.v at HG HD
          have hne := fun W => ne3 W ⟨p, l, r⟩ ⟨p, l, r⟩
          simp only [S3.v, decide_true, Bool.not_true] at hne
          have HNE := Lib.hid hne
          clear hM hIs hne
          have hqi : (q : Int) < 8 := by omega
          go_wp2_with fail
          refine (id_any wr q (by omega)).mono ?_
          rintro e w2 ⟨rfl, hb2⟩
          have H2 := Lib.hid hb2
          clear hb2
          go_wp2_with fail
          refine (HG.out w2 (HFF.out.1.below H2.out)).mono ?_
          rintro e w3 ⟨rfl, hb3⟩
          have H3 := Lib.hid (H2.out.trans (hb3.mono H2.out.size))
          clear hb3
          go_wp2_with fail
          have s4 := At.new w3 30 #[.int .i64 p, .int .i64 l, .int .i64 r]
          have H4 := Lib.hid (H3.out.alloc H3.out.size (.cells #[.int .i64 p, .int .i64 l, .int .i64 r] 30))
          generalize w3.alloc (.cells #[.int .i64 p, .int .i64 l, .int .i64 r] 30) = w4 at *
          generalize w3.heap.size = g9 at *
          refine (id_any w4 q (by omega)).mono ?_
          rintro e w5 ⟨rfl, hb5⟩
          have H5 := Lib.hid (And.intro (H4.out.trans (hb5.mono H4.out.size)) (s4.below hb5))
          clear hb5 s4
          go_wp2_with fail
          refine (HD.out w5 (HFF.out.2.below H5.out.1)).mono ?_
          rintro e w6 ⟨rfl, hb6⟩
          have s6 := (H5.out.2.below hb6).alloc (.cells #[.int .i64 p, .int .i64 l, .int .i64 r] 30)
          have t6 := At.new w6 30 #[.int .i64 p, .int .i64 l, .int .i64 r]
          have H6 := Lib.hid ((H5.out.1.trans (hb6.mono H5.out.1.size)).alloc (Nat.le_trans H5.out.1.size hb6.size) (.cells #[.int .i64 p, .int .i64 l, .int .i64 r] 30))
          have c0 := s6.c 0 rfl
          have c1 := s6.c 1 rfl
          have c2' := s6.c 2 rfl
          have d0 := t6.c 0 rfl
          have d1 := t6.c 1 rfl
          have d2 := t6.c 2 rfl
          have hne := HNE.out
          clear hb6 s6 t6
          go_wp2_with fail
          exact ⟨⟨q + 1, by go_num, by omega, HB2.out.trans (H6.out.mono HB2.out.size)⟩, by simp [intOf]; omega⟩
        · obtain rfl : q = 8 := by omega
          have hq8 : ¬ (((8 : Nat) : Int)) < 8 := by omega
          go_wp2_with fail
          go_ret
          exact ⟨rfl, HI.out.2.2.2.trans (HB2.out.mono HI.out.2.2.2.size)⟩
end Go.Proofs.Ytjijhmeagjhfoaa

