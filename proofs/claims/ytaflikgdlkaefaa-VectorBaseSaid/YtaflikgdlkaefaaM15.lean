/- Cursors: a byte, a number. -/
import Derived.Test.YtaflikgdlkaefaaM03
import Derived.Test.YtaflikgdlkaefaaM09
import Derived.Test.YtaflikgdlkaefaaM12
import Derived.Test.YtaflikgdlkaefaaM14
namespace Go.Proofs.Ytaflikgdlkaefaa
open Go.RowKit Go.Proofs.Ytaflikgdlkaefaa.Pl
set_option maxRecDepth 20000

section
variable {w w' : World} {g B : Nat} {A : Option Addr} {c : Nat} {b : List UInt8} {k e : Nat}
/-- what Number tells -/
def numR (b : List UInt8) (k e : Nat) : Nat × Nat × Nat := if e = 0 then ((takeS (b.drop k)).1, k + (takeS (b.drop k)).2.1, (takeS (b.drop k)).2.2) else (0, k, e)
set_option maxRecDepth 100000 in
set_option maxHeartbeats 1600000 in
theorem CNumber_any (h : CuS w g B A c b k e) : Calls Try.prog 47 #[.pointer (some ⟨g, 0, none⟩)] w fun r w' => r = .returned (.int .u64 ((numR b k e).1 : Int)) ∧ CuS w' g B A c b (numR b k e).2.1 (numR b k e).2.2 ∧ w.grownBy w' (some g) := by
  have c2 := h.at_.c 2 rfl
  by_cases he : e = 0
  · subst he
    have hn : numR b k 0 = ((takeS (b.drop k)).1, k + (takeS (b.drop k)).2.1, (takeS (b.drop k)).2.2) := rfl
    obtain ⟨⟨v, j, x⟩, ht⟩ : ∃ r, takeS (b.drop k) = r := ⟨_, rfl⟩
    have hj : k + j ≤ b.length := by
      have h1 : (takeS (b.drop k)).2.1 ≤ (b.drop k).length := by
        by_cases h0 : (takeS (b.drop k)).2.2 = 0
        · exact (takeS_ok _ h0).2.2.1
        · rw [(takeS_bad _ h0).2]; exact Nat.zero_le _
      have h2 := h.hk
      rw [ht, List.length_drop] at h1
      dsimp only at h1
      omega
    have hj0 : x ≠ 0 → j = 0 := fun h0 => by
      have := (takeS_bad (b.drop k) (by rw [ht]; exact h0)).2
      rw [ht] at this
      exact this
    rw [hn, ht]
    have HR := Lib.hid (CRest_any h)
    have HT := Lib.hid (fun W (hW : Below w.heap.size w W) => by
      have hcut := (h.sl.cut k c (by rw [bv_len]; exact h.hc)).below' hW
      rw [bv_drop] at hcut
      have := Take_any W B _ (c - k) (b.drop k) hcut (by rw [List.length_drop]; have := h.hc; omega) (by have := h.hm; omega)
      rw [ht, List.length_drop] at this
      exact this)
    have HS := Lib.hid (fun W (hW : Below w.heap.size w W) => CSkip_any (h.below hW) j x hj)
    have HX := Lib.hid hj0
    clear h hn ht hj hj0
    go_enter Try.func47, Try.ntmps47
    go_wp2_with fail
    refine HR.out.mono ?_
    rintro r w1 ⟨rfl, h1⟩
    have HT1 := Lib.hid (HT.out w1 h1)
    have HS1 := Lib.hid (HS.out w1 h1)
    have HB := Lib.hid h1
    clear h1
    generalize (if c = k then A else A.map (·.add k)) = A2 at *
    go_wp2_with fail
    refine HT1.out.mono ?_
    rintro r w2 ⟨rfl, rfl⟩
    go_wp2_with fail
    refine HS1.out.mono ?_
    rintro r w3 ⟨rfl, h3, h4⟩
    have h5 : CuS w3 g B A c b (k + j) x := by
      have e1 : erS 0 x = x := rfl
      rw [e1] at h3
      by_cases hx : x = 0
      · rw [if_pos hx] at h3; exact h3
      · rw [if_neg hx] at h3
        rw [HX.out hx]
        exact h3
    have HF := Lib.hid (And.intro h5 (grownT (grownB HB.out) h4))
    clear h3 h4 h5
    go_wp2_with fail
    go_ret
    exact ⟨rfl, HF.out.1, HF.out.2⟩
  · have hb : ((e : Int) != 0) = true := by rw [bne_iff_ne]; omega
    have hn : numR b k e = (0, k, e) := by unfold numR; rw [if_neg he]
    rw [hn]
    have HE := Lib.hid h
    clear h he hn
    go_enter Try.func47, Try.ntmps47
    go_wp2_with fail
    go_ret
    exact ⟨rfl, HE.out, grownR _ _⟩
/-- what Byte tells, where no error is -/
def byteR (b : List UInt8) (k : Nat) : Nat × Nat × Nat := if b.length ≤ k then (0, k, 20) else (at_ b k, k + 1, 0)
set_option maxRecDepth 100000 in
set_option maxHeartbeats 1600000 in
theorem CBytes1_short (h : CuS w g B A c b k 0) (hs : b.length ≤ k) : Calls Try.prog 77 #[.pointer (some ⟨g, 0, none⟩), .int .i64 1] w fun r w' => ∃ A1, r = .returned (.slice A1 1 1) ∧ Sl w' w'.heap.size A1 (bv [0]) ∧ CuS w' g B A c b k 20 ∧ w.grownBy w' (some g) := by
  have HL := Lib.hid (CLeft_any h)
  have HF := Lib.hid (fun W (hW : Below w.heap.size w W) => CFail_any (h.below hW) 20)
  have hz : b.length - k = 0 := by omega
  rw [hz] at HL
  clear h hs hz
  go_enter Try.func77, Try.ntmps77
  go_wp2_with fail
  refine HL.out.mono ?_
  rintro r w1 ⟨rfl, h1⟩
  have HF1 := Lib.hid (HF.out w1 h1)
  have HB := Lib.hid h1
  clear h1
  go_wp2_with fail
  refine HF1.out.mono ?_
  rintro r w2 ⟨rfl, h2, h3⟩
  have e1 : erS 0 20 = 20 := rfl
  rw [e1] at h2
  have c2 := h2.at_.c 2 rfl
  have HG := Lib.hid (And.intro h2 (grownT (grownB HB.out) h3))
  clear h2 h3
  go_wp2_with (at_make; refine mkZ (n := 1) rfl rfl rfl rfl (by rfl) (by rfl) (by omega) ?_; intro w3 hown3 hg3)
  have h4 := HG.out.1.grown hg3 (fun r e => by cases e)
  have h5 := grownT HG.out.2 (grownB (Below.grown (Below.refl w2.heap.size w2) hg3 (Nat.le_refl _) (fun r e => by cases e)))
  obtain ⟨A6, c6, e6, _, _, h6, _⟩ := hown3.form
  injection e6 with e6 _ _
  go_ret
  exact ⟨_, rfl, e6 ▸ h6, h4, h5⟩
set_option maxRecDepth 100000 in
set_option maxHeartbeats 1600000 in
theorem CBytes1_ok (h : CuS w g B A c b k 0) {x : UInt8} (hx : b[k]? = some x) : Calls Try.prog 77 #[.pointer (some ⟨g, 0, none⟩), .int .i64 1] w fun r w' => ∃ A1, r = .returned (.slice A1 1 1) ∧ Sl w' w'.heap.size A1 (bv [x]) ∧ CuS w' g B A c b (k + 1) 0 ∧ w.grownBy w' (some g) := by
  have HL := Lib.hid (CLeft_any h)
  have HH := Lib.hid h
  obtain ⟨hs, hxe⟩ := List.getElem?_eq_some_iff.1 hx
  have hd : decide (((b.length - k : Nat) : Int) < 1) = false := by rw [decide_eq_false_iff_not]; omega
  have hw : IntKind.i64.wrap ((k : Int) + 1) = (k : Int) + 1 := by have := h.hc; have := h.hm; simp only [maxLen] at this; rw [IntKind.wrap_i64]; omega
  clear h
  go_enter Try.func77, Try.ntmps77
  go_wp2_with fail
  refine HL.out.mono ?_
  rintro r w1 ⟨rfl, h1⟩
  have h2 := HH.out.below h1
  have c1 := h2.at_.c 1 rfl
  have c2 := h2.at_.c 2 rfl
  have f1 := h2.at_.f 1 rfl
  have h3 : CuS (w1.setCell ⟨g, 1, none⟩ (.int .i64 ((k : Int) + 1))) g B A c b (k + 1) 0 := h2.go (k' := k + 1) hs
  have HG := Lib.hid (And.intro h3 (grownT (grownB h1) (grownC w1 g 1 (.int .i64 ((k : Int) + 1)))))
  clear h1 h2 h3
  go_wp2_with fail
  generalize w1.setCell ⟨g, 1, none⟩ (.int .i64 ((k : Int) + 1)) = w2 at *
  have c0 := HG.out.1.at_.e 0 rfl
  have c4 := HG.out.1.at_.e 1 rfl
  have hw2 : IntKind.i64.wrap (k : Int) = (k : Int) := by have := HH.out.hc; have := HH.out.hm; simp only [maxLen] at this; rw [IntKind.wrap_i64]; omega
  have z1 : (0 : Int) ≤ (k : Int) + 1 := by omega
  have z2 : (k : Int) + 1 ≤ (c : Int) := by have := HH.out.hc; omega
  have hsl := (((HG.out.1.sl.cut k c (by rw [bv_len]; exact HG.out.1.hc)).more (show B ≤ w2.heap.size from Nat.le_trans HG.out.1.hB (Nat.le_of_lt HG.out.1.at_.lt))).tk 1)
  rw [if_neg (by omega), bv_drop, bv_take, List.drop_eq_getElem_cons hs, List.take_succ_cons, List.take_zero, hxe] at hsl
  have HSL := Lib.hid hsl
  clear c1 c2 f1 hw hsl hxe hx
  refine bstart (by kernel_rfl) ?_
  refine btake 0 (oi := _) (v := ?_) (by simp only [List.getElem?_toArray, List.getElem?_cons_zero]; rfl) (by kernel_rfl) (by exact fun _ _ _ h => h) (by first | assumption | exact KB.refl _) (.inl ⟨by rfl, fun W hW => ?_⟩) ?_; rotate_left
  · (go_simp; first | done | with_reducible rfl)
  try simp only [Act.put, List.setIfInBounds_toArray, List.set_cons_zero, List.set_cons_succ]
  refine btake 1 (oi := _) (v := ?_) (by simp only [List.getElem?_toArray, List.getElem?_cons_succ, List.getElem?_cons_zero]; rfl) (by kernel_rfl) (by exact fun _ _ _ h => h) (by first | assumption | exact KB.refl _) (.inl ⟨by rfl, fun W hW => ?_⟩) ?_; rotate_left
  · (go_simp; first | done | with_reducible rfl)
  try simp only [Act.put, List.setIfInBounds_toArray, List.set_cons_zero, List.set_cons_succ]
  refine btake 2 (oi := _) (v := ?_) (by simp only [List.getElem?_toArray, List.getElem?_cons_succ, List.getElem?_cons_zero]; rfl) (by kernel_rfl) (by exact fun _ _ _ h => h) (by first | assumption | exact KB.refl _) (.inl ⟨by rfl, fun W hW => ?_⟩) ?_; rotate_left
  · (go_simp; first | done | with_reducible rfl)
  try simp only [Act.put, List.setIfInBounds_toArray, List.set_cons_zero, List.set_cons_succ]
  refine btake 3 (oi := _) (v := ?_) (by simp only [List.getElem?_toArray, List.getElem?_cons_succ, List.getElem?_cons_zero]; rfl) (by kernel_rfl) (by exact fun _ _ _ h => h) (by first | assumption | exact KB.refl _) (.inl ⟨by rfl, fun W hW => ?_⟩) ?_; rotate_left
  · (go_simp; first | done | with_reducible rfl)
  try simp only [Act.put, List.setIfInBounds_toArray, List.set_cons_zero, List.set_cons_succ]
  refine btake 4 (oi := _) (v := ?_) (by simp only [List.getElem?_toArray, List.getElem?_cons_succ, List.getElem?_cons_zero]; rfl) (by kernel_rfl) (by exact fun _ _ _ h => h) (by first | assumption | exact KB.refl _) (.inl ⟨by rfl, fun W hW => ?_⟩) ?_; rotate_left
  · (go_simp; first | done | with_reducible rfl)
  try simp only [Act.put, List.setIfInBounds_toArray, List.set_cons_zero, List.set_cons_succ]
  refine btake 5 (oi := _) (v := ?_) (by simp only [List.getElem?_toArray, List.getElem?_cons_succ, List.getElem?_cons_zero]; rfl) (by kernel_rfl) (by exact fun _ _ _ h => h) (by first | assumption | exact KB.refl _) (.inl ⟨by rfl, fun W hW => ?_⟩) ?_; rotate_left
  · (go_simp; first | done | with_reducible rfl)
  try simp only [Act.put, List.setIfInBounds_toArray, List.set_cons_zero, List.set_cons_succ]
  refine btake 6 (oi := _) (v := ?_) (by simp only [List.getElem?_toArray, List.getElem?_cons_succ, List.getElem?_cons_zero]; rfl) (by kernel_rfl) (by exact fun _ _ _ h => h) (by first | assumption | exact KB.refl _) (.inl ⟨by rfl, fun W hW => ?_⟩) ?_; rotate_left
  · (go_simp; first | done | with_reducible rfl)
  try simp only [Act.put, List.setIfInBounds_toArray, List.set_cons_zero, List.set_cons_succ]
  refine btake 7 (oi := _) (v := ?_) (by simp only [List.getElem?_toArray, List.getElem?_cons_succ, List.getElem?_cons_zero]; rfl) (by kernel_rfl) (by exact fun _ _ _ h => h) (by first | assumption | exact KB.refl _) (.inl ⟨by rfl, fun W hW => ?_⟩) ?_; rotate_left
  · (go_simp; first | done | with_reducible rfl)
  try simp only [Act.put, List.setIfInBounds_toArray, List.set_cons_zero, List.set_cons_succ]
  refine btake 8 (oi := _) (v := ?_) (by simp only [List.getElem?_toArray, List.getElem?_cons_succ, List.getElem?_cons_zero]; rfl) (by kernel_rfl) (by exact fun _ _ _ h => h) (by first | assumption | exact KB.refl _) (.inl ⟨by rfl, fun W hW => ?_⟩) ?_; rotate_left
  · (go_simp; first | done | with_reducible rfl)
  try simp only [Act.put, List.setIfInBounds_toArray, List.set_cons_zero, List.set_cons_succ]
  refine btake 9 (oi := _) (v := ?_) (by simp only [List.getElem?_toArray, List.getElem?_cons_succ, List.getElem?_cons_zero]; rfl) (by kernel_rfl) (by exact fun _ _ _ h => h) (by first | assumption | exact KB.refl _) (.inl ⟨by rfl, fun W hW => ?_⟩) ?_; rotate_left
  · (go_simp; first | done | with_reducible rfl)
  try simp only [Act.put, List.setIfInBounds_toArray, List.set_cons_zero, List.set_cons_succ]
  refine btake 10 (oi := _) (v := ?_) (by simp only [List.getElem?_toArray, List.getElem?_cons_succ, List.getElem?_cons_zero]; rfl) (by kernel_rfl) (by exact fun _ _ _ h => h) (by first | assumption | exact KB.refl _) (.inl ⟨by rfl, fun W hW => ?_⟩) ?_; rotate_left
  · (go_simp; first | done | with_reducible rfl)
  try simp only [Act.put, List.setIfInBounds_toArray, List.set_cons_zero, List.set_cons_succ]
  refine btake 11 (oi := _) (v := ?_) (by simp only [List.getElem?_toArray, List.getElem?_cons_succ, List.getElem?_cons_zero]; rfl) (by kernel_rfl) (by exact fun _ _ _ h => h) (by first | assumption | exact KB.refl _) (.inl ⟨by rfl, fun W hW => ?_⟩) ?_; rotate_left
  · (go_simp; first | done | with_reducible rfl)
  try simp only [Act.put, List.setIfInBounds_toArray, List.set_cons_zero, List.set_cons_succ]
  refine btake 12 (oi := _) (v := ?_) (by simp only [List.getElem?_toArray, List.getElem?_cons_succ, List.getElem?_cons_zero]; rfl) (by kernel_rfl) (by exact fun _ _ _ h => h) (by first | assumption | exact KB.refl _) (.inl ⟨by rfl, fun W hW => ?_⟩) ?_; rotate_left
  · (go_simp; first | done | with_reducible rfl)
  try simp only [Act.put, List.setIfInBounds_toArray, List.set_cons_zero, List.set_cons_succ]
  refine btake 13 (oi := _) (v := ?_) (by simp only [List.getElem?_toArray, List.getElem?_cons_succ, List.getElem?_cons_zero]; rfl) (by kernel_rfl) (by exact fun _ _ _ h => h) (by first | assumption | exact KB.refl _) (.inl ⟨by rfl, fun W hW => ?_⟩) ?_; rotate_left
  · (go_simp; first | done | with_reducible rfl)
  try simp only [Act.put, List.setIfInBounds_toArray, List.set_cons_zero, List.set_cons_succ]
  refine btake 14 (oi := _) (v := ?_) (by simp only [List.getElem?_toArray, List.getElem?_cons_succ, List.getElem?_cons_zero]; rfl) (by kernel_rfl) (by exact fun _ _ _ h => h) (by first | assumption | exact KB.refl _) (.inl ⟨by rfl, fun W hW => ?_⟩) ?_; rotate_left
  · (go_simp; first | done | with_reducible rfl)
  try simp only [Act.put, List.setIfInBounds_toArray, List.set_cons_zero, List.set_cons_succ]
  refine btake 15 (oi := _) (v := ?_) (by simp only [List.getElem?_toArray, List.getElem?_cons_succ, List.getElem?_cons_zero]; rfl) (by kernel_rfl) (by exact fun _ _ _ h => h) (by first | assumption | exact KB.refl _) (.inl ⟨by rfl, fun W hW => ?_⟩) ?_; rotate_left
  · (go_simp; first | done | with_reducible rfl)
  try simp only [Act.put, List.setIfInBounds_toArray, List.set_cons_zero, List.set_cons_succ]
  refine btake 16 (oi := _) (v := ?_) (by simp only [List.getElem?_toArray, List.getElem?_cons_succ, List.getElem?_cons_zero]; rfl) (by kernel_rfl) (by exact fun _ _ _ h => h) (by first | assumption | exact KB.refl _) (.inl ⟨by rfl, fun W hW => ?_⟩) ?_; rotate_left
  · (go_simp; first | done | with_reducible rfl)
  try simp only [Act.put, List.setIfInBounds_toArray, List.set_cons_zero, List.set_cons_succ]
  refine btake 17 (oi := _) (v := ?_) (by simp only [List.getElem?_toArray, List.getElem?_cons_succ, List.getElem?_cons_zero]; rfl) (by kernel_rfl) (by exact fun _ _ _ h => h) (by first | assumption | exact KB.refl _) (.inl ⟨by rfl, fun W hW => ?_⟩) ?_; rotate_left
  · (go_simp; first | done | with_reducible rfl)
  try simp only [Act.put, List.setIfInBounds_toArray, List.set_cons_zero, List.set_cons_succ]
  refine btake 18 (oi := _) (v := ?_) (by simp only [List.getElem?_toArray, List.getElem?_cons_succ, List.getElem?_cons_zero]; rfl) (by kernel_rfl) (by exact fun _ _ _ h => h) (by first | assumption | exact KB.refl _) (.inl ⟨by rfl, fun W hW => ?_⟩) ?_; rotate_left
  · (go_simp; first | done | with_reducible rfl)
  try simp only [Act.put, List.setIfInBounds_toArray, List.set_cons_zero, List.set_cons_succ]
  refine btake 19 (oi := _) (v := ?_) (by simp only [List.getElem?_toArray, List.getElem?_cons_succ, List.getElem?_cons_zero]; rfl) (by kernel_rfl) (by exact fun _ _ _ h => h) (by first | assumption | exact KB.refl _) (.inl ⟨by rfl, fun W hW => ?_⟩) ?_; rotate_left
  · (go_simp; first | done | with_reducible rfl)
  try simp only [Act.put, List.setIfInBounds_toArray, List.set_cons_zero, List.set_cons_succ]
  refine bdone (by kernel_rfl) ?_
  go_wp2_with fail
  go_ret
  exact ⟨_, rfl, HSL.out, HG.out.1.drew, grownT HG.out.2 (grownB (Below.refl _ _).drew)⟩
set_option maxRecDepth 100000 in
set_option maxHeartbeats 1600000 in
theorem CByte_any (h : CuS w g B A c b k 0) : Calls Try.prog 68 #[.pointer (some ⟨g, 0, none⟩)] w fun r w' => r = .returned (.int .u8 ((byteR b k).1 : Int)) ∧ CuS w' g B A c b (byteR b k).2.1 (byteR b k).2.2 ∧ w.grownBy w' (some g) := by
  obtain ⟨x, k', e', hx, hC⟩ : ∃ (x : UInt8) (k' e' : Nat), byteR b k = (x.toNat, k', e') ∧ Calls Try.prog 77 #[.pointer (some ⟨g, 0, none⟩), .int .i64 1] w fun r w' => ∃ A1, r = .returned (.slice A1 1 1) ∧ Sl w' w'.heap.size A1 (bv [x]) ∧ CuS w' g B A c b k' e' ∧ w.grownBy w' (some g) := by
    by_cases hs : b.length ≤ k
    · exact ⟨0, k, 20, by rw [byteR, if_pos hs]; rfl, CBytes1_short h hs⟩
    · obtain ⟨x, hx⟩ : ∃ x, b[k]? = some x := ⟨_, List.getElem?_eq_getElem (by omega)⟩
      exact ⟨x, k + 1, 0, by rw [byteR, if_neg hs, at_, hx]; rfl, CBytes1_ok h hx⟩
  rw [hx]
  have HC := Lib.hid hC
  clear h hx hC
  go_enter Try.func68, Try.ntmps68
  go_wp2_with fail
  refine HC.out.mono ?_
  rintro r w1 ⟨A1, rfl, h1, h2, h3⟩
  obtain ⟨b1, o1, rfl, _, _, hc⟩ := h1.at_ (k := 0) (by simp)
  have c0 := hc 0 _ (show (bv [x])[0]? = some (.int .u8 (x.toNat : Int)) from rfl)
  rw [Nat.add_zero] at c0
  have HG := Lib.hid (And.intro h2 h3)
  clear h1 h2 h3 hc
  go_wp2_with fail
  go_ret
  exact ⟨rfl, HG.out.1, HG.out.2⟩
set_option maxRecDepth 100000 in
set_option maxHeartbeats 1600000 in
theorem CNew_any (w : World) (A : Option Addr) (c : Nat) (b : List UInt8) (hb : Sl w w.heap.size A (bv b)) (hc : b.length ≤ c) (hm : c ≤ maxLen) : Calls Try.prog 46 #[.slice A b.length c, .int .i64 0] w fun r w' => r = .returned (.pointer (some ⟨w.heap.size, 0, none⟩)) ∧ CuS w' w.heap.size w.heap.size A c b 0 0 ∧ Below w.heap.size w w' := by
  have h0 : CuS (w.alloc (.cells #[.slice A b.length c, .int .i64 0, .int .i64 0] 94)) w.heap.size w.heap.size A c b 0 0 :=
    ⟨At.new w 94 #[.slice A b.length c, .int .i64 0, .int .i64 0], hb.alloc _, Nat.le_refl _, hc, hm, Nat.zero_le _⟩
  have HE := Lib.hid (And.intro h0 (balloc (Below.refl w.heap.size w) (.cells #[.slice A b.length c, .int .i64 0, .int .i64 0] 94)))
  clear h0 hb hc hm
  go_enter Try.func46, Try.ntmps46
  go_wp2_with fail
  go_ret
  exact ⟨rfl, HE.out.1, HE.out.2⟩
end
end Go.Proofs.Ytaflikgdlkaefaa
/- Vectors: what the program's cursor tells of a row, step by step. -/
namespace Go.Proofs.Ytaflikgdlkaefaa.Ve
open Go.Proofs.Ytaflikgdlkaefaa.Sp Go.Proofs.Ytaflikgdlkaefaa.Dt Go.Proofs.Ytaflikgdlkaefaa.Pl

/-- a row from k on: its ranges, how far, the error -/
def rowE (b : List UInt8) (last : Int) (k : Nat) : List Rg × Nat × Nat :=
  if b.length ≤ k then ([], 0, 20) else if 64 ≤ at_ b k ∨ (at_ b k : Int) ≤ last then ([], 0, 21) else rowS b (k + 1)
theorem goT_row (b : List UInt8) (m : Nat) (V : VL) (last : Int) (k : Nat) : goT b (m + 1) V last k = if (rowE b last k).2.2 ≠ 0 then ([], 0, (rowE b last k).2.2) else goT b m (V ++ [((at_ b k : Int), (rowE b last k).1)]) (at_ b k : Int) (rowE b last k).2.1 := by
  rw [goT]
  unfold rowE
  by_cases h1 : b.length ≤ k
  · rw [if_pos h1, if_pos h1, if_pos (by simp)]
  · rw [if_neg h1, if_neg h1]
    by_cases h2 : 64 ≤ at_ b k ∨ (at_ b k : Int) ≤ last
    · rw [if_pos h2, if_pos h2, if_pos (by simp)]
    · rw [if_neg h2, if_neg h2]
/-- two numbers by the cursor -/
theorem num_two {b : List UInt8} {k x k2 e3 y k3 e4 : Nat} (h1 : numR b k 0 = (x, k2, e3)) (h2 : numR b k2 e3 = (y, k3, e4)) :
    (e4 ≠ 0 → (twoS (b.drop k)).2.2.2 = e4) ∧ (e4 = 0 → twoS (b.drop k) = (x, y, k3 - k, 0) ∧ k + 2 ≤ k3) := by
  unfold numR at h1
  rw [if_pos rfl] at h1
  simp only [Prod.mk.injEq] at h1
  obtain ⟨a1, a2, a3⟩ := h1
  unfold twoS
  unfold numR at h2
  by_cases he : e3 = 0
  · rw [if_pos he] at h2
    simp only [Prod.mk.injEq] at h2
    obtain ⟨b1, b2, b3⟩ := h2
    rw [a3, if_neg (by omega), List.drop_drop, a2, b3]
    have t1 := (takeS_ok (b.drop k) (by rw [a3, he])).1
    refine ⟨fun h => by rw [if_pos h], fun h => ?_⟩
    have t2 := (takeS_ok (b.drop k2) (by rw [b3, h])).1
    rw [if_neg (by omega), a1, b1]
    refine ⟨?_, by omega⟩
    simp only [Prod.mk.injEq, true_and, and_true]
    omega
  · rw [if_neg he] at h2
    simp only [Prod.mk.injEq] at h2
    obtain ⟨b1, b2, b3⟩ := h2
    rw [a3, if_pos he]
    exact ⟨fun _ => b3, fun h => by omega⟩
/-- the cursor's error behind a question -/
def askE (p : Bool) (e : Nat) : Nat := if p = true then e else erS e 21
theorem askE_t (e : Nat) : askE true e = e := rfl
theorem askE_f (e : Nat) : askE false e = if e = 0 then 21 else e := rfl
theorem askE_z {p : Bool} {e : Nat} : askE p e = 0 ↔ p = true ∧ e = 0 := by
  cases p with
  | true => simp [askE]
  | false =>
    rw [askE_f]
    split
    · simp
    · simp [*]
/-- one range more -/
theorem goG_step {b : List UInt8} {m : Nat} {o : List Rg} {ed k x k2 e3 y k3 e4 : Nat} (h1 : numR b k 0 = (x, k2, e3)) (h2 : numR b k2 e3 = (y, k3, e4)) :
    (askE (decide (ed + 2 + min x Mx + min y Mx ≤ Mx)) e4 ≠ 0 → (goG b (m + 1) o ed k).2.2 = askE (decide (ed + 2 + min x Mx + min y Mx ≤ Mx)) e4) ∧
    (askE (decide (ed + 2 + min x Mx + min y Mx ≤ Mx)) e4 = 0 → ed + 2 + min x Mx + min y Mx ≤ Mx ∧ k + 2 ≤ k3 ∧
      goG b (m + 1) o ed k = goG b m (o ++ [⟨((ed + 2 + min x Mx : Nat) : Int), ((ed + 2 + min x Mx + min y Mx : Nat) : Int)⟩]) (ed + 2 + min x Mx + min y Mx) k3) := by
  obtain ⟨n1, n2⟩ := num_two h1 h2
  rw [goG]
  by_cases h4 : e4 = 0
  · subst h4
    obtain ⟨t1, t2⟩ := n2 rfl
    rw [t1]
    dsimp only
    rw [if_neg (by simp)]
    by_cases hb : ed + 2 + min x Mx + min y Mx ≤ Mx
    · rw [decide_eq_true hb, askE_t, if_neg (by omega)]
      have hx : min x Mx = x := by omega
      have hy : min y Mx = y := by omega
      refine ⟨fun h => absurd rfl h, fun _ => ⟨hb, t2, ?_⟩⟩
      rw [hx, hy, show k + (k3 - k) = k3 by omega]
    · rw [decide_eq_false hb, askE_f, if_pos rfl, if_pos (by omega)]
      exact ⟨fun _ => rfl, fun h => absurd h (by omega)⟩
  · have e5 : askE (decide (ed + 2 + min x Mx + min y Mx ≤ Mx)) e4 = e4 := by
      unfold askE erS
      rw [if_neg h4]
      split <;> rfl
    rw [e5, n1 h4, if_pos h4]
    exact ⟨fun _ => rfl, fun h => absurd h h4⟩
/-- the row's head -/
theorem rowE_head {b : List UInt8} {last : Int} {k x k1 e1 base k2 e3 n k3 e4 : Nat} (h0 : byteR b k = (x, k1, e1)) {e2 : Nat} (h1 : e2 = askE (decide (last < (x : Int)) && decide ((x : Int) < 64)) e1)
    (h2 : numR b k1 e2 = (base, k2, e3)) (h3 : numR b k2 e3 = (n, k3, e4)) {e5 : Nat} (h5 : e5 = askE (decide (base ≤ Mx) && (decide (0 < base) || decide (0 < n))) e4) :
    (e5 ≠ 0 → (rowE b last k).2.2 = e5) ∧ (e5 = 0 → base ≤ Mx ∧ k + 3 ≤ k3 ∧ x = at_ b k ∧ k < b.length ∧ rowE b last k = goG b n (baseR base) base k3) := by
  unfold byteR at h0
  unfold rowE
  by_cases hk : b.length ≤ k
  · rw [if_pos hk] at h0 ⊢
    simp only [Prod.mk.injEq] at h0
    obtain ⟨rfl, rfl, rfl⟩ := h0
    have e2' : e2 = 20 := by
      rw [h1]
      unfold askE erS
      split <;> rfl
    subst e2'
    have e3' : e3 = 20 := by
      unfold numR at h2
      rw [if_neg (by omega)] at h2
      simp only [Prod.mk.injEq] at h2
      exact h2.2.2.symm
    subst e3'
    have e4' : e4 = 20 := by
      unfold numR at h3
      rw [if_neg (by omega)] at h3
      simp only [Prod.mk.injEq] at h3
      exact h3.2.2.symm
    subst e4'
    have e5' : e5 = 20 := by
      rw [h5]
      unfold askE erS
      split <;> rfl
    subst e5'
    exact ⟨fun _ => rfl, fun h => by omega⟩
  · rw [if_neg hk] at h0 ⊢
    simp only [Prod.mk.injEq] at h0
    obtain ⟨rfl, rfl, rfl⟩ := h0
    by_cases hq : 64 ≤ at_ b k ∨ (at_ b k : Int) ≤ last
    · rw [if_pos hq]
      have e2' : e2 = 21 := by
        rw [h1]
        have : (decide (last < (at_ b k : Int)) && decide ((at_ b k : Int) < 64)) = false := by
          rw [Bool.and_eq_false_iff, decide_eq_false_iff_not, decide_eq_false_iff_not]; omega
        rw [this]
        rfl
      subst e2'
      have e3' : e3 = 21 := by
        unfold numR at h2
        rw [if_neg (by omega)] at h2
        simp only [Prod.mk.injEq] at h2
        exact h2.2.2.symm
      subst e3'
      have e4' : e4 = 21 := by
        unfold numR at h3
        rw [if_neg (by omega)] at h3
        simp only [Prod.mk.injEq] at h3
        exact h3.2.2.symm
      subst e4'
      have e5' : e5 = 21 := by
        rw [h5]
        unfold askE erS
        split <;> rfl
      subst e5'
      exact ⟨fun _ => rfl, fun h => by omega⟩
    · rw [if_neg hq]
      have e2' : e2 = 0 := by
        rw [h1]
        have : (decide (last < (at_ b k : Int)) && decide ((at_ b k : Int) < 64)) = true := by
          rw [Bool.and_eq_true, decide_eq_true_eq, decide_eq_true_eq]; omega
        rw [this]
        rfl
      subst e2'
      obtain ⟨n1, n2⟩ := num_two h2 h3
      unfold rowS
      by_cases h4 : e4 = 0
      · subst h4
        obtain ⟨t1, t2⟩ := n2 rfl
        rw [t1]
        dsimp only
        rw [if_neg (by simp)]
        by_cases hf : Mx < base ∨ base = 0 ∧ n = 0
        · rw [if_pos hf]
          have e5' : e5 = 21 := by
            rw [h5]
            have : (decide (base ≤ Mx) && (decide (0 < base) || decide (0 < n))) = false := by
              rw [Bool.and_eq_false_iff, Bool.or_eq_false_iff, decide_eq_false_iff_not, decide_eq_false_iff_not, decide_eq_false_iff_not]; omega
            rw [this]
            rfl
          subst e5'
          exact ⟨fun _ => rfl, fun h => by omega⟩
        · rw [if_neg hf]
          have e5' : e5 = 0 := by
            rw [h5]
            have : (decide (base ≤ Mx) && (decide (0 < base) || decide (0 < n))) = true := by
              rw [Bool.and_eq_true, Bool.or_eq_true, decide_eq_true_eq, decide_eq_true_eq, decide_eq_true_eq]; omega
            rw [this]
            rfl
          subst e5'
          refine ⟨fun h => absurd rfl h, fun _ => ⟨by omega, by omega, rfl, by omega, ?_⟩⟩
          rw [show k + 1 + (k3 - (k + 1)) = k3 by omega]
      · have e5' : e5 = e4 := by
          rw [h5]
          unfold askE erS
          rw [if_neg h4]
          split <;> rfl
        subst e5'
        rw [n1 h4, if_pos h4]
        exact ⟨fun _ => rfl, fun h => absurd h h4⟩
theorem numR_lt (b : List UInt8) (k e : Nat) : (numR b k e).1 < 18446744073709551616 := by
  unfold numR
  split
  · exact takeS_lt _
  · exact Nat.zero_lt_succ _
theorem numR_le {b : List UInt8} {k : Nat} (hk : k ≤ b.length) (e : Nat) : (numR b k e).2.1 ≤ b.length := by
  unfold numR
  split
  · have := takeS_le (b.drop k)
    rw [List.length_drop] at this
    dsimp only
    omega
  · exact hk
end Go.Proofs.Ytaflikgdlkaefaa.Ve
/- Vectors: a row taken by the cursor. -/
namespace Go.Proofs.Ytaflikgdlkaefaa
open Go.RowKit Go.Proofs.Ytaflikgdlkaefaa.Pl Go.Proofs.Ytaflikgdlkaefaa.Sp Go.Proofs.Ytaflikgdlkaefaa.Ve
set_option maxRecDepth 20000

theorem rowAgg (w : World) : (isAgg 61).run Try.prog w = .ok true w := by first | exact Try.isAgg61 w | go_simp
theorem rowSize (w : World) : (Go.sizeOf 61).run Try.prog w = .ok 2 w := by first | exact Try.sizeOf61 w | go_simp
theorem results_row {w : World} {fn : Func} {t : Tmp} (h : fn.results = #[.cell t 61]) (tmps : Array Value) {g : Nat} {u v : Value} (hx : tmps.getD t undef = .pointer (some ⟨g, 0, none⟩)) (hA : At w g [u, v]) :
    (results fn tmps).run Try.prog w = .ok (.agg #[u, v]) w := by
  have hl := run_loadCells_list (P := Try.prog) w ⟨g, 0, none⟩ [u, v] (fun j z hz => by rw [addN]; exact hA.c j hz)
  have hx' : tmps[t]?.getD undef = .pointer (some ⟨g, 0, none⟩) := by simpa using hx
  have hl' : (loadCells ⟨g, 0, none⟩ 2 : Sem (Array Value)).run Try.prog w = .ok #[u, v] w := hl
  simp [results, h, hx', asAddr, loadVar, hl']
theorem OwnR.grown {w w' : World} {base : Nat} {v : Value} {l : List Rg} (h : OwnR w base v l) {row : Option Nat} (hg : w.grownBy w' row) (hr : ∀ r, row = some r → r < base) : OwnR w' base v l :=
  World.ownsRow.kept h hg (by
    cases hv : v.ownBlock with
    | none => exact .inl rfl
    | some x =>
      refine .inr fun e => ?_
      have h1 := hr x e.symm
      have h2 := (World.ownsRow.lt h x hv).1
      omega)
theorem CNumber_lit {w : World} {g B : Nat} {A : Option Addr} {c : Nat} {b : List UInt8} {k e x k2 e2 : Nat} (h : CuS w g B A c b k e) (t : numR b k e = (x, k2, e2)) :
    Calls Try.prog 47 #[.pointer (some ⟨g, 0, none⟩)] w fun r w' => r = .returned (.int .u64 (x : Int)) ∧ CuS w' g B A c b k2 e2 ∧ w.grownBy w' (some g) := by
  have := CNumber_any h
  rw [t] at this
  exact this
theorem CAsk_lit {w : World} {g B : Nat} {A : Option Addr} {c : Nat} {b : List UInt8} {k e e2 : Nat} (h : CuS w g B A c b k e) {p : Bool} (t : askE p e = e2) :
    Calls Try.prog 48 #[.pointer (some ⟨g, 0, none⟩), .bool p] w fun r w' => r = .returned (.tuple #[]) ∧ CuS w' g B A c b k e2 ∧ w.grownBy w' (some g) := by
  have := CAsk_any h p
  rw [show (if p = true then e else erS e 21) = e2 from t] at this
  exact this
theorem CByte_lit {w : World} {g B : Nat} {A : Option Addr} {c : Nat} {b : List UInt8} {k x k2 e2 : Nat} (h : CuS w g B A c b k 0) (t : byteR b k = (x, k2, e2)) :
    Calls Try.prog 68 #[.pointer (some ⟨g, 0, none⟩)] w fun r w' => r = .returned (.int .u8 (x : Int)) ∧ CuS w' g B A c b k2 e2 ∧ w.grownBy w' (some g) := by
  have := CByte_any h
  rw [t] at this
  exact this
/-- what a row answers -/
def RowPost (w : World) (g B : Nat) (A : Option Addr) (c : Nat) (b : List UInt8) (E : List Rg × Nat × Nat) (x : Int) (r : Ending) (w' : World) : Prop :=
  ∃ (q : RA) (k' : Nat), r = .returned (.agg #[.int .i64 q.r, .slice q.A q.l.length q.c]) ∧ CuS w' g B A c b k' E.2.2 ∧ w.grownBy w' (some g) ∧ RSt w' q ∧ (∀ a, q.A = some a → w.heap.size ≤ a.block) ∧ (E.2.2 = 0 → q.l = E.1 ∧ k' = E.2.1 ∧ q.r = x)
def baseO (base : Nat) : List Rg := if 0 < base then [⟨1, IntKind.i64.wrap (base : Int)⟩] else []
theorem min_run (x : Nat) (W : World) : (Builtin.min_ #[71, 71] 71 #[.int .u64 (x : Int), .int .u64 1099511627775]).run Try.prog W = .ok (.int .u64 ((min x Mx : Nat) : Int)) W := by
  rw [run_min_int2]
  congr 2
  unfold Mx
  split <;> omega
/-- what a row's loop holds -/
def RowInv (w : World) (g B : Nat) (A : Option Addr) (c : Nat) (b : List UInt8) (E : List Rg × Nat × Nat) (n x g4 g5 e5 : Nat) (x8 x9 : Value) (wr : World) : Prop :=
  ∃ (i ed k' e' : Nat) (o : List Rg) (v : Value), i ≤ n ∧ x8 = .int .u64 (ed : Int) ∧ x9 = .int .u64 (i : Int) ∧ CuS wr g B A c b k' e' ∧ w.grownBy wr (some g) ∧ At wr g4 [.int .i64 0, .slice none 0 0] ∧ At wr g5 [.int .i64 (x : Int), v] ∧ OwnR wr (g5 + 1) v o ∧
    (e' = 0 → ed ≤ Mx ∧ o.length ≤ k' + 1 ∧ e5 = 0 ∧ goG b (n - i) o ed k' = E) ∧ (e' ≠ 0 → E.2.2 = e')
theorem RowInv.fin {w : World} {g B : Nat} {A : Option Addr} {c : Nat} {b : List UInt8} {E : List Rg × Nat × Nat} {n x g4 g5 e5 k' e' i ed : Nat} {o : List Rg} {v : Value} {wr : World} {X : Int}
    (hC : CuS wr g B A c b k' e') (hG : w.grownBy wr (some g)) (hO : OwnR wr (g5 + 1) v o) (h45 : At wr g4 [.int .i64 (x : Int), v]) (_hg4 : g4 = w.heap.size) (hg5 : w.heap.size ≤ g5) (hx : e5 = 0 → (x : Int) = X)
    (hz : e' = 0 → e5 = 0 ∧ i = n ∧ goG b (n - i) o ed k' = E) (hnz : e' ≠ 0 → E.2.2 = e') : ∃ A' c', v = .slice A' o.length c' ∧ RowPost w g B A c b E X (.returned (.agg #[.int .i64 (x : Int), v])) wr := by
  obtain ⟨A', c', rfl, f1, f2, f3, _, f5⟩ := hO.form
  refine ⟨A', c', rfl, ⟨(x : Int), A', c', o⟩, k', rfl, ?_, hG, ⟨f3, f1, f2⟩, fun a ha => by have := (f5 a ha).1; omega, fun h0 => ?_⟩
  · by_cases he : e' = 0
    · obtain ⟨_, h2, h3⟩ := hz he
      subst h2
      rw [Nat.sub_self, goG] at h3
      rw [← h3, ← he]
      exact hC
    · rw [hnz he]; exact hC
  · have he : e' = 0 := by
      by_cases he : e' = 0
      · exact he
      · rw [hnz he] at h0; exact h0
    obtain ⟨h1, h2, h3⟩ := hz he
    subst h2
    rw [Nat.sub_self, goG] at h3
    rw [← h3]
    exact ⟨rfl, rfl, hx h1⟩
set_option maxRecDepth 100000 in
set_option maxHeartbeats 12800000 in
theorem VRow_any {w : World} {g B : Nat} {A : Option Addr} {c : Nat} {b : List UInt8} {k : Nat} (h : CuS w g B A c b k 0) (hbl : b.length ≤ 100000000) (last : Int) :
    Calls Try.prog 50 #[.pointer (some ⟨g, 0, none⟩), .int .i64 last] w (RowPost w g B A c b (rowE b last k) (at_ b k : Int)) := by
  have hkb := h.hk
  obtain ⟨⟨x, k1, e1⟩, hB⟩ : ∃ r, byteR b k = r := ⟨_, rfl⟩
  obtain ⟨P1, hP1⟩ : ∃ P, (decide (last < (x : Int)) && decide ((x : Int) < 64)) = P := ⟨_, rfl⟩
  obtain ⟨e2, he2⟩ : ∃ e, askE P1 e1 = e := ⟨_, rfl⟩
  obtain ⟨⟨base, k2, e3⟩, hN1⟩ : ∃ r, numR b k1 e2 = r := ⟨_, rfl⟩
  obtain ⟨⟨n, k3, e4⟩, hN2⟩ : ∃ r, numR b k2 e3 = r := ⟨_, rfl⟩
  obtain ⟨P2, hP2⟩ : ∃ P, (decide (base ≤ Mx) && (decide (0 < base) || decide (0 < n))) = P := ⟨_, rfl⟩
  obtain ⟨e5, he5⟩ : ∃ e, askE P2 e4 = e := ⟨_, rfl⟩
  have hH := rowE_head hB (e2 := e2) (last := last) (by rw [hP1]; exact he2.symm) hN1 hN2 (e5 := e5) (by rw [hP2]; exact he5.symm)
  obtain ⟨E, hE⟩ : ∃ E, rowE b last k = E := ⟨_, rfl⟩
  rw [hE] at hH ⊢
  obtain ⟨X, hX⟩ : ∃ X, (at_ b k : Int) = X := ⟨_, rfl⟩
  rw [hX]
  have hbase : base < 18446744073709551616 := by have := numR_lt b k1 e2; rw [hN1] at this; exact this
  have hn64 : n < 18446744073709551616 := by have := numR_lt b k2 e3; rw [hN2] at this; exact this
  have hx256 : x < 256 := by
    have : (byteR b k).1 < 256 := by
      unfold byteR
      split
      · exact Nat.zero_lt_succ _
      · exact UInt8.toNat_lt _
    rw [hB] at this
    exact this
  have HB := Lib.hid (fun W (hW : Below w.heap.size w W) => CByte_lit (h.below hW) hB)
  have HA1 := Lib.hid (fun W (hW : CuS W g B A c b k1 e1) => CAsk_lit hW he2)
  have HN1 := Lib.hid (fun W (hW : CuS W g B A c b k1 e2) => CNumber_lit hW hN1)
  have HN2 := Lib.hid (fun W (hW : CuS W g B A c b k2 e3) => CNumber_lit hW hN2)
  have HA2 := Lib.hid (fun W (hW : CuS W g B A c b k3 e4) => CAsk_lit hW he5)
  have HH := Lib.hid (And.intro hH (And.intro hX hbl))
  have hgl : g < w.heap.size := h.at_.lt
  have hcx : IntKind.i64.wrap (x : Int) = (x : Int) := by rw [IntKind.wrap_i64]; omega
  have hc1 : (decide (last < (x : Int)) = false ∧ P1 = false) ∨ (decide (last < (x : Int)) = true ∧ decide ((x : Int) < 64) = P1) := by
    cases hp : decide (last < (x : Int)) with
    | false => exact .inl ⟨rfl, by rw [← hP1, hp]; rfl⟩
    | true => exact .inr ⟨rfl, by rw [← hP1, hp]; rfl⟩
  have hc2 : (decide ((base : Int) ≤ 1099511627775) = false ∧ decide (0 < base) = true ∧ P2 = false) ∨ (decide ((base : Int) ≤ 1099511627775) = true ∧ decide (0 < base) = true ∧ P2 = true) ∨ (decide ((base : Int) ≤ 1099511627775) = true ∧ decide (0 < base) = false ∧ decide (0 < n) = P2) := by
    unfold Mx at hP2
    by_cases q1 : base ≤ 1099511627775
    · by_cases q2 : 0 < base
      · refine .inr (.inl ⟨by rw [decide_eq_true_eq]; omega, by rw [decide_eq_true_eq]; omega, ?_⟩)
        rw [← hP2, decide_eq_true q1, decide_eq_true q2]; rfl
      · refine .inr (.inr ⟨by rw [decide_eq_true_eq]; omega, by rw [decide_eq_false_iff_not]; omega, ?_⟩)
        rw [← hP2, decide_eq_true q1, decide_eq_false q2, Bool.true_and, Bool.false_or]
    · refine .inl ⟨by rw [decide_eq_false_iff_not]; omega, by rw [decide_eq_true_eq]; omega, ?_⟩
      rw [← hP2, decide_eq_false q1]; rfl
  have HK := Lib.hid hkb
  clear hB hP1 he2 hN1 hN2 hP2 he5 hH hE hX h hkb hbl
  rcases hc1 with ⟨hp1, rfl⟩ | ⟨hp1, hq1⟩
  all_goals
    have h0 : Below w.heap.size w (w.alloc (.cells #[.int .i64 0, .slice none 0 0] 61)) := balloc (Below.refl _ _) _
    have a0 : At (w.alloc (.cells #[.int .i64 0, .slice none 0 0] 61)) w.heap.size [.int .i64 0, .slice none 0 0] := At.new w 61 #[.int .i64 0, .slice none 0 0]
    have HB0 := Lib.hid (HB.out _ h0)
    go_enter Try.func50, Try.ntmps50
    go_wp2_with fail
    refine HB0.out.mono ?_
    rintro r w1 ⟨rfl, h1, g1⟩
    have a1 := a0.grown g1 (fun e => by have := Option.some.inj e; omega)
    have g1' : w.grownBy w1 (some g) := grownT (grownB h0) g1
    have hs1 : w.heap.size < w1.heap.size := a1.lt
    have hb1 : Below w1.heap.size w1 (w1.alloc (.cells #[.int .i64 (x : Int), .slice none 0 0] 61)) := balloc (Below.refl _ _) _
    have hC1 := h1.below hb1
    have a5 : At (w1.alloc (.cells #[.int .i64 (x : Int), .slice none 0 0] 61)) w1.heap.size [.int .i64 (x : Int), .slice none 0 0] := At.new w1 61 #[.int .i64 (x : Int), .slice none 0 0]
    have hsz : (w1.alloc (.cells #[.int .i64 (x : Int), .slice none 0 0] 61)).heap.size = w1.heap.size + 1 := by simp
    have HQ1 := Lib.hid (And.intro hC1 (And.intro (a1.below hb1) (And.intro a5 (grownT g1' (grownB hb1)))))
    have HA := Lib.hid (HA1.out _ hC1)
    clear a1 a0 h0 h1 g1 g1' hb1 hC1 a5 HA1 HB HB0
    go_wp2_with fail
    refine HA.out.mono ?_
    rintro r w3 ⟨rfl, h3, g3⟩
    have HQ3 := Lib.hid (And.intro (HQ1.out.2.1.grown g3 (fun e => by have := Option.some.inj e; omega)) (And.intro (HQ1.out.2.2.1.grown g3 (fun e => by have := Option.some.inj e; omega)) (grownT HQ1.out.2.2.2 g3)))
    have HN := Lib.hid (HN1.out _ h3)
    clear h3 g3 HA HN1 HQ1
    go_wp2_with fail
    refine HN.out.mono ?_
    rintro r w4 ⟨rfl, h4, g4⟩
    have HQ4 := Lib.hid (And.intro (HQ3.out.1.grown g4 (fun e => by have := Option.some.inj e; omega)) (And.intro (HQ3.out.2.1.grown g4 (fun e => by have := Option.some.inj e; omega)) (grownT HQ3.out.2.2 g4)))
    have HNN := Lib.hid (HN2.out _ h4)
    clear h4 g4 HN HN2 HQ3
    go_wp2_with fail
    refine HNN.out.mono ?_
    rintro r w5 ⟨rfl, h5, g5⟩
    have HQ5 := Lib.hid (And.intro (HQ4.out.1.grown g5 (fun e => by have := Option.some.inj e; omega)) (And.intro (HQ4.out.2.1.grown g5 (fun e => by have := Option.some.inj e; omega)) (grownT HQ4.out.2.2 g5)))
    have HAA := Lib.hid (HA2.out _ h5)
    clear h5 g5 HNN HA2 HQ4
    rcases hc2 with ⟨hb1, hb2, rfl⟩ | ⟨hb1, hb2, rfl⟩ | ⟨hb1, hb2, hb3⟩
    all_goals
      go_wp2_with fail
      refine HAA.out.mono ?_
      rintro r w6 ⟨rfl, h6, g6⟩
      have A4 := HQ5.out.1.grown g6 (fun e => by have := Option.some.inj e; omega)
      have A5 := HQ5.out.2.1.grown g6 (fun e => by have := Option.some.inj e; omega)
      have G6 := grownT HQ5.out.2.2 g6
      have y1 := A5.c 1 rfl
      have HQ6 := Lib.hid (And.intro h6 (And.intro A4 (And.intro A5 G6)))
      obtain ⟨bz, hbz⟩ : ∃ z, IntKind.i64.wrap (base : Int) = z := ⟨_, rfl⟩
      have HBZ := Lib.hid (show base ≤ Mx → bz = (base : Int) from fun h => by rw [← hbz, IntKind.wrap_i64]; unfold Mx at h; omega)
      have HOW : OwnR (w6.alloc (.cells #[.int .i64 1, .int .i64 bz] 44)) (w1.heap.size + 1) (.slice none 0 0) [] := OwnR.nil _ _
      have hsb : w1.heap.size + 1 ≤ (w6.alloc (.cells #[.int .i64 1, .int .i64 bz] 44)).heap.size := by have := A5.lt; simp; omega
      have A5a := A5.below (boxR w6 ⟨1, bz⟩)
      clear h6 g6 HAA HQ5 A4 A5 G6
      go_wp2_with (at_builtin; refine appR rfl rfl HOW (Sl.oneR w6 ⟨1, bz⟩) rfl rfl rfl (by simp) hsb ?_; intro v7 w7 h7 hg7 hat7; obtain ⟨A7, c7, e7, _⟩ := h7.form; obtain ⟨n7, hn7⟩ : ∃ m, ([] ++ [(⟨1, bz⟩ : Rg)]).length = m := ⟨_, rfl⟩; rw [hn7] at e7; clear hn7; subst e7; have H7 := Lib.hid (And.intro h7 hg7); clear h7 hat7; have A57 := A5a.grown hg7 (by simp [Value.ownBlock]); clear hg7; have z7 := A57.c 1 rfl; have f7 := A57.f 1 rfl)
      go_loopw [8, 9] (fun x8 x9 wr => RowInv w g B A c b E n x w.heap.size w1.heap.size e5 x8 x9 wr) (fun _ x9 _ => n - (intOf x9).toNat)
      case atStart =>
        first
        | exact ⟨0, base, k3, e5, _, _, by omega, rfl, rfl, HQ6.out.1, HQ6.out.2.2.2, HQ6.out.2.1, HQ6.out.2.2.1, OwnR.nil _ _, fun h0 => by
            obtain ⟨t1, t2, t3, t4, t5⟩ := HH.out.1.2 h0
            refine ⟨t1, by simp, h0, ?_⟩
            rw [t5, Nat.sub_zero]
            have : base = 0 := by simpa using hb2
            rw [this]
            rfl, HH.out.1.1⟩
        | exact (by
            have q1 := (HQ6.out.1.below (boxR w6 ⟨1, bz⟩)).grown H7.out.2 (by simp [Value.ownBlock])
            have q2 := grownC w7 w1.heap.size 1 (.slice A7 n7 c7)
            have q3 := (HQ6.out.2.1.below (boxR w6 ⟨1, bz⟩)).grown H7.out.2 (by simp [Value.ownBlock])
            have q4 : w.grownBy w7 (some g) := grownT HQ6.out.2.2.2 (grownT (grownB (boxR w6 ⟨1, bz⟩)) ⟨H7.out.2.os, H7.out.2.tape, H7.out.2.output, H7.out.2.size, fun i hi _ => H7.out.2.block i hi (by simp [Value.ownBlock])⟩)
            have q5 := H7.out.1
            rw [List.nil_append] at q5
            have hgl6 := HQ6.out.1.at_.lt
            refine ⟨0, base, k3, e5, [⟨1, bz⟩], _, by omega, rfl, rfl, q1.grown q2 (fun r e => by have := Option.some.inj e; omega), grown_step q4 q2 (.inr fun r e => by have := Option.some.inj e; omega), q3.grown q2 (fun e => by have := Option.some.inj e; omega), A57.set 1 _ (by simp), q5.grown q2 (fun r e => by have := Option.some.inj e; omega), fun h0 => ?_, HH.out.1.1⟩
            obtain ⟨t1, t2, t3, t4, t5⟩ := HH.out.1.2 h0
            refine ⟨t1, by simp, h0, ?_⟩
            have hb : 0 < base := by simpa using hb2
            rw [t5, Nat.sub_zero, HBZ.out t1, baseR, if_pos hb])
      case round =>
        clear HBZ HOW hsb A5a y1
        obtain ⟨i, ed, k', e', o, v, hi, rfl, rfl, hC, hG, h4, h5, hO, hz, hnz⟩ := hrel
        by_cases hlt : i < n
        · have hd1 : decide ((i : Int) < (n : Int)) = true := by rw [decide_eq_true_eq]; omega
          by_cases he : e' = 0
          · subst he
            obtain ⟨z1, z2, z3, z4⟩ := hz rfl
            obtain ⟨m, hm⟩ : ∃ m, n - i = m + 1 := ⟨n - i - 1, by omega⟩
            rw [hm] at z4
            obtain ⟨⟨x1, q2, f3⟩, t1⟩ : ∃ r, numR b k' 0 = r := ⟨_, rfl⟩
            obtain ⟨⟨y1, q3, f4⟩, t2⟩ : ∃ r, numR b q2 f3 = r := ⟨_, rfl⟩
            have hstep := goG_step (m := m) (o := o) (ed := ed) t1 t2
            obtain ⟨mx, hmx⟩ : ∃ z, min x1 Mx = z := ⟨_, rfl⟩
            obtain ⟨my, hmy⟩ : ∃ z, min y1 Mx = z := ⟨_, rfl⟩
            have hmn1 : ∀ W, (Builtin.min_ #[71, 71] 71 #[.int .u64 (x1 : Int), .int .u64 1099511627775]).run Try.prog W = .ok (.int .u64 (mx : Int)) W := fun W => by rw [min_run, hmx]
            have hmn2 : ∀ W, (Builtin.min_ #[71, 71] 71 #[.int .u64 (y1 : Int), .int .u64 1099511627775]).run Try.prog W = .ok (.int .u64 (my : Int)) W := fun W => by rw [min_run, hmy]
            have hmxb : mx ≤ 1099511627775 := by rw [← hmx]; unfold Mx; omega
            have hmyb : my ≤ 1099511627775 := by rw [← hmy]; unfold Mx; omega
            rw [hmx, hmy] at hstep
            clear hmx hmy
            obtain ⟨fr, hfr⟩ : ∃ z, ed + 2 + mx = z := ⟨_, rfl⟩
            obtain ⟨en, hen⟩ : ∃ z, fr + my = z := ⟨_, rfl⟩
            rw [hfr, hen] at hstep
            obtain ⟨p3, hp3⟩ : ∃ p, decide (en ≤ Mx) = p := ⟨_, rfl⟩
            rw [hp3] at hstep
            obtain ⟨f5, hf5⟩ : ∃ f, askE p3 f4 = f := ⟨_, rfl⟩
            rw [hf5] at hstep
            have hz1 : ed ≤ 1099511627775 := z1
            have hd3 : decide ((en : Int) ≤ 1099511627775) = p3 := by
              rw [← hp3]
              unfold Mx
              by_cases q : en ≤ 1099511627775
              · rw [decide_eq_true q, decide_eq_true_eq]; omega
              · rw [decide_eq_false q, decide_eq_false_iff_not]; omega
            have hw1 : IntKind.u64.wrap ((ed : Int) + 2) = (ed : Int) + 2 := by rw [IntKind.wrap_u64]; omega
            have hw2 : IntKind.u64.wrap ((ed : Int) + 2 + (mx : Int)) = (fr : Int) := by rw [IntKind.wrap_u64]; omega
            have hw3 : IntKind.u64.wrap ((fr : Int) + (my : Int)) = (en : Int) := by rw [IntKind.wrap_u64]; omega
            have hv1 : IntKind.i64.wrap (fr : Int) = (fr : Int) := by rw [IntKind.wrap_i64]; omega
            have hv2 : IntKind.i64.wrap (en : Int) = (en : Int) := by rw [IntKind.wrap_i64]; omega
            have hwi : IntKind.u64.wrap ((i : Int) + 1) = (i : Int) + 1 := by rw [IntKind.wrap_u64]; omega
            have HE1 := Lib.hid (CErr_any hC)
            have HC1 := Lib.hid (CNumber_lit hC t1)
            have HC2 := Lib.hid (fun W (hW : CuS W g B A c b q2 f3) => CNumber_lit hW t2)
            have HC3 := Lib.hid (fun W (hW : CuS W g B A c b q3 f4) => CAsk_lit hW hf5)
            have HST := Lib.hid (And.intro hstep (And.intro z4 (And.intro z3 hm)))
            have HLN := Lib.hid (show o.length + 1 ≤ 1000000000 ∧ o.length ≤ k' + 1 by have := hC.hk; have := HH.out.2.2; omega)
            have HQ := Lib.hid (And.intro hG (And.intro h4 (And.intro h5 hO)))
            clear hC hG h4 h5 hO hz hnz z1 z2 z3 z4 hm hstep t1 t2 hp3 hf5 hfr hen
            go_wp2_with fail
            refine HE1.out.mono ?_
            rintro r wz ⟨rfl, rfl⟩
            go_wp2_with fail
            refine HC1.out.mono ?_
            rintro r w8 ⟨rfl, h8, g8⟩
            have HQ8 := Lib.hid (And.intro (grownT HQ.out.1 g8) (And.intro (HQ.out.2.1.grown g8 (fun e => by have := Option.some.inj e; omega)) (And.intro (HQ.out.2.2.1.grown g8 (fun e => by have := Option.some.inj e; omega)) (HQ.out.2.2.2.grown g8 (fun r e => by have := Option.some.inj e; omega)))))
            have HD2 := Lib.hid (HC2.out _ h8)
            clear h8 g8 HQ HC1 HC2
            go_wp2_with fail
            refine HD2.out.mono ?_
            rintro r w9 ⟨rfl, h9, g9⟩
            have HQ9 := Lib.hid (And.intro (grownT HQ8.out.1 g9) (And.intro (HQ8.out.2.1.grown g9 (fun e => by have := Option.some.inj e; omega)) (And.intro (HQ8.out.2.2.1.grown g9 (fun e => by have := Option.some.inj e; omega)) (HQ8.out.2.2.2.grown g9 (fun r e => by have := Option.some.inj e; omega)))))
            have HD3 := Lib.hid (HC3.out _ h9)
            clear h9 g9 HQ8 HD2 HC3
            go_wp2_with fail
            refine HD3.out.mono ?_
            rintro r wa ⟨rfl, ha, ga⟩
            have b5 := HQ9.out.2.2.1.grown ga (fun e => by have := Option.some.inj e; omega)
            have y0 := b5.c 1 rfl
            have HQa := Lib.hid (And.intro (grownT HQ9.out.1 ga) (And.intro (HQ9.out.2.1.grown ga (fun e => by have := Option.some.inj e; omega)) (And.intro b5 (And.intro (HQ9.out.2.2.2.grown ga (fun r e => by have := Option.some.inj e; omega)) ha))))
            have hOW := HQa.out.2.2.2.1.below (boxR wa ⟨(fr : Int), (en : Int)⟩)
            have hsb : w1.heap.size + 1 ≤ (wa.alloc (.cells #[.int .i64 (fr : Int), .int .i64 (en : Int)] 44)).heap.size := by have := b5.lt; simp; omega
            have B5a := b5.below (boxR wa ⟨(fr : Int), (en : Int)⟩)
            clear ha ga b5 HQ9 HD3
            go_wp2_with (at_builtin; refine appR rfl rfl hOW (Sl.oneR wa ⟨(fr : Int), (en : Int)⟩) rfl rfl rfl (by rw [List.length_singleton]; exact HLN.out.1) hsb ?_; intro v7 w7 h7 hg7 hat7; obtain ⟨A7, c7, e7, _⟩ := h7.form; obtain ⟨n7, hn7⟩ : ∃ m, (o ++ [(⟨(fr : Int), (en : Int)⟩ : Rg)]).length = m := ⟨_, rfl⟩; rw [hn7] at e7; clear hn7; subst e7; have hgr : ∀ r, v.ownBlock = some r → w1.heap.size < r := (fun r e => (World.ownsRow.lt hOW r e).1); have H7 := Lib.hid (And.intro h7 (And.intro hg7 hgr)); clear h7 hat7; have B57 := B5a.grown hg7 (fun e => by have := hgr _ e; omega); clear hg7 hgr; have z7 := B57.c 1 rfl; have f7 := B57.f 1 rfl)
            go_roundw
            case rel =>
              have q2 := grownC w7 w1.heap.size 1 (.slice A7 n7 c7)
              have q1 := ((HQa.out.2.2.2.2.below (boxR wa ⟨(fr : Int), (en : Int)⟩)).grown H7.out.2.1 (fun r e => by have := H7.out.2.2 r e; omega)).grown q2 (fun r e => by have := Option.some.inj e; omega)
              have q3' := ((HQa.out.2.1.below (boxR wa ⟨(fr : Int), (en : Int)⟩)).grown H7.out.2.1 (fun e => by have := H7.out.2.2 _ e; omega)).grown q2 (fun e => by have := Option.some.inj e; omega)
              have hszw : w.heap.size ≤ (wa.alloc (.cells #[.int .i64 (fr : Int), .int .i64 (en : Int)] 44)).heap.size := by omega
              have q4 := grown_step (grown_step (grownT HQa.out.1 (grownB (boxR wa ⟨(fr : Int), (en : Int)⟩))) H7.out.2.1 (.inr fun r e => by have := H7.out.2.2 r e; omega)) q2 (.inr fun r e => by have := Option.some.inj e; omega)
              refine ⟨i + 1, en, q3, f5, o ++ [⟨(fr : Int), (en : Int)⟩], _, by omega, rfl, by go_num, q1, q4, q3', B57.set 1 _ (by simp), H7.out.1.grown q2 (fun r e => by have := Option.some.inj e; omega), fun h0 => ?_, fun h0 => ?_⟩
              · obtain ⟨s1, s2, s3⟩ := HST.out.1.2 h0
                refine ⟨s1, by rw [List.length_append, List.length_singleton]; have := HLN.out.2; omega, HST.out.2.2.1, ?_⟩
                rw [← HST.out.2.1, s3]
                congr 1
                have := HST.out.2.2.2
                omega
              · rw [← HST.out.2.1]
                exact HST.out.1.1 h0
            case measure => simp [intOf]; omega
          · have hb0 : ((e' : Int) == 0) = false := by rw [beq_eq_false_iff_ne]; omega
            have HZQ : e' = 0 → e5 = 0 ∧ i = n ∧ goG b (n - i) o ed k' = E := fun h => absurd h he
            obtain ⟨A', c', rfl, _⟩ := hO.form
            have r0 := h5.c 0 rfl
            have r1 := h5.c 1 rfl
            have f0 := h4.f 0 rfl
            have f1 := h4.f 1 rfl
            have p0 := h4.c 0 rfl
            have p1 := h4.c 1 rfl
            have h4z := (h4.set 0 (.int .i64 (x : Int)) (by simp)).set 1 (.slice A' o.length c') (by simp)
            have q2a := grownC wr w.heap.size 0 (.int .i64 (x : Int))
            have q2b := grownC (wr.setCell ⟨w.heap.size, 0, none⟩ (.int .i64 (x : Int))) w.heap.size 1 (.slice A' o.length c')
            have hCz := (hC.grown q2a (fun r e => by have := Option.some.inj e; omega)).grown q2b (fun r e => by have := Option.some.inj e; omega)
            have hGz := grown_step (grown_step hG q2a (.inr fun r e => by have := Option.some.inj e; omega)) q2b (.inr fun r e => by have := Option.some.inj e; omega)
            have hOz := (hO.grown q2a (fun r e => by have := Option.some.inj e; omega)).grown q2b (fun r e => by have := Option.some.inj e; omega)
            obtain ⟨_, _, _, hfin⟩ := RowInv.fin (e5 := e5) (i := i) (ed := ed) (n := n) (E := E) (X := X) hCz hGz hOz h4z rfl (by omega) (fun h0 => by rw [(HH.out.1.2 h0).2.2.1]; exact HH.out.2.1) HZQ hnz
            have HF := Lib.hid (And.intro h4z hfin)
            have HER := Lib.hid (CErr_any hC)
            clear h4z q2a q2b hCz hGz hOz hfin hC hG h4 h5 hO hz hnz
            go_wp2_with fail
            refine HER.out.mono ?_
            rintro r wz ⟨rfl, rfl⟩
            go_wp2_with fail
            exact bodyPost_ret (results_row rfl _ rfl HF.out.1) rfl HF.out.2
        · have hd1 : decide ((i : Int) < (n : Int)) = false := by rw [decide_eq_false_iff_not]; omega
          have HZQ : e' = 0 → e5 = 0 ∧ i = n ∧ goG b (n - i) o ed k' = E := fun h => ⟨(hz h).2.2.1, by omega, (hz h).2.2.2⟩
          obtain ⟨A', c', rfl, _⟩ := hO.form
          have r0 := h5.c 0 rfl
          have r1 := h5.c 1 rfl
          have f0 := h4.f 0 rfl
          have f1 := h4.f 1 rfl
          have p0 := h4.c 0 rfl
          have p1 := h4.c 1 rfl
          have h4z := (h4.set 0 (.int .i64 (x : Int)) (by simp)).set 1 (.slice A' o.length c') (by simp)
          have q2a := grownC wr w.heap.size 0 (.int .i64 (x : Int))
          have q2b := grownC (wr.setCell ⟨w.heap.size, 0, none⟩ (.int .i64 (x : Int))) w.heap.size 1 (.slice A' o.length c')
          have hCz := (hC.grown q2a (fun r e => by have := Option.some.inj e; omega)).grown q2b (fun r e => by have := Option.some.inj e; omega)
          have hGz := grown_step (grown_step hG q2a (.inr fun r e => by have := Option.some.inj e; omega)) q2b (.inr fun r e => by have := Option.some.inj e; omega)
          have hOz := (hO.grown q2a (fun r e => by have := Option.some.inj e; omega)).grown q2b (fun r e => by have := Option.some.inj e; omega)
          obtain ⟨_, _, _, hfin⟩ := RowInv.fin (e5 := e5) (i := i) (ed := ed) (n := n) (E := E) (X := X) hCz hGz hOz h4z rfl (by omega) (fun h0 => by rw [(HH.out.1.2 h0).2.2.1]; exact HH.out.2.1) HZQ hnz
          have HF := Lib.hid (And.intro h4z hfin)
          have HER := Lib.hid (CErr_any hC)
          clear h4z q2a q2b hCz hGz hOz hfin hC hG h4 h5 hO hz hnz
          go_wp2_with fail
          exact bodyPost_ret (results_row rfl _ rfl HF.out.1) rfl HF.out.2
end Go.Proofs.Ytaflikgdlkaefaa
