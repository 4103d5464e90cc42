/- Frames: the document's head in all, its Cut and Read. -/
import Derived.Test.YtkgmbpbbgkjidaaFrH2
namespace Go.Proofs.Ytkgmbpbbgkjidaa
open Go.RowKit Go.Proofs.Ytkgmbpbbgkjidaa.Pl Go.Proofs.Ytkgmbpbbgkjidaa.Pc

theorem headS_err {b : List UInt8} {limit : Int} (h : (headS b limit).2.2 ≠ 0) : headS b limit = (0, 0, (headS b limit).2.2) := by
  unfold headS at *
  (repeat' split) <;> first | rfl | (exfalso; simp_all; done) | skip
theorem Rhead_err (w : World) (A : Option Addr) (n c : Nat) (b : List UInt8) (limit : Int) (e0 : Nat) (hb : Sl w w.heap.size A (bv b)) (h0 : n = b.length) (hc : n ≤ c) (hm : c ≤ maxLen) (he : e0 ≠ 0) (h : (headS b limit).2.2 = e0) :
    Calls Try.prog 59 #[.slice A n c, .int .i64 limit] w fun e w' => e = .returned (.tuple #[.agg #[.int .i64 0, .int .u32 0, .int .i64 0, .int .i64 0, .slice none 0 0], .int .i64 0, .int .i64 0, .int .i64 (e0 : Int)]) ∧ Below w.heap.size w w' := by
  have key : Calls Try.prog 59 #[.slice A n c, .int .i64 limit] w (HeadPost w zeroF 0 0 e0) := by
    unfold headS at h
    by_cases g1 : b.take 2 = ([78, 82] : List UInt8).take b.length
    · rw [if_pos g1] at h
      by_cases g2 : b.length < 9
      · rw [if_pos g2] at h; subst h; exact Rhead_short w A n c b limit hb h0 hc hm g1 g2
      · rw [if_neg g2] at h
        by_cases g3 : rightB b = true
        · rw [if_pos g3] at h
          obtain ⟨tv, tk, te, ht⟩ : ∃ tv tk te, takeS (b.drop 9) = (tv, tk, te) := ⟨_, _, _, rfl⟩
          rw [ht] at h
          simp only at h
          by_cases hc9 : c = 9
          · have h9 : b.length = 9 := by omega
            rw [List.drop_eq_nil_of_le (by omega)] at ht
            have ht' : ((0, 0, 20) : Nat × Nat × Nat) = (tv, tk, te) := by rw [← ht]; simp [takeS, run]
            injection ht' with q1 q2
            injection q2 with q2 q3
            subst q1 q2 q3
            simp at h
            subst h
            exact Rhead_nine w A n c b limit hb h0 hc hm g1 h9.symm hc9 g3
          · by_cases g4 : te = 0
            · rw [if_pos g4] at h
              by_cases g5 : tv ≤ 65536 ∧ 9 + tk + tv + 4 ≤ heldN limit
              · rw [if_pos g5] at h; exact absurd h.symm he
              · rw [if_neg g5] at h
                subst h
                by_cases g6 : 65536 < tv
                · exact Rhead_much w A n c b limit hb h0 hc hm g1 (by omega) g3 hc9 tv tk te ht g4 ⟨g6, rfl⟩
                · exact Rhead_big w A n c b limit hb h0 hc hm g1 (by omega) g3 hc9 tv tk te ht g4 ⟨by omega, by omega⟩
            · rw [if_neg g4] at h
              subst h
              exact Rhead_take w A n c b limit hb h0 hc hm g1 (by omega) g3 hc9 tv tk te ht g4 rfl
        · rw [if_neg g3] at h; subst h; exact Rhead_form w A n c b limit hb h0 hc hm g1 (by omega) (by simpa using g3)
    · rw [if_neg g1] at h; subst h; exact Rhead_nr w A n c b limit hb h0 hc hm g1
  exact key
theorem Rhead_fine (w : World) (A : Option Addr) (n c : Nat) (b : List UInt8) (limit : Int) (k v y2 gg y7 y8 : Nat) (hb : Sl w w.heap.size A (bv b)) (h0 : n = b.length) (hc : n ≤ c) (hm : c ≤ maxLen) (h : headS b limit = (k, v, 0)) (e2 : at_ b 2 = y2) (eg : bigF 0 ((b.drop 3).take 4) = gg) (e7 : at_ b 7 = y7) (e8 : at_ b 8 = y8) :
    Calls Try.prog 59 #[.slice A n c, .int .i64 limit] w fun e w' => e = .returned (.tuple #[.agg #[.int .i64 (y2 : Int), .int .u32 (gg : Int), .int .i64 (y7 : Int), .int .i64 (y8 : Int), .slice none 0 0], .int .i64 (9 + (k : Int)), .int .i64 (v : Int), .int .i64 0]) ∧ Below w.heap.size w w' := by
  obtain ⟨g1, g2, g3, g4, g5, g6, g7, g8⟩ := head_ok h
  have hc9 : c ≠ 9 := by
    intro hc9
    have h9 : b.length = 9 := by omega
    rw [List.drop_eq_nil_of_le (by omega)] at g4
    simp [takeS, run] at g4
  subst e2 eg e7 e8
  have := Rhead_ok w A n c b limit hb h0 hc hm g1 g2 g3 hc9 v k 0 g4 rfl ⟨g5, g6⟩
  refine this.mono ?_
  rintro e w' ⟨rfl, hb'⟩
  exact ⟨by simp [hdF, Fr.v], hb'⟩
set_option maxRecDepth 100000 in
set_option maxHeartbeats 1600000 in
theorem RCut_any (w : World) (A : Option Addr) (n c : Nat) (b : List UInt8) (limit : Int) (hb : Sl w w.heap.size A (bv b)) (h0 : n = b.length) (hc : n ≤ c) (hm : c ≤ maxLen) :
    Calls Try.prog 52 #[.slice A n c, .int .i64 limit] w (CutPost w (cutF b limit)) := by
  unfold cutF
  by_cases he : (headS b limit).2.2 = 0
  · obtain ⟨k, v, e, h⟩ : ∃ k v e, headS b limit = (k, v, e) := ⟨_, _, _, rfl⟩
    rw [h] at he ⊢
    simp only at he
    subst he
    obtain ⟨_, _, _, g4, g5, g6, g7, g8⟩ := head_ok h
    rw [if_pos rfl]
    simp only
    have HC := Lib.hid (Rhead_fine w A n c b limit k v _ _ _ _ hb h0 hc hm h rfl rfl rfl rfl)
    generalize at_ b 2 = y2 at *
    generalize at_ b 7 = y7 at *
    generalize at_ b 8 = y8 at *
    generalize bigF 0 ((b.drop 3).take 4) = gg at *
    clear g4 h g6 h0
    go_enter Try.func52, Try.ntmps52
    go_wp2_with fail
    refine HC.out.mono ?_
    rintro e w2 ⟨rfl, hb2⟩
    go_wp2_with fail
    go_ret2
    exact ⟨by simp only []; congr 3 <;> omega, hb2.alloc hb2.size _⟩
  · rw [if_neg he]
    obtain ⟨e0, he0⟩ : ∃ e0, (headS b limit).2.2 = e0 := ⟨_, rfl⟩
    rw [he0] at he ⊢
    have HC := Lib.hid (Rhead_err w A n c b limit e0 hb h0 hc hm he he0)
    have q : ((e0 : Int) != 0) = true := by simp; omega
    clear he he0 h0
    go_enter Try.func52, Try.ntmps52
    go_wp2_with fail
    refine HC.out.mono ?_
    rintro e w2 ⟨rfl, hb2⟩
    go_wp2_with fail
    go_ret2
    exact ⟨rfl, hb2.alloc hb2.size _⟩
set_option maxRecDepth 100000 in
set_option maxHeartbeats 3200000 in
theorem RRead_bad (w : World) (A : Option Addr) (n c : Nat) (b : List UInt8) (limit : Int) (e0 : Nat) (hb : Sl w w.heap.size A (bv b)) (h0 : n = b.length) (hc : n ≤ c) (hm : c ≤ maxLen) (h : (headS b limit).2.2 = e0) (he : e0 ≠ 0) :
    Calls Try.prog 51 #[.slice A n c, .int .i64 limit] w (ReadPost w (zeroF, e0)) := by
  have hA := At.new w 47 #[.int .i64 0, .int .u32 0, .int .i64 0, .int .i64 0, .slice none 0 0]
  have b0 := balloc (Below.refl w.heap.size w) (.cells #[.int .i64 0, .int .u32 0, .int .i64 0, .int .i64 0, .slice none 0 0] 47)
  have hs := (hb.below b0).more b0.size
  have hlt1 : w.heap.size < (w.alloc (.cells #[.int .i64 0, .int .u32 0, .int .i64 0, .int .i64 0, .slice none 0 0] 47)).heap.size := by simp
  have HC := Lib.hid (fun W h1 => Rhead_err W A n c b limit e0 h1 h0 hc hm he h)
  have q : ((e0 : Int) != 0) = true := by simp; omega
  clear h he
  clear h0
  go_enter Try.func51, Try.ntmps51
  go_wp2_with fail
  generalize w.alloc (.cells #[.int .i64 0, .int .u32 0, .int .i64 0, .int .i64 0, .slice none 0 0] 47) = w1 at *
  refine (HC.out _ hs).mono ?_
  rintro e w2 ⟨rfl, hb2⟩
  replace hA := (hA.below hb2).alloc (.cells #[.int .i64 0, .int .u32 0, .int .i64 0, .int .i64 0, .slice none 0 0] 47)
  replace b0 := b0.trans (hb2.mono b0.size)
  have hF := At.new w2 47 #[.int .i64 0, .int .u32 0, .int .i64 0, .int .i64 0, .slice none 0 0]
  have HFW := Lib.hid (show w.heap.size < w2.heap.size by have := hlt1; have := hb2.size; omega)
  have hwF : w2.heap.size ≠ w.heap.size := by have := hA.lt; have := b0.size; have := hlt1; have := hb2.size; omega
  replace b0 := b0.alloc b0.size (.cells #[.int .i64 0, .int .u32 0, .int .i64 0, .int .i64 0, .slice none 0 0] 47)
  have hs2 := (hs.below hb2).more hb2.size
  have bx := balloc (Below.refl w2.heap.size w2) (.cells #[.int .i64 0, .int .u32 0, .int .i64 0, .int .i64 0, .slice none 0 0] 47)
  replace hs := (hs2.below bx).more bx.size
  have hAz := hA
  have bz := b0
  have a0 := hAz.c 0 rfl
  have a1 := hAz.c 1 rfl
  have a2 := hAz.c 2 rfl
  have a3 := hAz.c 3 rfl
  have a4 := hAz.c 4 rfl
  have f0 := hAz.f 0 rfl
  have f1 := hAz.f 1 rfl
  have f2 := hAz.f 2 rfl
  have f3 := hAz.f 3 rfl
  have f4 := hAz.f 4 rfl
  have hP9 := hAz.putL [.int .i64 0, .int .u32 0, .int .i64 0, .int .i64 0, .slice none 0 0] rfl
  have bP := below_putL [.int .i64 0, .int .u32 0, .int .i64 0, .int .i64 0, .slice none 0 0] 0 bz (g := w.heap.size) (Nat.le_refl _)
  simp only [putL, Nat.zero_add, Nat.reduceAdd] at hP9 bP
  go_wp2_with fail
  have z0 := hP9.c 0 rfl
  have z1 := hP9.c 1 rfl
  have z2 := hP9.c 2 rfl
  have z3 := hP9.c 3 rfl
  have z4 := hP9.c 4 rfl
  exact bodyPost_ret (v := .tuple #[.agg #[.int .i64 0, .int .u32 0, .int .i64 0, .int .i64 0, .slice none 0 0], .int .i64 (e0 : Int)]) (by simp [results, Try.results51, go_sem, z0, z1, z2, z3, z4]) rfl (readPost_zero w _ e0 bP)
set_option maxRecDepth 100000 in
set_option maxHeartbeats 3200000 in
theorem RRead_short (w : World) (A : Option Addr) (n c : Nat) (b : List UInt8) (limit : Int) (k v : Nat) (hb : Sl w w.heap.size A (bv b)) (h0 : n = b.length) (hc : n ≤ c) (hm : c ≤ maxLen) (h : headS b limit = (k, v, 0)) (hl : b.length < 9 + k + v + 4) :
    Calls Try.prog 51 #[.slice A n c, .int .i64 limit] w (ReadPost w (zeroF, 20)) := by
  have hA := At.new w 47 #[.int .i64 0, .int .u32 0, .int .i64 0, .int .i64 0, .slice none 0 0]
  have b0 := balloc (Below.refl w.heap.size w) (.cells #[.int .i64 0, .int .u32 0, .int .i64 0, .int .i64 0, .slice none 0 0] 47)
  have hs := (hb.below b0).more b0.size
  have hlt1 : w.heap.size < (w.alloc (.cells #[.int .i64 0, .int .u32 0, .int .i64 0, .int .i64 0, .slice none 0 0] 47)).heap.size := by simp
  obtain ⟨_, g2, _, g4, g5, g6, g7, g8⟩ := head_ok h
  have HC := Lib.hid (fun W h1 => Rhead_fine W A n c b limit k v _ _ _ _ h1 h0 hc hm h rfl rfl rfl rfl)
  have hhl : heldN limit ≤ 65536 := by unfold heldN; (repeat' split) <;> omega
  generalize at_ b 2 = y2 at *
  generalize at_ b 7 = y7 at *
  generalize at_ b 8 = y8 at *
  generalize bigF 0 ((b.drop 3).take 4) = gg at *
  have q1 : decide ((n : Int) < 9 + (k : Int) + (v : Int) + 4) = true := by rw [decide_eq_true_eq]; omega
  clear h g4
  clear h0
  go_enter Try.func51, Try.ntmps51
  go_wp2_with fail
  generalize w.alloc (.cells #[.int .i64 0, .int .u32 0, .int .i64 0, .int .i64 0, .slice none 0 0] 47) = w1 at *
  refine (HC.out _ hs).mono ?_
  rintro e w2 ⟨rfl, hb2⟩
  replace hA := (hA.below hb2).alloc (.cells #[.int .i64 (y2 : Int), .int .u32 (gg : Int), .int .i64 (y7 : Int), .int .i64 (y8 : Int), .slice none 0 0] 47)
  replace b0 := b0.trans (hb2.mono b0.size)
  have hF := At.new w2 47 #[.int .i64 (y2 : Int), .int .u32 (gg : Int), .int .i64 (y7 : Int), .int .i64 (y8 : Int), .slice none 0 0]
  have HFW := Lib.hid (show w.heap.size < w2.heap.size by have := hlt1; have := hb2.size; omega)
  have hwF : w2.heap.size ≠ w.heap.size := by have := hA.lt; have := b0.size; have := hlt1; have := hb2.size; omega
  replace b0 := b0.alloc b0.size (.cells #[.int .i64 (y2 : Int), .int .u32 (gg : Int), .int .i64 (y7 : Int), .int .i64 (y8 : Int), .slice none 0 0] 47)
  have hs2 := (hs.below hb2).more hb2.size
  have bx := balloc (Below.refl w2.heap.size w2) (.cells #[.int .i64 (y2 : Int), .int .u32 (gg : Int), .int .i64 (y7 : Int), .int .i64 (y8 : Int), .slice none 0 0] 47)
  replace hs := (hs2.below bx).more bx.size
  have hAz := hA
  have bz := b0
  have a0 := hAz.c 0 rfl
  have a1 := hAz.c 1 rfl
  have a2 := hAz.c 2 rfl
  have a3 := hAz.c 3 rfl
  have a4 := hAz.c 4 rfl
  have f0 := hAz.f 0 rfl
  have f1 := hAz.f 1 rfl
  have f2 := hAz.f 2 rfl
  have f3 := hAz.f 3 rfl
  have f4 := hAz.f 4 rfl
  have hP9 := hAz.putL [.int .i64 0, .int .u32 0, .int .i64 0, .int .i64 0, .slice none 0 0] rfl
  have bP := below_putL [.int .i64 0, .int .u32 0, .int .i64 0, .int .i64 0, .slice none 0 0] 0 bz (g := w.heap.size) (Nat.le_refl _)
  simp only [putL, Nat.zero_add, Nat.reduceAdd] at hP9 bP
  go_wp2_with fail
  have z0 := hP9.c 0 rfl
  have z1 := hP9.c 1 rfl
  have z2 := hP9.c 2 rfl
  have z3 := hP9.c 3 rfl
  have z4 := hP9.c 4 rfl
  exact bodyPost_ret (v := .tuple #[.agg #[.int .i64 0, .int .u32 0, .int .i64 0, .int .i64 0, .slice none 0 0], .int .i64 20]) (by simp [results, Try.results51, go_sem, z0, z1, z2, z3, z4]) rfl (readPost_zero w _ 20 bP)
set_option maxRecDepth 100000 in
set_option maxHeartbeats 3200000 in
theorem RRead_long (w : World) (A : Option Addr) (n c : Nat) (b : List UInt8) (limit : Int) (k v : Nat) (hb : Sl w w.heap.size A (bv b)) (h0 : n = b.length) (hc : n ≤ c) (hm : c ≤ maxLen) (h : headS b limit = (k, v, 0)) (hl : 9 + k + v + 4 < b.length) :
    Calls Try.prog 51 #[.slice A n c, .int .i64 limit] w (ReadPost w (zeroF, 21)) := by
  have hA := At.new w 47 #[.int .i64 0, .int .u32 0, .int .i64 0, .int .i64 0, .slice none 0 0]
  have b0 := balloc (Below.refl w.heap.size w) (.cells #[.int .i64 0, .int .u32 0, .int .i64 0, .int .i64 0, .slice none 0 0] 47)
  have hs := (hb.below b0).more b0.size
  have hlt1 : w.heap.size < (w.alloc (.cells #[.int .i64 0, .int .u32 0, .int .i64 0, .int .i64 0, .slice none 0 0] 47)).heap.size := by simp
  obtain ⟨_, g2, _, g4, g5, g6, g7, g8⟩ := head_ok h
  have HC := Lib.hid (fun W h1 => Rhead_fine W A n c b limit k v _ _ _ _ h1 h0 hc hm h rfl rfl rfl rfl)
  have hhl : heldN limit ≤ 65536 := by unfold heldN; (repeat' split) <;> omega
  generalize at_ b 2 = y2 at *
  generalize at_ b 7 = y7 at *
  generalize at_ b 8 = y8 at *
  generalize bigF 0 ((b.drop 3).take 4) = gg at *
  have q1 : decide ((n : Int) < 9 + (k : Int) + (v : Int) + 4) = false := by rw [decide_eq_false_iff_not]; omega
  have q2 : decide (9 + (k : Int) + (v : Int) + 4 < (n : Int)) = true := by rw [decide_eq_true_eq]; omega
  clear h g4
  clear h0
  go_enter Try.func51, Try.ntmps51
  go_wp2_with fail
  generalize w.alloc (.cells #[.int .i64 0, .int .u32 0, .int .i64 0, .int .i64 0, .slice none 0 0] 47) = w1 at *
  refine (HC.out _ hs).mono ?_
  rintro e w2 ⟨rfl, hb2⟩
  replace hA := (hA.below hb2).alloc (.cells #[.int .i64 (y2 : Int), .int .u32 (gg : Int), .int .i64 (y7 : Int), .int .i64 (y8 : Int), .slice none 0 0] 47)
  replace b0 := b0.trans (hb2.mono b0.size)
  have hF := At.new w2 47 #[.int .i64 (y2 : Int), .int .u32 (gg : Int), .int .i64 (y7 : Int), .int .i64 (y8 : Int), .slice none 0 0]
  have HFW := Lib.hid (show w.heap.size < w2.heap.size by have := hlt1; have := hb2.size; omega)
  have hwF : w2.heap.size ≠ w.heap.size := by have := hA.lt; have := b0.size; have := hlt1; have := hb2.size; omega
  replace b0 := b0.alloc b0.size (.cells #[.int .i64 (y2 : Int), .int .u32 (gg : Int), .int .i64 (y7 : Int), .int .i64 (y8 : Int), .slice none 0 0] 47)
  have hs2 := (hs.below hb2).more hb2.size
  have bx := balloc (Below.refl w2.heap.size w2) (.cells #[.int .i64 (y2 : Int), .int .u32 (gg : Int), .int .i64 (y7 : Int), .int .i64 (y8 : Int), .slice none 0 0] 47)
  replace hs := (hs2.below bx).more bx.size
  have hAz := hA
  have bz := b0
  have a0 := hAz.c 0 rfl
  have a1 := hAz.c 1 rfl
  have a2 := hAz.c 2 rfl
  have a3 := hAz.c 3 rfl
  have a4 := hAz.c 4 rfl
  have f0 := hAz.f 0 rfl
  have f1 := hAz.f 1 rfl
  have f2 := hAz.f 2 rfl
  have f3 := hAz.f 3 rfl
  have f4 := hAz.f 4 rfl
  have hP9 := hAz.putL [.int .i64 0, .int .u32 0, .int .i64 0, .int .i64 0, .slice none 0 0] rfl
  have bP := below_putL [.int .i64 0, .int .u32 0, .int .i64 0, .int .i64 0, .slice none 0 0] 0 bz (g := w.heap.size) (Nat.le_refl _)
  simp only [putL, Nat.zero_add, Nat.reduceAdd] at hP9 bP
  go_wp2_with fail
  have z0 := hP9.c 0 rfl
  have z1 := hP9.c 1 rfl
  have z2 := hP9.c 2 rfl
  have z3 := hP9.c 3 rfl
  have z4 := hP9.c 4 rfl
  exact bodyPost_ret (v := .tuple #[.agg #[.int .i64 0, .int .u32 0, .int .i64 0, .int .i64 0, .slice none 0 0], .int .i64 21]) (by simp [results, Try.results51, go_sem, z0, z1, z2, z3, z4]) rfl (readPost_zero w _ 21 bP)
set_option maxRecDepth 100000 in
set_option maxHeartbeats 3200000 in
theorem RRead_sum (w : World) (A : Option Addr) (n c : Nat) (b : List UInt8) (limit : Int) (k v : Nat) (hb : Sl w w.heap.size A (bv b)) (h0 : n = b.length) (hc : n ≤ c) (hm : c ≤ maxLen) (h : headS b limit = (k, v, 0)) (hl : b.length = 9 + k + v + 4) (ho : openS b = none) :
    Calls Try.prog 51 #[.slice A n c, .int .i64 limit] w (ReadPost w (zeroF, 22)) := by
  have hA := At.new w 47 #[.int .i64 0, .int .u32 0, .int .i64 0, .int .i64 0, .slice none 0 0]
  have b0 := balloc (Below.refl w.heap.size w) (.cells #[.int .i64 0, .int .u32 0, .int .i64 0, .int .i64 0, .slice none 0 0] 47)
  have hs := (hb.below b0).more b0.size
  have hlt1 : w.heap.size < (w.alloc (.cells #[.int .i64 0, .int .u32 0, .int .i64 0, .int .i64 0, .slice none 0 0] 47)).heap.size := by simp
  obtain ⟨_, g2, _, g4, g5, g6, g7, g8⟩ := head_ok h
  have HC := Lib.hid (fun W h1 => Rhead_fine W A n c b limit k v _ _ _ _ h1 h0 hc hm h rfl rfl rfl rfl)
  have hhl : heldN limit ≤ 65536 := by unfold heldN; (repeat' split) <;> omega
  generalize at_ b 2 = y2 at *
  generalize at_ b 7 = y7 at *
  generalize at_ b 8 = y8 at *
  generalize bigF 0 ((b.drop 3).take 4) = gg at *
  have q1 : decide ((n : Int) < 9 + (k : Int) + (v : Int) + 4) = false := by rw [decide_eq_false_iff_not]; omega
  have q2 : decide (9 + (k : Int) + (v : Int) + 4 < (n : Int)) = false := by rw [decide_eq_false_iff_not]; omega
  have HO := Lib.hid (fun W h1 => RefOpen_any W A n c b h1 h0 hc hm (by omega))
  rw [ho] at HO
  clear h g4 ho
  clear h0
  go_enter Try.func51, Try.ntmps51
  go_wp2_with fail
  generalize w.alloc (.cells #[.int .i64 0, .int .u32 0, .int .i64 0, .int .i64 0, .slice none 0 0] 47) = w1 at *
  refine (HC.out _ hs).mono ?_
  rintro e w2 ⟨rfl, hb2⟩
  replace hA := (hA.below hb2).alloc (.cells #[.int .i64 (y2 : Int), .int .u32 (gg : Int), .int .i64 (y7 : Int), .int .i64 (y8 : Int), .slice none 0 0] 47)
  replace b0 := b0.trans (hb2.mono b0.size)
  have hF := At.new w2 47 #[.int .i64 (y2 : Int), .int .u32 (gg : Int), .int .i64 (y7 : Int), .int .i64 (y8 : Int), .slice none 0 0]
  have HFW := Lib.hid (show w.heap.size < w2.heap.size by have := hlt1; have := hb2.size; omega)
  have hwF : w2.heap.size ≠ w.heap.size := by have := hA.lt; have := b0.size; have := hlt1; have := hb2.size; omega
  replace b0 := b0.alloc b0.size (.cells #[.int .i64 (y2 : Int), .int .u32 (gg : Int), .int .i64 (y7 : Int), .int .i64 (y8 : Int), .slice none 0 0] 47)
  have hs2 := (hs.below hb2).more hb2.size
  have bx := balloc (Below.refl w2.heap.size w2) (.cells #[.int .i64 (y2 : Int), .int .u32 (gg : Int), .int .i64 (y7 : Int), .int .i64 (y8 : Int), .slice none 0 0] 47)
  replace hs := (hs2.below bx).more bx.size
  go_wp2_with fail
  generalize w2.alloc (.cells #[.int .i64 (y2 : Int), .int .u32 (gg : Int), .int .i64 (y7 : Int), .int .i64 (y8 : Int), .slice none 0 0] 47) = w3 at *
  generalize w2.heap.size = gF at *
  refine (HO.out _ hs).mono ?_
  rintro e w4 ⟨rfl, hb4⟩
  replace hA := hA.below hb4
  replace b0 := b0.trans (hb4.mono b0.size)
  have hAz := hA
  have bz := b0
  have a0 := hAz.c 0 rfl
  have a1 := hAz.c 1 rfl
  have a2 := hAz.c 2 rfl
  have a3 := hAz.c 3 rfl
  have a4 := hAz.c 4 rfl
  have f0 := hAz.f 0 rfl
  have f1 := hAz.f 1 rfl
  have f2 := hAz.f 2 rfl
  have f3 := hAz.f 3 rfl
  have f4 := hAz.f 4 rfl
  have hP9 := hAz.putL [.int .i64 0, .int .u32 0, .int .i64 0, .int .i64 0, .slice none 0 0] rfl
  have bP := below_putL [.int .i64 0, .int .u32 0, .int .i64 0, .int .i64 0, .slice none 0 0] 0 bz (g := w.heap.size) (Nat.le_refl _)
  simp only [putL, Nat.zero_add, Nat.reduceAdd] at hP9 bP
  go_wp2_with fail
  have z0 := hP9.c 0 rfl
  have z1 := hP9.c 1 rfl
  have z2 := hP9.c 2 rfl
  have z3 := hP9.c 3 rfl
  have z4 := hP9.c 4 rfl
  exact bodyPost_ret (v := .tuple #[.agg #[.int .i64 0, .int .u32 0, .int .i64 0, .int .i64 0, .slice none 0 0], .int .i64 22]) (by simp [results, Try.results51, go_sem, z0, z1, z2, z3, z4]) rfl (readPost_zero w _ 22 bP)
set_option maxRecDepth 100000 in
set_option maxHeartbeats 3200000 in
theorem RRead_ok (w : World) (A : Option Addr) (n c : Nat) (b : List UInt8) (limit : Int) (k v : Nat) (hb : Sl w w.heap.size A (bv b)) (h0 : n = b.length) (hc : n ≤ c) (hm : c ≤ maxLen) (h : headS b limit = (k, v, 0)) (hl : b.length = 9 + k + v + 4) (x : List UInt8) (ho : openS b = some x) :
    Calls Try.prog 51 #[.slice A n c, .int .i64 limit] w (ReadPost w (frOf b k v, 0)) := by
  have hA := At.new w 47 #[.int .i64 0, .int .u32 0, .int .i64 0, .int .i64 0, .slice none 0 0]
  have b0 := balloc (Below.refl w.heap.size w) (.cells #[.int .i64 0, .int .u32 0, .int .i64 0, .int .i64 0, .slice none 0 0] 47)
  have hs := (hb.below b0).more b0.size
  have hlt1 : w.heap.size < (w.alloc (.cells #[.int .i64 0, .int .u32 0, .int .i64 0, .int .i64 0, .slice none 0 0] 47)).heap.size := by simp
  obtain ⟨_, g2, _, g4, g5, g6, g7, g8⟩ := head_ok h
  have HC := Lib.hid (fun W h1 => Rhead_fine W A n c b limit k v _ _ _ _ h1 h0 hc hm h rfl rfl rfl rfl)
  have hhl : heldN limit ≤ 65536 := by unfold heldN; (repeat' split) <;> omega
  obtain ⟨P, hP⟩ : ∃ P, (b.drop (9 + k)).take v = P := ⟨_, rfl⟩
  have lP : P.length = v := by rw [← hP, List.length_take, List.length_drop]; omega
  obtain ⟨fr, hfr⟩ : ∃ fr, frOf b k v = fr := ⟨_, rfl⟩
  have hfr' : fr = ⟨(at_ b 2 : Int), bigF 0 ((b.drop 3).take 4), (at_ b 7 : Int), (at_ b 8 : Int), P⟩ := by rw [← hfr, ← hP]; rfl
  rw [hfr]
  generalize at_ b 2 = y2 at *
  generalize at_ b 7 = y7 at *
  generalize at_ b 8 = y8 at *
  generalize bigF 0 ((b.drop 3).take 4) = gg at *
  have q1 : decide ((n : Int) < 9 + (k : Int) + (v : Int) + 4) = false := by rw [decide_eq_false_iff_not]; omega
  have q2 : decide (9 + (k : Int) + (v : Int) + 4 < (n : Int)) = false := by rw [decide_eq_false_iff_not]; omega
  have HO := Lib.hid (fun W h1 => RefOpen_any W A n c b h1 h0 hc hm (by omega))
  rw [ho] at HO
  have HFR := Lib.hid hfr'
  have HP := Lib.hid (And.intro hP lP)
  have hck : 9 + k + v + 4 ≤ c := by omega
  have hnk : 9 + k + v ≤ n := by omega
  have hbc : b.length ≤ c := by omega
  have hb0 : 0 < (bv b).length := by rw [show (bv b).length = b.length by simp [bv]]; omega
  have HB0 := Lib.hid (And.intro hb0 hbc)
  clear hb0 hbc
  clear h g4 ho hfr hfr' hP lP
  clear h0
  go_enter Try.func51, Try.ntmps51
  go_wp2_with fail
  generalize w.alloc (.cells #[.int .i64 0, .int .u32 0, .int .i64 0, .int .i64 0, .slice none 0 0] 47) = w1 at *
  refine (HC.out _ hs).mono ?_
  rintro e w2 ⟨rfl, hb2⟩
  replace hA := (hA.below hb2).alloc (.cells #[.int .i64 (y2 : Int), .int .u32 (gg : Int), .int .i64 (y7 : Int), .int .i64 (y8 : Int), .slice none 0 0] 47)
  replace b0 := b0.trans (hb2.mono b0.size)
  have hF := At.new w2 47 #[.int .i64 (y2 : Int), .int .u32 (gg : Int), .int .i64 (y7 : Int), .int .i64 (y8 : Int), .slice none 0 0]
  have HFW := Lib.hid (show w.heap.size < w2.heap.size by have := hlt1; have := hb2.size; omega)
  have hwF : w2.heap.size ≠ w.heap.size := by have := hA.lt; have := b0.size; have := hlt1; have := hb2.size; omega
  replace b0 := b0.alloc b0.size (.cells #[.int .i64 (y2 : Int), .int .u32 (gg : Int), .int .i64 (y7 : Int), .int .i64 (y8 : Int), .slice none 0 0] 47)
  have hs2 := (hs.below hb2).more hb2.size
  have bx := balloc (Below.refl w2.heap.size w2) (.cells #[.int .i64 (y2 : Int), .int .u32 (gg : Int), .int .i64 (y7 : Int), .int .i64 (y8 : Int), .slice none 0 0] 47)
  replace hs := (hs2.below bx).more bx.size
  go_wp2_with fail
  generalize w2.alloc (.cells #[.int .i64 (y2 : Int), .int .u32 (gg : Int), .int .i64 (y7 : Int), .int .i64 (y8 : Int), .slice none 0 0] 47) = w3 at *
  generalize w2.heap.size = gF at *
  refine (HO.out _ hs).mono ?_
  rintro e w4 ⟨Ax, cx, rfl, _, hb4⟩
  replace hA := hA.below hb4
  replace hF := hF.below hb4
  replace b0 := b0.trans (hb4.mono b0.size)
  replace hs := (hs.below hb4).more hb4.size
  obtain ⟨bk, o, rfl, _, hbW, _⟩ := hs.at_ (k := 0) HB0.out.1
  have hne : ¬ c = 9 + k := by omega
  have hsP : Sl w4 w4.heap.size (some ⟨bk, o + (9 + k), none⟩) (bv P) := by
    have := (hs.cut (9 + k) c (by simpa using HB0.out.2)).tk v
    rw [bv_drop, bv_take, if_neg hne, Option.map_some, addN, HP.out.1] at this
    exact this
  go_wp2_with (at_builtin; go_loud (refine appG (c := c - (9 + k)) (by rfl) rfl (OwnB.nil w4 w4.heap.size) hsP HP.out.2.symm rfl (by first | rfl | go_simp) (by have := HP.out.2; simp; omega) (Nat.le_refl _) ?_; intro s6 w6 hown6 hg6 hat6; obtain ⟨A6, c6, rfl, hc6, hm6, hs6, _, _⟩ := hown6.form; simp only [List.nil_append] at *; have hb6 : Below w4.heap.size w4 w6 := below_of_grown hg6 (fun k e => by simp [Value.ownBlock] at e) (Nat.le_refl _); have hF5 := hF.lt; replace hF := hF.below hb6; replace hA := hA.below hb6; replace b0 := b0.trans (hb6.mono b0.size); have hF7 := hF.set 4 (.slice A6 P.length c6) (by simp); have hA7 := hA.set_other (g' := gF) 4 (.slice A6 P.length c6) hwF; have b7 := b0.setCell (p := ⟨gF, 4, none⟩) (Nat.le_of_lt HFW.out) (.slice A6 P.length c6); simp only [List.set_cons_succ, List.set_cons_zero] at hF7; have q0 := hF.c 4 rfl; have q1' := hF.f 4 rfl; have c0 := hF7.c 0 rfl; have c1 := hF7.c 1 rfl; have c2 := hF7.c 2 rfl; have c3 := hF7.c 3 rfl; have c4 := hF7.c 4 rfl; have a0 := hA7.c 0 rfl; have a1 := hA7.c 1 rfl; have a2 := hA7.c 2 rfl; have a3 := hA7.c 3 rfl; have a4 := hA7.c 4 rfl; have f0 := hA7.f 0 rfl; have f1 := hA7.f 1 rfl; have f2 := hA7.f 2 rfl; have f3 := hA7.f 3 rfl; have f4 := hA7.f 4 rfl; have hP9 := hA7.putL [.int .i64 (y2 : Int), .int .u32 (gg : Int), .int .i64 (y7 : Int), .int .i64 (y8 : Int), .slice A6 P.length c6] rfl; have bP := below_putL [.int .i64 (y2 : Int), .int .u32 (gg : Int), .int .i64 (y7 : Int), .int .i64 (y8 : Int), .slice A6 P.length c6] 0 b7 (g := w.heap.size) (Nat.le_refl _); have hown7 := own_putL [.slice A6 P.length c6] 4 hown6 (own_above hown6 (g := gF) hF5); have hown9 := own_putL [.int .i64 (y2 : Int), .int .u32 (gg : Int), .int .i64 (y7 : Int), .int .i64 (y8 : Int), .slice A6 P.length c6] 0 hown7 (own_above hown7 (g := w.heap.size) (by have := HFW.out; omega)); simp only [putL, Nat.zero_add, Nat.reduceAdd] at hP9 bP hown9; have HPP := Lib.hid hown9; clear hown7 hown9 hsP hown6))
  go_wp2_with fail
  have z0 := hP9.c 0 rfl
  have z1 := hP9.c 1 rfl
  have z2 := hP9.c 2 rfl
  have z3 := hP9.c 3 rfl
  have z4 := hP9.c 4 rfl
  have hsf := OwnB.sl HPP.out
  rw [HFR.out]
  exact bodyPost_ret (v := .tuple #[.agg #[.int .i64 (y2 : Int), .int .u32 (gg : Int), .int .i64 (y7 : Int), .int .i64 (y8 : Int), .slice A6 P.length c6], .int .i64 0]) (by simp [results, Try.results51, go_sem, z0, z1, z2, z3, z4]) rfl ⟨A6, c6, rfl, hsf.1, hsf.2.1, hsf.2.2, bP⟩
theorem RRead_any (w : World) (A : Option Addr) (n c : Nat) (b : List UInt8) (limit : Int) (hb : Sl w w.heap.size A (bv b)) (h0 : n = b.length) (hc : n ≤ c) (hm : c ≤ maxLen) :
    Calls Try.prog 51 #[.slice A n c, .int .i64 limit] w (ReadPost w (readF b limit)) := by
  unfold readF
  by_cases he : (headS b limit).2.2 = 0
  · obtain ⟨k, v, e, h⟩ : ∃ k v e, headS b limit = (k, v, e) := ⟨_, _, _, rfl⟩
    rw [h] at he
    simp only at he
    subst he
    rw [h]
    rw [if_pos rfl]
    simp only
    unfold bodyF
    by_cases h1 : b.length < 9 + k + v + 4
    · rw [if_pos h1]; exact RRead_short w A n c b limit k v hb h0 hc hm h h1
    · rw [if_neg h1]
      by_cases h2 : 9 + k + v + 4 < b.length
      · rw [if_pos h2]; exact RRead_long w A n c b limit k v hb h0 hc hm h h2
      · rw [if_neg h2]
        cases ho : openS b with
        | none => rw [if_pos rfl]; exact RRead_sum w A n c b limit k v hb h0 hc hm h (by omega) ho
        | some x => rw [if_neg (by simp)]; exact RRead_ok w A n c b limit k v hb h0 hc hm h (by omega) x ho
  · rw [if_neg he]; exact RRead_bad w A n c b limit _ hb h0 hc hm rfl he
end Go.Proofs.Ytkgmbpbbgkjidaa

