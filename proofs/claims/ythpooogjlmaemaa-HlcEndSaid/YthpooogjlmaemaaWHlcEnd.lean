/- 'HlcEnd': the walk of the law. -/
import Derived.Test.YthpooogjlmaemaaHlcF
import Derived.Test.YthpooogjlmaemaaFrame
namespace Go.Proofs.Ythpooogjlmaemaa
open Go.RowKit

/-- the clock after t of the last steps -/
def endC (M N R t : Nat) : Clk := ⟨⟨281474976710655 - (N : Int) + ((t + M) / (M + 1) : Nat), ((t + M) % (M + 1) : Nat), (R : Int)⟩, (M : Int), 281474976710655⟩
theorem endC_ok (M N R t : Nat) (hM : M < 4) (hN : N < 3) (ht : t ≤ N * (M + 1)) : (endC M N R t).ok := by
  unfold endC Clk.ok
  simp only
  rcases (by omega : M = 0 ∨ M = 1 ∨ M = 2 ∨ M = 3) with rfl | rfl | rfl | rfl <;> omega
theorem end_peek (M N R t : Nat) (now : Int) (hM : M < 4) (hN : N < 3) (h0 : 0 ≤ now) (h1 : now ≤ 255) (ht : t ≤ N * (M + 1)) :
    peekS (endC M N R t) now = if t < N * (M + 1) then ((endC M N R (t + 1)).s, 0) else (⟨0, 0, 0⟩, 27) := by
  have hn : timedB now = true := by simp [timedB]; omega
  unfold peekS
  rw [if_pos hn]
  unfold stepS endC
  simp only
  rcases (by omega : M = 0 ∨ M = 1 ∨ M = 2 ∨ M = 3) with rfl | rfl | rfl | rfl
  all_goals
    simp only [Nat.reduceAdd, Nat.zero_add, Nat.add_zero, Nat.div_one, Nat.mod_one, Nat.mul_one] at *
    rw [if_neg (by omega)]
    (repeat' split)
    all_goals first
      | rfl
      | (exfalso; omega)
      | (simp only [endS]; rw [if_neg (by omega)]; simp only [Prod.mk.injEq, S3.mk.injEq, and_true]; omega)
theorem end_lt (M N R t : Nat) (hM : M < 4) : (endC M N R t).s.lt (endC M N R (t + 1)).s = true := by
  unfold endC S3.lt
  rw [decide_eq_true_eq]
  simp only
  rcases (by omega : M = 0 ∨ M = 1 ∨ M = 2 ∨ M = 3) with rfl | rfl | rfl | rfl <;> omega
set_option maxRecDepth 100000 in
set_option maxHeartbeats 6400000 in
theorem HlcEnd_walk (w : World) (most : Nat) (hmo : most < 65536) (k : Nat) (hk : k < 256) (n : Nat) (hn : n < 256) :
    Calls Try.prog 7 #[.int .u16 (most : Int), .int .u8 (k : Int), .int .u8 (n : Int)] w fun e w' => e = .returned (.bool true) ∧ Below w.heap.size w w' := by
  have k64 : (k : Int) % 64 = ((k % 64 : Nat) : Int) := by omega
  have m4 : (most : Int) % 4 = ((most % 4 : Nat) : Int) := by omega
  have n3 : (n : Int) % 3 = ((n % 3 : Nat) : Int) := by omega
  have ka : k % 64 < 64 := by omega
  have ma : most % 4 < 4 := by omega
  have na : n % 3 < 3 := by omega
  generalize k % 64 = R at *
  generalize most % 4 = M at *
  generalize n % 3 = N at *
  have hnew := fun W => New_ok W (R : Int) (M : Int) 281474976710655 (by omega) (by omega) (by decide)
  have hfl : floorC ⟨⟨0, 0, (R : Int)⟩, (M : Int), 281474976710655⟩ (281474976710655 - (N : Int)) = endC M N R 0 := by
    have hp : phS (281474976710655 - (N : Int)) = 281474976710655 - (N : Int) := by unfold phS; rw [if_neg (by omega), if_neg (by omega)]
    unfold floorC
    rw [hp, if_pos (by unfold S3.lt; rw [decide_eq_true_eq]; simp only; omega)]
    unfold endC
    rcases (by omega : M = 0 ∨ M = 1 ∨ M = 2 ∨ M = 3) with rfl | rfl | rfl | rfl <;> simp
  have hpk := fun t ht => end_peek M N R t (n : Int) ma na (by omega) (by omega) ht
  have hlt := fun t => end_lt M N R t ma
  have hok := fun t ht => endC_ok M N R t ma na ht
  obtain ⟨T, hT⟩ : ∃ T, N * (M + 1) = T := ⟨_, rfl⟩
  have hTi : (N : Int) * ((M : Int) + 1) = (T : Int) := by rw [← hT]; simp
  have hT8 : T ≤ 8 := by
    rw [← hT]
    rcases (by omega : N = 0 ∨ N = 1 ∨ N = 2) with rfl | rfl | rfl <;> omega
  have hend : (endC M N R T).s = ⟨281474976710655, (M : Int), (R : Int)⟩ := by
    rw [← hT]
    unfold endC
    simp only [S3.mk.injEq, and_true]
    rcases (by omega : M = 0 ∨ M = 1 ∨ M = 2 ∨ M = 3) with rfl | rfl | rfl | rfl <;> omega
  have hnx : ∀ t, nextC (endC M N R t) (n : Int) = if (peekS (endC M N R t) (n : Int)).2 = 0 then { endC M N R t with s := (peekS (endC M N R t) (n : Int)).1 } else endC M N R t := fun t => rfl
  have hn1 : ∀ t, { endC M N R t with s := (endC M N R (t + 1)).s } = endC M N R (t + 1) := fun t => rfl
  rw [hT] at hpk hok
  have H := Lib.hid (And.intro hfl (And.intro hpk (And.intro hlt (And.intro hok (And.intro hend (And.intro hnx hn1))))))
  have HT := Lib.hid hT
  clear hfl hpk hlt hok hend hnx hn1 hT
  go_enter Try.func7, Try.ntmps7
  go_wp2_with fail
  refine (hlcKnown_any w).mono ?_
  rintro e w1 ⟨rfl, hb1⟩
  go_wp2_with fail
  refine (hnew w1).mono ?_
  clear hnew
  rintro e w2 ⟨g, rfl, hg, hst2, hb2⟩
  have hb2' := bstep hb1 hb2
  have hgw : w.heap.size ≤ g := Nat.le_trans hb1.size hg
  clear hb2 hg
  go_wp2_with fail
  refine (Floor_any w2 g _ (281474976710655 - (N : Int)) hst2).mono ?_
  rintro e w3 ⟨rfl, hst3, hg3⟩
  rw [H.out.1] at hst3
  have hb3 := below_grown hb2' hg3 hgw hb2'.size
  clear hst2 hg3
  go_wp2_with fail
  go_loopw [9] (fun x9 wr => ∃ i : Nat, i ≤ 12 ∧ x9 = .int .i64 (i : Int) ∧ Below w.heap.size w wr ∧ StandsC wr g (endC M N R (min i T))) (fun x9 _ => 12 - (intOf x9).toNat)
  case atStart => exact ⟨0, by omega, rfl, hb3, by rw [Nat.min_eq_left (by omega)]; exact hst3⟩
  case round =>
    obtain ⟨i, hi, rfl, hbel, hst⟩ := hrel
    have hok := H.out.2.2.2.1 (min i T) (by omega)
    by_cases h12 : i < 12
    · have hz : w.heap.size ≤ wr.heap.size := hbel.size
      have hpk := H.out.2.1 (min i T) (by omega)
      have hnxt := H.out.2.2.2.2.2.1 (min i T)
      have hN := fun W h => Next_any W g (endC M N R (min i T)) (n : Int) h hok
      by_cases hiT : i < T
      · rw [Nat.min_eq_left (by omega)] at *
        rw [if_pos hiT] at hpk
        rw [hpk] at hnxt hN
        simp only [if_true] at hnxt
        rw [H.out.2.2.2.2.2.2 i] at hnxt
        rw [hnxt] at hN
        have hlt := H.out.2.2.1 i
        have hmin : min (i + 1) T = i + 1 := by omega
        clear hpk hnxt
        generalize endC M N R i = ci at *
        generalize hcj : endC M N R (i + 1) = cj at *
        have HCJ := Lib.hid hcj
        clear hcj
        have HN := Lib.hid hN
        have HL := Lib.hid (fun W => RefLess_any W ci.s cj.s)
        rw [hlt] at HL
        clear hN hlt
        go_wp2_with fail
        refine (Last_any wr g ci hst).mono ?_
        rintro e w4 ⟨rfl, hb4⟩
        have hst4 := hst.below hb4
        have b4 := hbel.trans (hb4.mono hbel.size)
        unfold S3.v
        go_wp2_with fail
        have vw := Stands.new w4 23 ci.s
        replace hst4 := hst4.alloc (.cells #[.int .i64 ci.s.p, .int .i64 ci.s.l, .int .i64 ci.s.r] 23)
        replace b4 := b4.alloc b4.size (.cells #[.int .i64 ci.s.p, .int .i64 ci.s.l, .int .i64 ci.s.r] 23)
        have hgv : w4.heap.size ≠ g := by have := hst.1.1; have := hb4.size; omega
        generalize w4.alloc (.cells #[.int .i64 ci.s.p, .int .i64 ci.s.l, .int .i64 ci.s.r] 23) = w5 at *
        generalize w4.heap.size = gv at *
        refine (HN.out w5 hst4).mono ?_
        rintro e w6 ⟨rfl, hst6, hg6⟩
        replace vw := vw.grown hg6 hgv
        have b6 := below_grown b4 hg6 hgw b4.size
        have vs := Stands.new w6 23 cj.s
        replace hst6 := hst6.alloc (.cells #[.int .i64 cj.s.p, .int .i64 cj.s.l, .int .i64 cj.s.r] 23)
        replace vw := vw.alloc (.cells #[.int .i64 cj.s.p, .int .i64 cj.s.l, .int .i64 cj.s.r] 23)
        replace b6 := b6.alloc b6.size (.cells #[.int .i64 cj.s.p, .int .i64 cj.s.l, .int .i64 cj.s.r] 23)
        have hpos : 0 < (T : Int) - (i : Int) := by omega
        obtain ⟨_, f0, f1, f2, _, _, _⟩ := id vw
        obtain ⟨_, f3, f4, f5, _, _, _⟩ := id vs
        clear hst4 b4 hb4 hg6 hst
        unfold S3.v
        go_wp2_with fail
        generalize w6.alloc (.cells #[.int .i64 cj.s.p, .int .i64 cj.s.l, .int .i64 cj.s.r] 23) = w7 at *
        generalize w6.heap.size = gs at *
        refine (HL.out _).mono ?_
        rintro e w8 ⟨rfl, hb8⟩
        have hst8 := hst6.below hb8
        have b8 := b6.trans (hb8.mono b6.size)
        clear f0 f1 f2 f3 f4 f5
        go_wp2_with fail
        have hle : decide ((T : Int) - (i : Int) ≤ 0) = false := by rw [decide_eq_false_iff_not]; omega
        refine bstart (by kernel_rfl) ?_
        refine btake 0 (oi := _) (v := ?_) (by simp only [List.getElem?_toArray, List.getElem?_cons_succ, List.getElem?_cons_zero]; rfl) (by kernel_rfl) (by exact fun _ _ _ h => h) (by first | assumption | exact KB.refl _) (.inl ⟨by rfl, fun W hW => ?_⟩) ?_; rotate_left
        · (go_simp; first | done | with_reducible rfl)
        try simp only [Act.put, List.setIfInBounds_toArray, List.set_cons_zero, List.set_cons_succ]
        refine btake 1 (oi := _) (v := ?_) (by simp only [List.getElem?_toArray, List.getElem?_cons_succ, List.getElem?_cons_zero]; rfl) (by kernel_rfl) (by exact fun _ _ _ h => h) (by first | assumption | exact KB.refl _) (.inl ⟨by rfl, fun W hW => ?_⟩) ?_; rotate_left
        · (go_simp; first | done | with_reducible rfl)
        try simp only [Act.put, List.setIfInBounds_toArray, List.set_cons_zero, List.set_cons_succ]
        refine btake 2 (oi := _) (v := ?_) (by simp only [List.getElem?_toArray, List.getElem?_cons_succ, List.getElem?_cons_zero]; rfl) (by kernel_rfl) (by exact fun _ _ _ h => h) (by first | assumption | exact KB.refl _) (.inl ⟨by rfl, fun W hW => ?_⟩) ?_; rotate_left
        · (go_simp; first | done | with_reducible rfl)
        try simp only [Act.put, List.setIfInBounds_toArray, List.set_cons_zero, List.set_cons_succ]
        refine btake 3 (oi := _) (v := undef) (by simp only [List.getElem?_toArray, List.getElem?_cons_succ, List.getElem?_cons_zero]; rfl) (by kernel_rfl) (by exact fun _ _ _ h => h) (by first | assumption | exact KB.refl _) (.inr ⟨by rfl, rfl⟩) ?_
        try simp only [Act.put, List.setIfInBounds_toArray, List.set_cons_zero, List.set_cons_succ]
        refine btake 4 (oi := _) (v := undef) (by simp only [List.getElem?_toArray, List.getElem?_cons_succ, List.getElem?_cons_zero]; rfl) (by kernel_rfl) (by exact fun _ _ _ h => h) (by first | assumption | exact KB.refl _) (.inr ⟨by rfl, rfl⟩) ?_
        try simp only [Act.put, List.setIfInBounds_toArray, List.set_cons_zero, List.set_cons_succ]
        refine btake 5 (oi := _) (v := undef) (by simp only [List.getElem?_toArray, List.getElem?_cons_succ, List.getElem?_cons_zero]; rfl) (by kernel_rfl) (by exact fun _ _ _ h => h) (by first | assumption | exact KB.refl _) (.inr ⟨by rfl, rfl⟩) ?_
        try simp only [Act.put, List.setIfInBounds_toArray, List.set_cons_zero, List.set_cons_succ]
        refine btake 6 (oi := _) (v := undef) (by simp only [List.getElem?_toArray, List.getElem?_cons_succ, List.getElem?_cons_zero]; rfl) (by kernel_rfl) (by exact fun _ _ _ h => h) (by first | assumption | exact KB.refl _) (.inr ⟨by rfl, rfl⟩) ?_
        try simp only [Act.put, List.setIfInBounds_toArray, List.set_cons_zero, List.set_cons_succ]
        refine btake 7 (oi := _) (v := undef) (by simp only [List.getElem?_toArray, List.getElem?_cons_succ, List.getElem?_cons_zero]; rfl) (by kernel_rfl) (by exact fun _ _ _ h => h) (by first | assumption | exact KB.refl _) (.inr ⟨by rfl, rfl⟩) ?_
        try simp only [Act.put, List.setIfInBounds_toArray, List.set_cons_zero, List.set_cons_succ]
        refine btake 8 (oi := _) (v := undef) (by simp only [List.getElem?_toArray, List.getElem?_cons_succ, List.getElem?_cons_zero]; rfl) (by kernel_rfl) (by exact fun _ _ _ h => h) (by first | assumption | exact KB.refl _) (.inr ⟨by rfl, rfl⟩) ?_
        try simp only [Act.put, List.setIfInBounds_toArray, List.set_cons_zero, List.set_cons_succ]
        refine btake 9 (oi := _) (v := undef) (by simp only [List.getElem?_toArray, List.getElem?_cons_succ, List.getElem?_cons_zero]; rfl) (by kernel_rfl) (by exact fun _ _ _ h => h) (by first | assumption | exact KB.refl _) (.inr ⟨by rfl, rfl⟩) ?_
        try simp only [Act.put, List.setIfInBounds_toArray, List.set_cons_zero, List.set_cons_succ]
        refine btake 10 (oi := _) (v := undef) (by simp only [List.getElem?_toArray, List.getElem?_cons_succ, List.getElem?_cons_zero]; rfl) (by kernel_rfl) (by exact fun _ _ _ h => h) (by first | assumption | exact KB.refl _) (.inr ⟨by rfl, rfl⟩) ?_
        try simp only [Act.put, List.setIfInBounds_toArray, List.set_cons_zero, List.set_cons_succ]
        refine btake 11 (oi := _) (v := undef) (by simp only [List.getElem?_toArray, List.getElem?_cons_succ, List.getElem?_cons_zero]; rfl) (by kernel_rfl) (by exact fun _ _ _ h => h) (by first | assumption | exact KB.refl _) (.inr ⟨by rfl, rfl⟩) ?_
        try simp only [Act.put, List.setIfInBounds_toArray, List.set_cons_zero, List.set_cons_succ]
        refine btake 12 (oi := _) (v := undef) (by simp only [List.getElem?_toArray, List.getElem?_cons_succ, List.getElem?_cons_zero]; rfl) (by kernel_rfl) (by exact fun _ _ _ h => h) (by first | assumption | exact KB.refl _) (.inr ⟨by rfl, rfl⟩) ?_
        try simp only [Act.put, List.setIfInBounds_toArray, List.set_cons_zero, List.set_cons_succ]
        refine btake 13 (oi := _) (v := undef) (by simp only [List.getElem?_toArray, List.getElem?_cons_succ, List.getElem?_cons_zero]; rfl) (by kernel_rfl) (by exact fun _ _ _ h => h) (by first | assumption | exact KB.refl _) (.inr ⟨by rfl, rfl⟩) ?_
        try simp only [Act.put, List.setIfInBounds_toArray, List.set_cons_zero, List.set_cons_succ]
        refine btake 14 (oi := _) (v := undef) (by simp only [List.getElem?_toArray, List.getElem?_cons_succ, List.getElem?_cons_zero]; rfl) (by kernel_rfl) (by exact fun _ _ _ h => h) (by first | assumption | exact KB.refl _) (.inr ⟨by rfl, rfl⟩) ?_
        try simp only [Act.put, List.setIfInBounds_toArray, List.set_cons_zero, List.set_cons_succ]
        refine btake 15 (oi := _) (v := undef) (by simp only [List.getElem?_toArray, List.getElem?_cons_succ, List.getElem?_cons_zero]; rfl) (by kernel_rfl) (by exact fun _ _ _ h => h) (by first | assumption | exact KB.refl _) (.inr ⟨by rfl, rfl⟩) ?_
        try simp only [Act.put, List.setIfInBounds_toArray, List.set_cons_zero, List.set_cons_succ]
        refine btake 16 (oi := _) (v := ?_) (by simp only [List.getElem?_toArray, List.getElem?_cons_succ, List.getElem?_cons_zero]; rfl) (by kernel_rfl) (by exact fun _ _ _ h => h) (by first | assumption | exact KB.refl _) (.inl ⟨by rfl, fun W hW => ?_⟩) ?_; rotate_left
        · (go_simp; first | done | with_reducible rfl)
        try simp only [Act.put, List.setIfInBounds_toArray, List.set_cons_zero, List.set_cons_succ]
        refine btake 17 (oi := _) (v := ?_) (by simp only [List.getElem?_toArray, List.getElem?_cons_succ, List.getElem?_cons_zero]; rfl) (by kernel_rfl) (by exact fun _ _ _ h => h) (by first | assumption | exact KB.refl _) (.inl ⟨by rfl, fun W hW => ?_⟩) ?_; rotate_left
        · (go_simp; first | done | with_reducible rfl)
        try simp only [Act.put, List.setIfInBounds_toArray, List.set_cons_zero, List.set_cons_succ]
        refine bdone (by kernel_rfl) ?_
        go_wp2_with fail
        go_roundw
        case rel => exact ⟨i + 1, by omega, by go_num, b8.drew, by rw [hmin, HCJ.out]; exact hst8.below (Below.refl _ _).drew⟩
        case measure => simp [intOf]; omega
      · rw [Nat.min_eq_right (by omega)] at *
        rw [if_neg (by omega)] at hpk
        rw [hpk] at hnxt hN
        simp only at hnxt
        rw [if_neg (by omega)] at hnxt
        rw [hnxt] at hN
        have hmin : min (i + 1) T = T := by omega
        clear hpk hnxt
        generalize hcj : endC M N R T = ci at *
        have HCJ := Lib.hid hcj
        clear hcj
        have HN := Lib.hid hN
        clear hN
        go_wp2_with fail
        refine (Last_any wr g ci hst).mono ?_
        rintro e w4 ⟨rfl, hb4⟩
        have hst4 := hst.below hb4
        have b4 := hbel.trans (hb4.mono hbel.size)
        unfold S3.v
        go_wp2_with fail
        have vw := Stands.new w4 23 ci.s
        replace hst4 := hst4.alloc (.cells #[.int .i64 ci.s.p, .int .i64 ci.s.l, .int .i64 ci.s.r] 23)
        replace b4 := b4.alloc b4.size (.cells #[.int .i64 ci.s.p, .int .i64 ci.s.l, .int .i64 ci.s.r] 23)
        have hgv : w4.heap.size ≠ g := by have := hst.1.1; have := hb4.size; omega
        generalize w4.alloc (.cells #[.int .i64 ci.s.p, .int .i64 ci.s.l, .int .i64 ci.s.r] 23) = w5 at *
        generalize w4.heap.size = gv at *
        refine (HN.out w5 hst4).mono ?_
        rintro e w6 ⟨rfl, hst6, hg6⟩
        replace vw := vw.grown hg6 hgv
        have b6 := below_grown b4 hg6 hgw b4.size
        have vs := Stands.new w6 23 ⟨0, 0, 0⟩
        replace hst6 := hst6.alloc (.cells #[.int .i64 0, .int .i64 0, .int .i64 0] 23)
        replace vw := vw.alloc (.cells #[.int .i64 0, .int .i64 0, .int .i64 0] 23)
        replace b6 := b6.alloc b6.size (.cells #[.int .i64 0, .int .i64 0, .int .i64 0] 23)
        have hpos : decide (0 < (T : Int) - (i : Int)) = false := by rw [decide_eq_false_iff_not]; omega
        have hle : decide ((T : Int) - (i : Int) ≤ 0) = true := by rw [decide_eq_true_eq]; omega
        clear hst4 b4 hb4 hg6 hst
        unfold S3.v
        go_wp2_with fail
        generalize w6.alloc (.cells #[.int .i64 0, .int .i64 0, .int .i64 0] 23) = w7 at *
        generalize w6.heap.size = gs at *
        have e0 := cellB vw.2.1
        have e1 := cellB vw.2.2.1
        have e2 := cellB vw.2.2.2.1
        have e3 := cellB vs.2.1
        have e4 := cellB vs.2.2.1
        have e5 := cellB vs.2.2.2.1
        simp only at e3 e4 e5
        refine bstart (by kernel_rfl) ?_
        refine btake 0 (oi := _) (v := ?_) (by simp only [List.getElem?_toArray, List.getElem?_cons_succ, List.getElem?_cons_zero]; rfl) (by kernel_rfl) (by exact fun _ _ _ h => h) (by first | assumption | exact KB.refl _) (.inl ⟨by rfl, fun W hW => ?_⟩) ?_; rotate_left
        · (go_simp; first | done | with_reducible rfl)
        try simp only [Act.put, List.setIfInBounds_toArray, List.set_cons_zero, List.set_cons_succ]
        refine btake 1 (oi := _) (v := ?_) (by simp only [List.getElem?_toArray, List.getElem?_cons_succ, List.getElem?_cons_zero]; rfl) (by kernel_rfl) (by exact fun _ _ _ h => h) (by first | assumption | exact KB.refl _) (.inl ⟨by rfl, fun W hW => ?_⟩) ?_; rotate_left
        · (go_simp; first | done | with_reducible rfl)
        try simp only [Act.put, List.setIfInBounds_toArray, List.set_cons_zero, List.set_cons_succ]
        refine btake 2 (oi := _) (v := ?_) (by simp only [List.getElem?_toArray, List.getElem?_cons_succ, List.getElem?_cons_zero]; rfl) (by kernel_rfl) (by exact fun _ _ _ h => h) (by first | assumption | exact KB.refl _) (.inl ⟨by rfl, fun W hW => ?_⟩) ?_; rotate_left
        · (go_simp; first | done | with_reducible rfl)
        try simp only [Act.put, List.setIfInBounds_toArray, List.set_cons_zero, List.set_cons_succ]
        refine btake 3 (oi := _) (v := ?_) (by simp only [List.getElem?_toArray, List.getElem?_cons_succ, List.getElem?_cons_zero]; rfl) (by kernel_rfl) (by exact fun _ _ _ h => h) (by first | assumption | exact KB.refl _) (.inl ⟨by rfl, fun W hW => ?_⟩) ?_; rotate_left
        · (go_simp; first | done | with_reducible rfl)
        try simp only [Act.put, List.setIfInBounds_toArray, List.set_cons_zero, List.set_cons_succ]
        refine btake 4 (oi := _) (v := ?_) (by simp only [List.getElem?_toArray, List.getElem?_cons_succ, List.getElem?_cons_zero]; rfl) (by kernel_rfl) (by exact fun _ _ _ h => h) (by first | assumption | exact KB.refl _) (.inl ⟨by rfl, fun W hW => ?_⟩) ?_; rotate_left
        · (go_simp; first | done | with_reducible rfl)
        try simp only [Act.put, List.setIfInBounds_toArray, List.set_cons_zero, List.set_cons_succ]
        refine btake 5 (oi := _) (v := ?_) (by simp only [List.getElem?_toArray, List.getElem?_cons_succ, List.getElem?_cons_zero]; rfl) (by kernel_rfl) (by exact fun _ _ _ h => h) (by first | assumption | exact KB.refl _) (.inl ⟨by rfl, fun W hW => ?_⟩) ?_; rotate_left
        · (go_simp; first | done | with_reducible rfl)
        try simp only [Act.put, List.setIfInBounds_toArray, List.set_cons_zero, List.set_cons_succ]
        refine btake 6 (oi := _) (v := ?_) (by simp only [List.getElem?_toArray, List.getElem?_cons_succ, List.getElem?_cons_zero]; rfl) (by kernel_rfl) (by exact fun _ _ _ h => h) (by first | assumption | exact KB.refl _) (.inl ⟨by rfl, fun W hW => ?_⟩) ?_; rotate_left
        · (go_simp; first | done | with_reducible rfl)
        try simp only [Act.put, List.setIfInBounds_toArray, List.set_cons_zero, List.set_cons_succ]
        refine btake 7 (oi := _) (v := ?_) (by simp only [List.getElem?_toArray, List.getElem?_cons_succ, List.getElem?_cons_zero]; rfl) (by kernel_rfl) (by exact fun _ _ _ h => h) (by first | assumption | exact KB.refl _) (.inl ⟨by rfl, fun W hW => ?_⟩) ?_; rotate_left
        · (go_simp; first | done | with_reducible rfl)
        try simp only [Act.put, List.setIfInBounds_toArray, List.set_cons_zero, List.set_cons_succ]
        refine btake 8 (oi := _) (v := ?_) (by simp only [List.getElem?_toArray, List.getElem?_cons_succ, List.getElem?_cons_zero]; rfl) (by kernel_rfl) (by exact fun _ _ _ h => h) (by first | assumption | exact KB.refl _) (.inl ⟨by rfl, fun W hW => ?_⟩) ?_; rotate_left
        · (go_simp; first | done | with_reducible rfl)
        try simp only [Act.put, List.setIfInBounds_toArray, List.set_cons_zero, List.set_cons_succ]
        refine btake 9 (oi := _) (v := ?_) (by simp only [List.getElem?_toArray, List.getElem?_cons_succ, List.getElem?_cons_zero]; rfl) (by kernel_rfl) (by exact fun _ _ _ h => h) (by first | assumption | exact KB.refl _) (.inl ⟨by rfl, fun W hW => ?_⟩) ?_; rotate_left
        · (go_simp; first | done | with_reducible rfl)
        try simp only [Act.put, List.setIfInBounds_toArray, List.set_cons_zero, List.set_cons_succ]
        refine btake 10 (oi := _) (v := ?_) (by simp only [List.getElem?_toArray, List.getElem?_cons_succ, List.getElem?_cons_zero]; rfl) (by kernel_rfl) (by exact fun _ _ _ h => h) (by first | assumption | exact KB.refl _) (.inl ⟨by rfl, fun W hW => ?_⟩) ?_; rotate_left
        · (go_simp; first | done | with_reducible rfl)
        try simp only [Act.put, List.setIfInBounds_toArray, List.set_cons_zero, List.set_cons_succ]
        refine btake 11 (oi := _) (v := ?_) (by simp only [List.getElem?_toArray, List.getElem?_cons_succ, List.getElem?_cons_zero]; rfl) (by kernel_rfl) (by exact fun _ _ _ h => h) (by first | assumption | exact KB.refl _) (.inl ⟨by rfl, fun W hW => ?_⟩) ?_; rotate_left
        · (go_simp; first | done | with_reducible rfl)
        try simp only [Act.put, List.setIfInBounds_toArray, List.set_cons_zero, List.set_cons_succ]
        refine btake 13 (oi := _) (v := ?_) (by simp only [List.getElem?_toArray, List.getElem?_cons_succ, List.getElem?_cons_zero]; rfl) (by kernel_rfl) (by exact fun _ _ _ h => h) (by first | assumption | exact KB.refl _) (.inl ⟨by rfl, fun W hW => ?_⟩) ?_; rotate_left
        · (go_simp; first | done | with_reducible rfl)
        try simp only [Act.put, List.setIfInBounds_toArray, List.set_cons_zero, List.set_cons_succ]
        -- 12: (*newsreel/hlc.Clock).Last
        refine bop 12 (o := _) (by simp only [List.getElem?_toArray, List.getElem?_cons_succ, List.getElem?_cons_zero]; rfl) (by kernel_rfl) (by first | assumption | exact KB.refl _) (by rfl) (fun K hK => ?_)
        go_simp
        refine (Last_any w7.drew g ci (hst6.below (Below.refl _ _).drew)).mono ?_
        rintro e w8 ⟨rfl, hb8⟩
        have hB8 : Below w7.heap.size w7 w8 := (Below.refl _ w7).drew.trans hb8
        have vw := vw.below hB8
        have e0 := cellB vw.2.1
        have e1 := cellB vw.2.2.1
        have e2 := cellB vw.2.2.2.1
        have hkb := KB.of hb8
        unfold S3.v
        refine hK.out _ _ hkb ?_; clear hK K
        try simp only [Act.put, List.setIfInBounds_toArray, List.set_cons_zero, List.set_cons_succ]
        refine btake 14 (oi := _) (v := ?_) (by simp only [List.getElem?_toArray, List.getElem?_cons_succ, List.getElem?_cons_zero]; rfl) (by kernel_rfl) (by exact fun _ _ _ h => h) (by first | assumption | exact KB.refl _) (.inl ⟨by rfl, fun W hW => ?_⟩) ?_; rotate_left
        · (go_simp; first | done | with_reducible rfl)
        try simp only [Act.put, List.setIfInBounds_toArray, List.set_cons_zero, List.set_cons_succ]
        refine btake 15 (oi := _) (v := ?_) (by simp only [List.getElem?_toArray, List.getElem?_cons_succ, List.getElem?_cons_zero]; rfl) (by kernel_rfl) (by exact fun _ _ _ h => h) (by first | assumption | exact KB.refl _) (.inl ⟨by rfl, fun W hW => ?_⟩) ?_; rotate_left
        · (go_simp; first | done | with_reducible rfl)
        try simp only [Act.put, List.setIfInBounds_toArray, List.set_cons_zero, List.set_cons_succ]
        refine btake 16 (oi := _) (v := ?_) (by simp only [List.getElem?_toArray, List.getElem?_cons_succ, List.getElem?_cons_zero]; rfl) (by kernel_rfl) (by exact fun _ _ _ h => h) (by first | assumption | exact KB.refl _) (.inl ⟨by rfl, fun W hW => ?_⟩) ?_; rotate_left
        · (go_simp; first | done | with_reducible rfl)
        try simp only [Act.put, List.setIfInBounds_toArray, List.set_cons_zero, List.set_cons_succ]
        refine btake 17 (oi := _) (v := ?_) (by simp only [List.getElem?_toArray, List.getElem?_cons_succ, List.getElem?_cons_zero]; rfl) (by kernel_rfl) (by exact fun _ _ _ h => h) (by first | assumption | exact KB.refl _) (.inl ⟨by rfl, fun W hW => ?_⟩) ?_; rotate_left
        · (go_simp; first | done | with_reducible rfl)
        try simp only [Act.put, List.setIfInBounds_toArray, List.set_cons_zero, List.set_cons_succ]
        refine bdone (by kernel_rfl) ?_
        have hst8 := hst6.below hB8
        have b8 := b6.trans (hB8.mono b6.size)
        go_wp2_with fail
        go_roundw
        case rel => exact ⟨i + 1, by omega, by go_num, b8, by rw [hmin, HCJ.out]; exact hst8⟩
        case measure => simp [intOf]; omega
    · have hi12 : i = 12 := by omega
      rw [hi12, Nat.min_eq_right (by omega)] at hst
      have hla := Last_any wr g _ hst
      rw [H.out.2.2.2.2.1] at hla
      have Hi := Lib.hid hi12
      clear hi12
      unfold S3.v at hla
      go_wp2_with fail
      refine hla.mono ?_
      rintro e w9 ⟨rfl, hb9⟩
      go_wp2_with fail
      go_ret
      exact ⟨rfl, hbel.trans (hb9.mono hbel.size)⟩
end Go.Proofs.Ythpooogjlmaemaa

