/- 'FrameStream': the walk of the law. -/
import Derived.Test.YtkgmbpbbgkjidaaFrB
import Derived.Test.YtkgmbpbbgkjidaaMatF
namespace Go.Proofs.Ytkgmbpbbgkjidaa
open Go.RowKit Go.Proofs.Ytkgmbpbbgkjidaa.Pl Go.Proofs.Ytkgmbpbbgkjidaa.Pc

theorem u8_and63 (k : Nat) (hk : k < 256) : bits .and .u8 (k : Int) 63 = ((k % 64 : Nat) : Int) := by
  rw [show (63 : Int) = ((63 : Nat) : Int) from rfl, u8_and_nat _ _ hk (by omega), show (63 : Nat) = 2 ^ 6 - 1 from rfl, Nat.and_two_pow_sub_one_eq_mod]
def stF (K2 G i : Nat) (l : List UInt8) : Fr := ⟨(K2 : Int) + 1, i, (i : Int), (G : Int), l.take 300⟩
def stB (K2 G : Nat) : Nat → List (List UInt8) → List UInt8
  | _, [] => []
  | i, l :: ls => (stF K2 G i l).bytes ++ stB K2 G (i + 1) ls
theorem stB_snoc (K2 G : Nat) : ∀ (xs : List (List UInt8)) (i : Nat) (x : List UInt8), stB K2 G i (xs ++ [x]) = stB K2 G i xs ++ (stF K2 G (i + xs.length) x).bytes
  | [], i, x => by simp [stB]
  | y :: ys, i, x => by
    rw [List.cons_append]
    unfold stB
    rw [stB_snoc K2 G ys (i + 1) x, List.append_assoc]
    congr 4
    simp only [List.length_cons]
    omega
theorem st_len (K2 G i : Nat) (l : List UInt8) : 14 ≤ (stF K2 G i l).bytes.length ∧ (stF K2 G i l).bytes.length ≤ 323 := by
  rw [bytes_len]
  have := len_ge (stF K2 G i l)
  have h : (stF K2 G i l).p.length ≤ 300 := by show (l.take 300).length ≤ 300; rw [List.length_take]; omega
  omega
theorem stB_len (K2 G : Nat) : ∀ (ls : List (List UInt8)) (i : Nat), (stB K2 G i ls).length ≤ 323 * ls.length
  | [], _ => by simp [stB]
  | l :: ls, i => by
    have h1 := (st_len K2 G i l).2
    have h2 := stB_len K2 G ls (i + 1)
    unfold stB
    rw [List.length_append, List.length_cons]
    omega
theorem st_right (K2 G i : Nat) (l : List UInt8) (h1 : K2 < 2) (h2 : G < 64) (h3 : i < 64) : (stF K2 G i l).right = true := by
  unfold Fr.right stF kindB oneB
  simp only [Bool.and_eq_true, decide_eq_true_eq]
  omega
theorem held400 : heldN 400 = 400 := by decide
theorem st_facts (K2 G i : Nat) (l : List UInt8) (h1 : K2 < 2) (h2 : G < 64) (h3 : i < 64) :
    putF (stF K2 G i l) 400 = ((stF K2 G i l).bytes, 0) ∧ (∀ t, cutF ((stF K2 G i l).bytes ++ t) 400 = ((stF K2 G i l).bytes.length, 0)) ∧ readF (stF K2 G i l).bytes 400 = (stF K2 G i l, 0) := by
  have hr := st_right K2 G i l h1 h2 h3
  have hl : (stF K2 G i l).len ≤ heldN 400 := by rw [held400, ← bytes_len]; have := (st_len K2 G i l).2; omega
  have hp : (stF K2 G i l).p.length ≤ 65536 := by show (l.take 300).length ≤ 65536; rw [List.length_take]; omega
  exact ⟨put_fits hr hl, fun t => cut_full _ hr hp t 400 hl, read_full _ hr hp (by show i < 4294967296; omega) 400 hl⟩
theorem min300 (k n : Nat) (h : n = min k 300) : ∀ W, (Builtin.min_ #[3, 3] 3 #[.int .i64 (k : Int), .int .i64 300]).run Try.prog W = .ok (.int .i64 (n : Int)) W := fun W => by
  rw [run_min_int2]
  congr 2
  (repeat' split) <;> omega
theorem take_min300 (l : List UInt8) : l.take (min l.length 300) = l.take 300 := by
  rcases Nat.le_total l.length 300 with h | h
  · rw [Nat.min_eq_left h, List.take_of_length_le (Nat.le_refl _), List.take_of_length_le h]
  · rw [Nat.min_eq_right h]
set_option maxRecDepth 100000 in
set_option maxHeartbeats 12800000 in
theorem FrameStream_walk (w : World) (A : Option Addr) (c : Nat) (ls : List (List UInt8)) (hb : Mat w A ls) (hc : ls.length ≤ c) (hm : c ≤ maxLen) (k : Nat) (hk : k < 256) :
    Calls Try.prog 13 #[.slice A ls.length c, .int .u8 (k : Int)] w fun e w' => e = .returned (.bool true) ∧ Below w.heap.size w w' := by
  have p1 : (k : Int).tmod 2 = ((k % 2 : Nat) : Int) := by rw [Int.tmod_eq_emod_of_nonneg (by omega)]; omega
  have p2 := u8_and63 k hk
  have p3 : IntKind.i64.wrap ((k % 2 : Nat) : Int) = ((k % 2 : Nat) : Int) := by rw [IntKind.wrap_i64]; omega
  have p4 : IntKind.i64.wrap (((k % 2 : Nat) : Int) + 1) = ((k % 2 : Nat) : Int) + 1 := by rw [IntKind.wrap_i64]; omega
  have p5 : IntKind.i64.wrap ((k % 64 : Nat) : Int) = ((k % 64 : Nat) : Int) := by rw [IntKind.wrap_i64]; omega
  have hK2 : k % 2 < 2 := by omega
  have hG : k % 64 < 64 := by omega
  generalize k % 2 = K2 at *
  generalize k % 64 = G at *
  go_enter Try.func13, Try.ntmps13
  go_wp2_with fail
  refine (frKnown_any w).mono ?_
  rintro e w1 ⟨rfl, b1⟩
  have sm := hb.below b1
  clear hb
  by_cases h1 : 20 < ls.length
  · have hd : decide (20 < (ls.length : Int)) = true := by simp; omega
    go_wp2_with fail
    go_ret
    exact ⟨rfl, b1⟩
  have hd1 : decide (20 < (ls.length : Int)) = false := by simp; omega
  go_wp2_with fail
  clear hd1
  go_loopw [5, 6] (fun x5 x6 wr => ∃ i : Nat, i ≤ ls.length ∧ x6 = .int .i64 (i : Int) ∧ OwnB wr w1.heap.size x5 (stB K2 G 0 (ls.take i)) ∧ Below w1.heap.size w1 wr) (fun _ x6 _ => ls.length - (intOf x6).toNat)
  case atStart => exact ⟨0, Nat.zero_le _, rfl, OwnB.nil _ _, Below.refl _ _⟩
  case round =>
    obtain ⟨i, hi, rfl, hown, hbel⟩ := hrel
    by_cases hlt : i < ls.length
    · obtain ⟨bm, om, Ai, ci, eA, hbm, hcell, sl, hlc, hcm⟩ := (sm.below hbel).at_ hlt
      have hsn : stB K2 G 0 (ls.take (i + 1)) = stB K2 G 0 (ls.take i) ++ (stF K2 G i (ls[i]?.getD [])).bytes := by
        rw [List.take_succ_eq_append_getElem hlt, stB_snoc, List.getElem?_eq_getElem hlt]
        simp only [Option.getD_some, List.length_take, Nat.zero_add]
        rw [Nat.min_eq_left (by omega)]
      have hcl := stB_len K2 G (ls.take i) 0
      rw [List.length_take, Nat.min_eq_left (by omega)] at hcl
      obtain ⟨l, hl⟩ : ∃ l, ls[i]?.getD [] = l := ⟨_, rfl⟩
      rw [hl] at hcell sl hlc hsn
      clear hl
      obtain ⟨g1, _, _⟩ := st_facts K2 G i l hK2 hG (by omega)
      have g4 := (st_len K2 G i l).2
      obtain ⟨mi, hmi⟩ : ∃ mi, mi = min l.length 300 := ⟨_, rfl⟩
      have hmin := min300 l.length mi hmi
      have slm : Sl wr wr.heap.size Ai (bv (l.take 300)) := by
        have := sl.tk mi
        rw [bv_take, hmi, take_min300] at this
        exact this
      have hmp : mi = (l.take 300).length := by rw [List.length_take, hmi, Nat.min_comm]
      have hmc : (mi : Int) ≤ (ci : Int) := by omega
      have hmcn : mi ≤ ci := by omega
      have hm3 : mi ≤ 300 := by omega
      have q1 : IntKind.u32.wrap (i : Int) = (i : Int) := by rw [IntKind.wrap_u32]; omega
      have HG := Lib.hid (And.intro g1 (And.intro hsn (And.intro hmp g4)))
      clear g1 hsn hmp g4 hmi
      generalize stB K2 G 0 (ls.take i) = cur at *
      obtain ⟨nl, hnl⟩ : ∃ nl, l.length = nl := ⟨_, rfl⟩
      rw [hnl] at hcell hmin hlc
      clear hnl sl
      have e0 := cellB hcell
      have hil : (i : Int) < (ls.length : Int) := by omega
      subst eA
      go_wp2_with fail
      have hS0 : KB wr.heap wr.drew := KB.refl wr
      refine bstartH (wr.heap) (by kernel_rfl) ?_
      refine btake 0 (oi := _) (v := ?_) (by simp only [List.getElem?_toArray, List.getElem?_cons_succ, List.getElem?_cons_zero]; rfl) (by kernel_rfl) (by exact fun _ _ _ h => h) (by first | assumption | exact KB.refl _) (.inl ⟨by rfl, fun W hW => ?_⟩) ?_; rotate_left
      · (go_simp; first | done | with_reducible rfl)
      try simp only [Act.put, List.setIfInBounds_toArray, List.set_cons_zero, List.set_cons_succ]
      refine btake 1 (oi := _) (v := ?_) (by simp only [List.getElem?_toArray, List.getElem?_cons_succ, List.getElem?_cons_zero]; rfl) (by kernel_rfl) (by exact fun _ _ _ h => h) (by first | assumption | exact KB.refl _) (.inl ⟨by rfl, fun W hW => ?_⟩) ?_; rotate_left
      · (go_simp; first | done | with_reducible rfl)
      try simp only [Act.put, List.setIfInBounds_toArray, List.set_cons_zero, List.set_cons_succ]
      refine btake 2 (oi := _) (v := ?_) (by simp only [List.getElem?_toArray, List.getElem?_cons_succ, List.getElem?_cons_zero]; rfl) (by kernel_rfl) (by exact fun _ _ _ h => h) (by first | assumption | exact KB.refl _) (.inl ⟨by rfl, fun W hW => ?_⟩) ?_; rotate_left
      · (go_simp; first | done | with_reducible rfl)
      try simp only [Act.put, List.setIfInBounds_toArray, List.set_cons_zero, List.set_cons_succ]
      refine btake 3 (oi := _) (v := ?_) (by simp only [List.getElem?_toArray, List.getElem?_cons_succ, List.getElem?_cons_zero]; rfl) (by kernel_rfl) (by exact fun _ _ _ h => h) (by first | assumption | exact KB.refl _) (.inl ⟨by rfl, fun W hW => ?_⟩) ?_; rotate_left
      · (go_simp; first | done | with_reducible rfl)
      try simp only [Act.put, List.setIfInBounds_toArray, List.set_cons_zero, List.set_cons_succ]
      refine btake 4 (oi := _) (v := ?_) (by simp only [List.getElem?_toArray, List.getElem?_cons_succ, List.getElem?_cons_zero]; rfl) (by kernel_rfl) (by exact fun _ _ _ h => h) (by first | assumption | exact KB.refl _) (.inl ⟨by rfl, fun W hW => ?_⟩) ?_; rotate_left
      · (go_simp; first | done | with_reducible rfl)
      try simp only [Act.put, List.setIfInBounds_toArray, List.set_cons_zero, List.set_cons_succ]
      refine btake 5 (oi := _) (v := ?_) (by simp only [List.getElem?_toArray, List.getElem?_cons_succ, List.getElem?_cons_zero]; rfl) (by kernel_rfl) (by exact fun _ _ _ h => h) (by first | assumption | exact KB.refl _) (.inl ⟨by rfl, fun W hW => ?_⟩) ?_; rotate_left
      · (go_simp; first | done | with_reducible rfl)
      try simp only [Act.put, List.setIfInBounds_toArray, List.set_cons_zero, List.set_cons_succ]
      refine btake 6 (oi := _) (v := ?_) (by simp only [List.getElem?_toArray, List.getElem?_cons_succ, List.getElem?_cons_zero]; rfl) (by kernel_rfl) (by exact fun _ _ _ h => h) (by first | assumption | exact KB.refl _) (.inl ⟨by rfl, fun W hW => ?_⟩) ?_; rotate_left
      · (go_simp; first | done | with_reducible rfl)
      try simp only [Act.put, List.setIfInBounds_toArray, List.set_cons_zero, List.set_cons_succ]
      refine btake 7 (oi := _) (v := ?_) (by simp only [List.getElem?_toArray, List.getElem?_cons_succ, List.getElem?_cons_zero]; rfl) (by kernel_rfl) (by exact fun _ _ _ h => h) (by first | assumption | exact KB.refl _) (.inl ⟨by rfl, fun W hW => ?_⟩) ?_; rotate_left
      · (go_simp; first | done | with_reducible rfl)
      try simp only [Act.put, List.setIfInBounds_toArray, List.set_cons_zero, List.set_cons_succ]
      refine btake 8 (oi := _) (v := ?_) (by simp only [List.getElem?_toArray, List.getElem?_cons_succ, List.getElem?_cons_zero]; rfl) (by kernel_rfl) (by exact fun _ _ _ h => h) (by first | assumption | exact KB.refl _) (.inl ⟨by rfl, fun W hW => ?_⟩) ?_; rotate_left
      · (go_simp; first | done | with_reducible rfl)
      try simp only [Act.put, List.setIfInBounds_toArray, List.set_cons_zero, List.set_cons_succ]
      refine btake 9 (oi := _) (v := ?_) (by simp only [List.getElem?_toArray, List.getElem?_cons_succ, List.getElem?_cons_zero]; rfl) (by kernel_rfl) (by exact fun _ _ _ h => h) (by first | assumption | exact KB.refl _) (.inl ⟨by rfl, fun W hW => ?_⟩) ?_; rotate_left
      · (go_simp; first | done | with_reducible rfl)
      try simp only [Act.put, List.setIfInBounds_toArray, List.set_cons_zero, List.set_cons_succ]
      refine btake 10 (oi := _) (v := ?_) (by simp only [List.getElem?_toArray, List.getElem?_cons_succ, List.getElem?_cons_zero]; rfl) (by kernel_rfl) (by exact fun _ _ _ h => h) (by first | assumption | exact KB.refl _) (.inl ⟨by rfl, fun W hW => ?_⟩) ?_; rotate_left
      · (go_simp; first | done | with_reducible rfl)
      try simp only [Act.put, List.setIfInBounds_toArray, List.set_cons_zero, List.set_cons_succ]
      refine btake 11 (oi := _) (v := ?_) (by simp only [List.getElem?_toArray, List.getElem?_cons_succ, List.getElem?_cons_zero]; rfl) (by kernel_rfl) (by exact fun _ _ _ h => h) (by first | assumption | exact KB.refl _) (.inl ⟨by rfl, fun W hW => ?_⟩) ?_; rotate_left
      · (go_simp; first | done | with_reducible rfl)
      try simp only [Act.put, List.setIfInBounds_toArray, List.set_cons_zero, List.set_cons_succ]
      refine btake 12 (oi := _) (v := ?_) (by simp only [List.getElem?_toArray, List.getElem?_cons_succ, List.getElem?_cons_zero]; rfl) (by kernel_rfl) (by exact fun _ _ _ h => h) (by first | assumption | exact KB.refl _) (.inl ⟨by rfl, fun W hW => ?_⟩) ?_; rotate_left
      · (go_simp; first | done | with_reducible rfl)
      try simp only [Act.put, List.setIfInBounds_toArray, List.set_cons_zero, List.set_cons_succ]
      refine btake 13 (oi := _) (v := ?_) (by simp only [List.getElem?_toArray, List.getElem?_cons_succ, List.getElem?_cons_zero]; rfl) (by kernel_rfl) (by exact fun _ _ _ h => h) (by first | assumption | exact KB.refl _) (.inl ⟨by rfl, fun W hW => ?_⟩) ?_; rotate_left
      · (go_simp; first | done | with_reducible rfl)
      try simp only [Act.put, List.setIfInBounds_toArray, List.set_cons_zero, List.set_cons_succ]
      refine btake 14 (oi := _) (v := ?_) (by simp only [List.getElem?_toArray, List.getElem?_cons_succ, List.getElem?_cons_zero]; rfl) (by kernel_rfl) (by exact fun _ _ _ h => h) (by first | assumption | exact KB.refl _) (.inl ⟨by rfl, fun W hW => ?_⟩) ?_; rotate_left
      · (go_simp; first | done | with_reducible rfl)
      try simp only [Act.put, List.setIfInBounds_toArray, List.set_cons_zero, List.set_cons_succ]
      refine btake 15 (oi := _) (v := ?_) (by simp only [List.getElem?_toArray, List.getElem?_cons_succ, List.getElem?_cons_zero]; rfl) (by kernel_rfl) (by exact fun _ _ _ h => h) (by first | assumption | exact KB.refl _) (.inl ⟨by rfl, fun W hW => ?_⟩) ?_; rotate_left
      · (go_simp; first | done | with_reducible rfl)
      try simp only [Act.put, List.setIfInBounds_toArray, List.set_cons_zero, List.set_cons_succ]
      refine btake 16 (oi := _) (v := ?_) (by simp only [List.getElem?_toArray, List.getElem?_cons_succ, List.getElem?_cons_zero]; rfl) (by kernel_rfl) (by exact fun _ _ _ h => h) (by first | assumption | exact KB.refl _) (.inl ⟨by rfl, fun W hW => ?_⟩) ?_; rotate_left
      · (go_simp; first | done | with_reducible rfl)
      try simp only [Act.put, List.setIfInBounds_toArray, List.set_cons_zero, List.set_cons_succ]
      refine btake 17 (oi := _) (v := ?_) (by simp only [List.getElem?_toArray, List.getElem?_cons_succ, List.getElem?_cons_zero]; rfl) (by kernel_rfl) (by exact fun _ _ _ h => h) (by first | assumption | exact KB.refl _) (.inl ⟨by rfl, fun W hW => ?_⟩) ?_; rotate_left
      · (go_simp; first | done | with_reducible rfl)
      try simp only [Act.put, List.setIfInBounds_toArray, List.set_cons_zero, List.set_cons_succ]
      refine btake 18 (oi := _) (v := ?_) (by simp only [List.getElem?_toArray, List.getElem?_cons_succ, List.getElem?_cons_zero]; rfl) (by kernel_rfl) (by exact fun _ _ _ h => h) (by first | assumption | exact KB.refl _) (.inl ⟨by rfl, fun W hW => ?_⟩) ?_; rotate_left
      · (go_simp; first | done | with_reducible rfl)
      try simp only [Act.put, List.setIfInBounds_toArray, List.set_cons_zero, List.set_cons_succ]
      refine btake 19 (oi := _) (v := ?_) (by simp only [List.getElem?_toArray, List.getElem?_cons_succ, List.getElem?_cons_zero]; rfl) (by kernel_rfl) (by exact fun _ _ _ h => h) (by first | assumption | exact KB.refl _) (.inl ⟨by rfl, fun W hW => ?_⟩) ?_; rotate_left
      · (go_simp; first | done | with_reducible rfl)
      try simp only [Act.put, List.setIfInBounds_toArray, List.set_cons_zero, List.set_cons_succ]
      refine btake 20 (oi := _) (v := ?_) (by simp only [List.getElem?_toArray, List.getElem?_cons_succ, List.getElem?_cons_zero]; rfl) (by kernel_rfl) (by exact fun _ _ _ h => h) (by first | assumption | exact KB.refl _) (.inl ⟨by rfl, fun W hW => ?_⟩) ?_; rotate_left
      · (go_simp; first | done | with_reducible rfl)
      try simp only [Act.put, List.setIfInBounds_toArray, List.set_cons_zero, List.set_cons_succ]
      refine btake 21 (oi := _) (v := ?_) (by simp only [List.getElem?_toArray, List.getElem?_cons_succ, List.getElem?_cons_zero]; rfl) (by kernel_rfl) (by exact fun _ _ _ h => h) (by first | assumption | exact KB.refl _) (.inl ⟨by rfl, fun W hW => ?_⟩) ?_; rotate_left
      · (go_simp; first | done | with_reducible rfl)
      try simp only [Act.put, List.setIfInBounds_toArray, List.set_cons_zero, List.set_cons_succ]
      -- 22: Op.alloc 47
      refine bopH 22 (o := _) (by simp only [List.getElem?_toArray, List.getElem?_cons_succ, List.getElem?_cons_zero]; rfl) (by kernel_rfl) (by first | assumption | exact KB.refl _) (by rfl) (fun K hK => ?_)
      go_simp
      have hkb : KB wr.heap (wr.alloc (.cells #[.int .i64 0, .int .u32 0, .int .i64 0, .int .i64 0, .slice none 0 0] 47)).drew := KB.alloc wr _
      refine hK.out _ _ hkb ?_; clear hK K
      try simp only [Act.put, List.setIfInBounds_toArray, List.set_cons_zero, List.set_cons_succ]
      -- 23: Op.store 47 (Operand.tmp 7) (Operand.tmp 47)
      refine bopH 23 (o := _) (by simp only [List.getElem?_toArray, List.getElem?_cons_succ, List.getElem?_cons_zero]; rfl) (by kernel_rfl) (by first | assumption | exact KB.refl _) (by rfl) (fun K hK => ?_)
      go_simp
      have hkb : KB wr.heap (wr.alloc (.cells #[.int .i64 ((K2 : Int) + 1), .int .u32 (i : Int), .int .i64 (i : Int), .int .i64 (G : Int), .slice Ai mi ci] 47)).drew := KB.alloc wr _
      refine hK.out _ _ hkb ?_; clear hK K
      try simp only [Act.put, List.setIfInBounds_toArray, List.set_cons_zero, List.set_cons_succ]
      refine bdone (by kernel_rfl) ?_
      have hF := (At.new wr 47 #[.int .i64 ((K2 : Int) + 1), .int .u32 (i : Int), .int .i64 (i : Int), .int .i64 (G : Int), .slice Ai mi ci]).drew
      have bF := (balloc (Below.refl wr.heap.size wr) (.cells #[.int .i64 ((K2 : Int) + 1), .int .u32 (i : Int), .int .i64 (i : Int), .int .i64 (G : Int), .slice Ai mi ci] 47)).drew
      replace slm := (slm.below bF).more bF.size
      replace hown := hown.below bF
      have d2 := hbel.trans (bF.mono hbel.size)
      clear e0 hkb hS0 hcell bF hbel hbm hmin hmc
      generalize (wr.alloc (.cells #[.int .i64 ((K2 : Int) + 1), .int .u32 (i : Int), .int .i64 (i : Int), .int .i64 (G : Int), .slice Ai mi ci] 47)).drew = w2 at *
      generalize wr.heap.size = gF at *
      have a0 := hF.c 0 rfl
      have a1 := hF.c 1 rfl
      have a2 := hF.c 2 rfl
      have a3 := hF.c 3 rfl
      have a4 := hF.c 4 rfl
      go_wp2_with fail
      refine (FPut_lit w2 ((K2 : Int) + 1) (i : Int) (G : Int) i (l.take 300) Ai mi ci 400 (stF K2 G i l).bytes 0 slm HG.out.2.2.1 hmcn hcm (by have := HG.out.2.2.1; omega) (by omega) HG.out.1).mono ?_
      rintro e w3 ⟨A3, c3, rfl, s3, hc3, hm3', hb3⟩
      have hbl := HG.out.2.2.2
      have hsn := HG.out.2.1
      generalize (stF K2 G i l).bytes = S at *
      replace hown := hown.below hb3
      have d3 := d2.trans (hb3.mono d2.size)
      clear hb3 d2 slm hF a0 a1 a2 a3 a4
      have hs3 := d3.size
      go_wp2_with (at_builtin; go_loud (refine appG (by rfl) rfl hown s3 rfl rfl rfl (by omega) hs3 ?_); intro s4 w4 hown4 hg4 hat4)
      have d4 := own_below d3 hs3 hown hg4
      rw [← hsn] at hown4
      go_roundw
      case rel => exact ⟨i + 1, hlt, by go_num, hown4, d4⟩
      case measure => simp [intOf]; omega
    · obtain rfl : i = ls.length := by omega
      rw [List.take_of_length_le (Nat.le_refl _)] at hown
      obtain ⟨A5, c5, rfl, hc5, hm5, s5, _, _⟩ := hown.form
      have b5 := b1.trans (hbel.mono b1.size)
      have sme := sm.below hbel
      clear sm hown hbel hlt hi b1
      go_wp2_with fail
      generalize hwe : wr = we at *
      clear hwe
      go_loopw [5, 10] (fun x5 x10 wr => ∃ (j : Nat) (A' : Option Addr) (c' : Nat), j ≤ ls.length ∧ x10 = .int .i64 (j : Int) ∧ x5 = .slice A' (stB K2 G j (ls.drop j)).length c' ∧ Sl we we.heap.size A' (bv (stB K2 G j (ls.drop j))) ∧ (stB K2 G j (ls.drop j)).length ≤ c' ∧ c' ≤ maxLen ∧ Below we.heap.size we wr) (fun _ x10 _ => ls.length - (intOf x10).toNat)
      case atStart => exact ⟨0, A5, c5, Nat.zero_le _, rfl, rfl, s5, hc5, hm5, Below.refl _ _⟩
      case round =>
        clear s5 hc5 hm5
        obtain ⟨j, A', c', hj, rfl, rfl, sr, hcr, hmr, hbel⟩ := hrel
        by_cases hlt : j < ls.length
        · obtain ⟨bm, om, Aj, cj, eA, hbm, hcell, sl, hlc, hcm⟩ := (sme.below hbel).at_ hlt
          have hsn : stB K2 G j (ls.drop j) = (stF K2 G j (ls[j]?.getD [])).bytes ++ stB K2 G (j + 1) (ls.drop (j + 1)) := by
            rw [List.drop_eq_getElem_cons hlt, List.getElem?_eq_getElem hlt]
            rfl
          rw [hsn] at sr hcr ⊢
          obtain ⟨l, hl⟩ : ∃ l, ls[j]?.getD [] = l := ⟨_, rfl⟩
          rw [hl] at hcell sl hlc sr hcr ⊢
          clear hl hsn
          obtain ⟨_, g2, g3⟩ := st_facts K2 G j l hK2 hG (by omega)
          have g4 := st_len K2 G j l
          have g2' := g2 (stB K2 G (j + 1) (ls.drop (j + 1)))
          generalize hT : stB K2 G (j + 1) (ls.drop (j + 1)) = R at *
          have HT := Lib.hid hT
          have g3' : readF (stF K2 G j l).bytes 400 = (⟨(K2 : Int) + 1, j, (j : Int), (G : Int), l.take 300⟩, 0) := g3
          clear hT g2 g3
          generalize (stF K2 G j l).bytes = S at *
          obtain ⟨mj, hmj⟩ : ∃ mj, mj = min l.length 300 := ⟨_, rfl⟩
          have hmin := min300 l.length mj hmj
          have slm : Sl wr wr.heap.size Aj (bv (l.take 300)) := by
            have := sl.tk mj
            rw [bv_take, hmj, take_min300] at this
            exact this
          have hmp : mj = (l.take 300).length := by rw [List.length_take, hmj, Nat.min_comm]
          have hmc : (mj : Int) ≤ (cj : Int) := by omega
          have q1 : IntKind.u32.wrap (j : Int) = (j : Int) := by rw [IntKind.wrap_u32]; omega
          obtain ⟨nS, hnS⟩ : ∃ nS, S.length = nS := ⟨_, rfl⟩
          obtain ⟨nQ, hnQ⟩ : ∃ nQ, (S ++ R).length = nQ := ⟨_, rfl⟩
          have hnR : R.length = nQ - nS ∧ nS ≤ nQ := by rw [← hnQ, ← hnS, List.length_append]; omega
          have srw : Sl wr wr.heap.size A' (bv (S ++ R)) := (sr.below hbel).more hbel.size
          have sS : Sl wr wr.heap.size A' (bv S) := by
            have := srw.tk S.length
            rw [bv_take, List.take_left] at this
            exact this
          rw [hnS] at g2' g4
          rw [hnQ] at hcr ⊢
          obtain ⟨nl, hnl⟩ : ∃ nl, l.length = nl := ⟨_, rfl⟩
          rw [hnl] at hcell hmin hlc
          have HG := Lib.hid (And.intro g2' (And.intro g3' (And.intro hnS (And.intro hnQ (And.intro hnR.1 hmp)))))
          have hSQ := hnR.2
          clear g2' g3' hnS hnQ hnR hnl sl hmj hmp
          have hil : (j : Int) < (ls.length : Int) := by omega
          subst eA
          have hcS : nS ≤ c' := by omega
          go_wp2_with fail
          refine (Cut_lit wr A' nQ c' (S ++ R) 400 nS 0 srw HG.out.2.2.2.1.symm hcr hmr HG.out.1).mono ?_
          rintro e w2 ⟨rfl, hb2⟩
          replace slm := (slm.below hb2).more hb2.size
          replace sS := (sS.below hb2).more hb2.size
          have hcell2 := (hb2.cell (World.block_lt_of_cell? _ _ hcell)).trans hcell
          have d2 := hbel.trans (hb2.mono hbel.size)
          clear hb2 hcell srw hbm
          have r1 : decide ((nS : Int) < 14) = false := by rw [decide_eq_false_iff_not]; omega
          have r2 : decide ((nQ : Int) < (nS : Int)) = false := by rw [decide_eq_false_iff_not]; omega
          go_wp2_with fail
          refine (FRead_lit w2 A' nS c' S 400 ((K2 : Int) + 1) (j : Int) (G : Int) j (l.take 300) 0 sS HG.out.2.2.1.symm hcS hmr HG.out.2.1).mono ?_
          rintro e w3 ⟨A3, c3, rfl, s3, hc3, hm3, hb3⟩
          rw [← HG.out.2.2.2.2.2] at hc3 ⊢
          have hF := At.new w3 47 #[.int .i64 ((K2 : Int) + 1), .int .u32 (j : Int), .int .i64 (j : Int), .int .i64 (G : Int), .slice A3 mj c3]
          have bF := balloc (Below.refl w3.heap.size w3) (.cells #[.int .i64 ((K2 : Int) + 1), .int .u32 (j : Int), .int .i64 (j : Int), .int .i64 (G : Int), .slice A3 mj c3] 47)
          replace slm := (((slm.below hb3).more hb3.size).below bF).more bF.size
          replace s3 := (s3.below bF).more bF.size
          have hcell3 := (hb3.cell (World.block_lt_of_cell? _ _ hcell2)).trans hcell2
          have hcell4 := (bF.cell (World.block_lt_of_cell? _ _ hcell3)).trans hcell3
          have d3 := d2.trans (hb3.mono d2.size)
          have d4 := d3.trans (bF.mono d3.size)
          clear hb3 bF d2 d3 hcell2 hcell3 sS
          go_wp2_with fail
          generalize w3.alloc (.cells #[.int .i64 ((K2 : Int) + 1), .int .u32 (j : Int), .int .i64 (j : Int), .int .i64 (G : Int), .slice A3 mj c3] 47) = w4 at *
          generalize w3.heap.size = gF at *
          have e0 := cellB hcell4
          have e1 := cellB (hF.c 1 rfl)
          have e2 := cellB (hF.c 2 rfl)
          have e4 := cellB (hF.c 4 rfl)
          have k1 := convB s3 mj c3 HG.out.2.2.2.2.2
          have k2 := convB slm mj cj HG.out.2.2.2.2.2
          refine bstart (by kernel_rfl) ?_
          refine btake 0 (oi := _) (v := ?_) (by simp only [List.getElem?_toArray, List.getElem?_cons_succ, List.getElem?_cons_zero]; rfl) (by kernel_rfl) (by exact fun _ _ _ h => h) (by first | assumption | exact KB.refl _) (.inl ⟨by rfl, fun W hW => ?_⟩) ?_; rotate_left
          · (go_simp; first | done | with_reducible rfl)
          try simp only [Act.put, List.setIfInBounds_toArray, List.set_cons_zero, List.set_cons_succ]
          refine btake 1 (oi := _) (v := ?_) (by simp only [List.getElem?_toArray, List.getElem?_cons_succ, List.getElem?_cons_zero]; rfl) (by kernel_rfl) (by exact fun _ _ _ h => h) (by first | assumption | exact KB.refl _) (.inl ⟨by rfl, fun W hW => ?_⟩) ?_; rotate_left
          · (go_simp; first | done | with_reducible rfl)
          try simp only [Act.put, List.setIfInBounds_toArray, List.set_cons_zero, List.set_cons_succ]
          refine btake 2 (oi := _) (v := ?_) (by simp only [List.getElem?_toArray, List.getElem?_cons_succ, List.getElem?_cons_zero]; rfl) (by kernel_rfl) (by exact fun _ _ _ h => h) (by first | assumption | exact KB.refl _) (.inl ⟨by rfl, fun W hW => ?_⟩) ?_; rotate_left
          · (go_simp; first | done | with_reducible rfl)
          try simp only [Act.put, List.setIfInBounds_toArray, List.set_cons_zero, List.set_cons_succ]
          refine btake 3 (oi := _) (v := ?_) (by simp only [List.getElem?_toArray, List.getElem?_cons_succ, List.getElem?_cons_zero]; rfl) (by kernel_rfl) (by exact fun _ _ _ h => h) (by first | assumption | exact KB.refl _) (.inl ⟨by rfl, fun W hW => ?_⟩) ?_; rotate_left
          · (go_simp; first | done | with_reducible rfl)
          try simp only [Act.put, List.setIfInBounds_toArray, List.set_cons_zero, List.set_cons_succ]
          refine btake 4 (oi := _) (v := ?_) (by simp only [List.getElem?_toArray, List.getElem?_cons_succ, List.getElem?_cons_zero]; rfl) (by kernel_rfl) (by exact fun _ _ _ h => h) (by first | assumption | exact KB.refl _) (.inl ⟨by rfl, fun W hW => ?_⟩) ?_; rotate_left
          · (go_simp; first | done | with_reducible rfl)
          try simp only [Act.put, List.setIfInBounds_toArray, List.set_cons_zero, List.set_cons_succ]
          refine btake 5 (oi := _) (v := ?_) (by simp only [List.getElem?_toArray, List.getElem?_cons_succ, List.getElem?_cons_zero]; rfl) (by kernel_rfl) (by exact fun _ _ _ h => h) (by first | assumption | exact KB.refl _) (.inl ⟨by rfl, fun W hW => ?_⟩) ?_; rotate_left
          · (go_simp; first | done | with_reducible rfl)
          try simp only [Act.put, List.setIfInBounds_toArray, List.set_cons_zero, List.set_cons_succ]
          refine btake 6 (oi := _) (v := ?_) (by simp only [List.getElem?_toArray, List.getElem?_cons_succ, List.getElem?_cons_zero]; rfl) (by kernel_rfl) (by exact fun _ _ _ h => h) (by first | assumption | exact KB.refl _) (.inl ⟨by rfl, fun W hW => ?_⟩) ?_; rotate_left
          · (go_simp; first | done | with_reducible rfl)
          try simp only [Act.put, List.setIfInBounds_toArray, List.set_cons_zero, List.set_cons_succ]
          refine btake 7 (oi := _) (v := ?_) (by simp only [List.getElem?_toArray, List.getElem?_cons_succ, List.getElem?_cons_zero]; rfl) (by kernel_rfl) (by exact fun _ _ _ h => h) (by first | assumption | exact KB.refl _) (.inl ⟨by rfl, fun W hW => ?_⟩) ?_; rotate_left
          · (go_simp; first | done | with_reducible rfl)
          try simp only [Act.put, List.setIfInBounds_toArray, List.set_cons_zero, List.set_cons_succ]
          refine btake 8 (oi := _) (v := ?_) (by simp only [List.getElem?_toArray, List.getElem?_cons_succ, List.getElem?_cons_zero]; rfl) (by kernel_rfl) (by exact fun _ _ _ h => h) (by first | assumption | exact KB.refl _) (.inl ⟨by rfl, fun W hW => ?_⟩) ?_; rotate_left
          · (go_simp; first | done | with_reducible rfl)
          try simp only [Act.put, List.setIfInBounds_toArray, List.set_cons_zero, List.set_cons_succ]
          refine btake 9 (oi := _) (v := ?_) (by simp only [List.getElem?_toArray, List.getElem?_cons_succ, List.getElem?_cons_zero]; rfl) (by kernel_rfl) (by exact fun _ _ _ h => h) (by first | assumption | exact KB.refl _) (.inl ⟨by rfl, fun W hW => ?_⟩) ?_; rotate_left
          · (go_simp; first | done | with_reducible rfl)
          try simp only [Act.put, List.setIfInBounds_toArray, List.set_cons_zero, List.set_cons_succ]
          refine btake 10 (oi := _) (v := ?_) (by simp only [List.getElem?_toArray, List.getElem?_cons_succ, List.getElem?_cons_zero]; rfl) (by kernel_rfl) (by exact fun _ _ _ h => h) (by first | assumption | exact KB.refl _) (.inl ⟨by rfl, fun W hW => ?_⟩) ?_; rotate_left
          · (go_simp; first | done | with_reducible rfl)
          try simp only [Act.put, List.setIfInBounds_toArray, List.set_cons_zero, List.set_cons_succ]
          refine btake 11 (oi := _) (v := ?_) (by simp only [List.getElem?_toArray, List.getElem?_cons_succ, List.getElem?_cons_zero]; rfl) (by kernel_rfl) (by exact fun _ _ _ h => h) (by first | assumption | exact KB.refl _) (.inl ⟨by rfl, fun W hW => ?_⟩) ?_; rotate_left
          · (go_simp; first | done | with_reducible rfl)
          try simp only [Act.put, List.setIfInBounds_toArray, List.set_cons_zero, List.set_cons_succ]
          refine btake 12 (oi := _) (v := ?_) (by simp only [List.getElem?_toArray, List.getElem?_cons_succ, List.getElem?_cons_zero]; rfl) (by kernel_rfl) (by exact fun _ _ _ h => h) (by first | assumption | exact KB.refl _) (.inl ⟨by rfl, fun W hW => ?_⟩) ?_; rotate_left
          · (go_simp; first | done | with_reducible rfl)
          try simp only [Act.put, List.setIfInBounds_toArray, List.set_cons_zero, List.set_cons_succ]
          refine btake 13 (oi := _) (v := ?_) (by simp only [List.getElem?_toArray, List.getElem?_cons_succ, List.getElem?_cons_zero]; rfl) (by kernel_rfl) (by exact fun _ _ _ h => h) (by first | assumption | exact KB.refl _) (.inl ⟨by rfl, fun W hW => ?_⟩) ?_; rotate_left
          · (go_simp; first | done | with_reducible rfl)
          try simp only [Act.put, List.setIfInBounds_toArray, List.set_cons_zero, List.set_cons_succ]
          refine btake 14 (oi := _) (v := ?_) (by simp only [List.getElem?_toArray, List.getElem?_cons_succ, List.getElem?_cons_zero]; rfl) (by kernel_rfl) (by exact fun _ _ _ h => h) (by first | assumption | exact KB.refl _) (.inl ⟨by rfl, fun W hW => ?_⟩) ?_; rotate_left
          · (go_simp; first | done | with_reducible rfl)
          try simp only [Act.put, List.setIfInBounds_toArray, List.set_cons_zero, List.set_cons_succ]
          refine btake 15 (oi := _) (v := ?_) (by simp only [List.getElem?_toArray, List.getElem?_cons_succ, List.getElem?_cons_zero]; rfl) (by kernel_rfl) (by exact fun _ _ _ h => h) (by first | assumption | exact KB.refl _) (.inl ⟨by rfl, fun W hW => ?_⟩) ?_; rotate_left
          · (go_simp; first | done | with_reducible rfl)
          try simp only [Act.put, List.setIfInBounds_toArray, List.set_cons_zero, List.set_cons_succ]
          refine btake 16 (oi := _) (v := ?_) (by simp only [List.getElem?_toArray, List.getElem?_cons_succ, List.getElem?_cons_zero]; rfl) (by kernel_rfl) (by exact fun _ _ _ h => h) (by first | assumption | exact KB.refl _) (.inl ⟨by rfl, fun W hW => ?_⟩) ?_; rotate_left
          · (go_simp; first | done | with_reducible rfl)
          try simp only [Act.put, List.setIfInBounds_toArray, List.set_cons_zero, List.set_cons_succ]
          refine btake 17 (oi := _) (v := ?_) (by simp only [List.getElem?_toArray, List.getElem?_cons_succ, List.getElem?_cons_zero]; rfl) (by kernel_rfl) (by exact fun _ _ _ h => h) (by first | assumption | exact KB.refl _) (.inl ⟨by rfl, fun W hW => ?_⟩) ?_; rotate_left
          · (go_simp; first | done | with_reducible rfl)
          try simp only [Act.put, List.setIfInBounds_toArray, List.set_cons_zero, List.set_cons_succ]
          refine btake 18 (oi := _) (v := ?_) (by simp only [List.getElem?_toArray, List.getElem?_cons_succ, List.getElem?_cons_zero]; rfl) (by kernel_rfl) (by exact fun _ _ _ h => h) (by first | assumption | exact KB.refl _) (.inl ⟨by rfl, fun W hW => ?_⟩) ?_; rotate_left
          · (go_simp; first | done | with_reducible rfl)
          try simp only [Act.put, List.setIfInBounds_toArray, List.set_cons_zero, List.set_cons_succ]
          refine btake 19 (oi := _) (v := ?_) (by simp only [List.getElem?_toArray, List.getElem?_cons_succ, List.getElem?_cons_zero]; rfl) (by kernel_rfl) (by exact fun _ _ _ h => h) (by first | assumption | exact KB.refl _) (.inl ⟨by rfl, fun W hW => ?_⟩) ?_; rotate_left
          · (go_simp; first | done | with_reducible rfl)
          try simp only [Act.put, List.setIfInBounds_toArray, List.set_cons_zero, List.set_cons_succ]
          refine btake 20 (oi := _) (v := ?_) (by simp only [List.getElem?_toArray, List.getElem?_cons_succ, List.getElem?_cons_zero]; rfl) (by kernel_rfl) (by exact fun _ _ _ h => h) (by first | assumption | exact KB.refl _) (.inl ⟨by rfl, fun W hW => ?_⟩) ?_; rotate_left
          · (go_simp; first | done | with_reducible rfl)
          try simp only [Act.put, List.setIfInBounds_toArray, List.set_cons_zero, List.set_cons_succ]
          refine btake 21 (oi := _) (v := ?_) (by simp only [List.getElem?_toArray, List.getElem?_cons_succ, List.getElem?_cons_zero]; rfl) (by kernel_rfl) (by exact fun _ _ _ h => h) (by first | assumption | exact KB.refl _) (.inl ⟨by rfl, fun W hW => ?_⟩) ?_; rotate_left
          · (go_simp; first | done | with_reducible rfl)
          try simp only [Act.put, List.setIfInBounds_toArray, List.set_cons_zero, List.set_cons_succ]
          refine btake 22 (oi := _) (v := ?_) (by simp only [List.getElem?_toArray, List.getElem?_cons_succ, List.getElem?_cons_zero]; rfl) (by kernel_rfl) (by exact fun _ _ _ h => h) (by first | assumption | exact KB.refl _) (.inl ⟨by rfl, fun W hW => ?_⟩) ?_; rotate_left
          · (go_simp; first | done | with_reducible rfl)
          try simp only [Act.put, List.setIfInBounds_toArray, List.set_cons_zero, List.set_cons_succ]
          refine btake 23 (oi := _) (v := ?_) (by simp only [List.getElem?_toArray, List.getElem?_cons_succ, List.getElem?_cons_zero]; rfl) (by kernel_rfl) (by exact fun _ _ _ h => h) (by first | assumption | exact KB.refl _) (.inl ⟨by rfl, fun W hW => ?_⟩) ?_; rotate_left
          · (go_simp; first | done | with_reducible rfl)
          try simp only [Act.put, List.setIfInBounds_toArray, List.set_cons_zero, List.set_cons_succ]
          refine btake 24 (oi := _) (v := ?_) (by simp only [List.getElem?_toArray, List.getElem?_cons_succ, List.getElem?_cons_zero]; rfl) (by kernel_rfl) (by exact fun _ _ _ h => h) (by first | assumption | exact KB.refl _) (.inl ⟨by rfl, fun W hW => ?_⟩) ?_; rotate_left
          · (go_simp; first | done | with_reducible rfl)
          try simp only [Act.put, List.setIfInBounds_toArray, List.set_cons_zero, List.set_cons_succ]
          refine btake 25 (oi := _) (v := ?_) (by simp only [List.getElem?_toArray, List.getElem?_cons_succ, List.getElem?_cons_zero]; rfl) (by kernel_rfl) (by exact fun _ _ _ h => h) (by first | assumption | exact KB.refl _) (.inl ⟨by rfl, fun W hW => ?_⟩) ?_; rotate_left
          · (go_simp; first | done | with_reducible rfl)
          try simp only [Act.put, List.setIfInBounds_toArray, List.set_cons_zero, List.set_cons_succ]
          refine btake 26 (oi := _) (v := ?_) (by simp only [List.getElem?_toArray, List.getElem?_cons_succ, List.getElem?_cons_zero]; rfl) (by kernel_rfl) (by exact fun _ _ _ h => h) (by first | assumption | exact KB.refl _) (.inl ⟨by rfl, fun W hW => ?_⟩) ?_; rotate_left
          · (go_simp; first | done | with_reducible rfl)
          try simp only [Act.put, List.setIfInBounds_toArray, List.set_cons_zero, List.set_cons_succ]
          refine btake 27 (oi := _) (v := ?_) (by simp only [List.getElem?_toArray, List.getElem?_cons_succ, List.getElem?_cons_zero]; rfl) (by kernel_rfl) (by exact fun _ _ _ h => h) (by first | assumption | exact KB.refl _) (.inl ⟨by rfl, fun W hW => ?_⟩) ?_; rotate_left
          · (go_simp; first | done | with_reducible rfl)
          try simp only [Act.put, List.setIfInBounds_toArray, List.set_cons_zero, List.set_cons_succ]
          refine btake 28 (oi := _) (v := ?_) (by simp only [List.getElem?_toArray, List.getElem?_cons_succ, List.getElem?_cons_zero]; rfl) (by kernel_rfl) (by exact fun _ _ _ h => h) (by first | assumption | exact KB.refl _) (.inl ⟨by rfl, fun W hW => ?_⟩) ?_; rotate_left
          · (go_simp; first | done | with_reducible rfl)
          try simp only [Act.put, List.setIfInBounds_toArray, List.set_cons_zero, List.set_cons_succ]
          refine btake 29 (oi := _) (v := ?_) (by simp only [List.getElem?_toArray, List.getElem?_cons_succ, List.getElem?_cons_zero]; rfl) (by kernel_rfl) (by exact fun _ _ _ h => h) (by first | assumption | exact KB.refl _) (.inl ⟨by rfl, fun W hW => ?_⟩) ?_; rotate_left
          · (go_simp; first | done | with_reducible rfl)
          try simp only [Act.put, List.setIfInBounds_toArray, List.set_cons_zero, List.set_cons_succ]
          refine btake 30 (oi := _) (v := ?_) (by simp only [List.getElem?_toArray, List.getElem?_cons_succ, List.getElem?_cons_zero]; rfl) (by kernel_rfl) (by exact fun _ _ _ h => h) (by first | assumption | exact KB.refl _) (.inl ⟨by rfl, fun W hW => ?_⟩) ?_; rotate_left
          · (go_simp; first | done | with_reducible rfl)
          try simp only [Act.put, List.setIfInBounds_toArray, List.set_cons_zero, List.set_cons_succ]
          refine btake 31 (oi := _) (v := ?_) (by simp only [List.getElem?_toArray, List.getElem?_cons_succ, List.getElem?_cons_zero]; rfl) (by kernel_rfl) (by exact fun _ _ _ h => h) (by first | assumption | exact KB.refl _) (.inl ⟨by rfl, fun W hW => ?_⟩) ?_; rotate_left
          · (go_simp; first | done | with_reducible rfl)
          try simp only [Act.put, List.setIfInBounds_toArray, List.set_cons_zero, List.set_cons_succ]
          refine btake 32 (oi := _) (v := ?_) (by simp only [List.getElem?_toArray, List.getElem?_cons_succ, List.getElem?_cons_zero]; rfl) (by kernel_rfl) (by exact fun _ _ _ h => h) (by first | assumption | exact KB.refl _) (.inl ⟨by rfl, fun W hW => ?_⟩) ?_; rotate_left
          · (go_simp; first | done | with_reducible rfl)
          try simp only [Act.put, List.setIfInBounds_toArray, List.set_cons_zero, List.set_cons_succ]
          refine bdone (by kernel_rfl) ?_
          clear e0 e1 e2 e4 k1 k2 hcell4 hF s3 slm
          by_cases hcn : c' = nS
          · have hR0 : R = [] := List.eq_nil_of_length_eq_zero (by have := HG.out.2.2.2.2.1; omega)
            subst hcn
            go_wp2_with fail
            go_roundw
            case rel =>
              refine ⟨j + 1, A', 0, hlt, by go_num, ?_, ?_, ?_, by simp [maxLen], d4.drew⟩
              · rw [HT.out, hR0]; rfl
              · rw [HT.out, hR0]; exact .inl rfl
              · rw [HT.out, hR0]; simp
            case measure => simp [intOf]; omega
          · go_wp2_with fail
            go_roundw
            case rel =>
              have hRl := HG.out.2.2.2.2.1
              refine ⟨j + 1, A'.map (·.add nS), c' - nS, hlt, by go_num, ?_, ?_, ?_, by omega, d4.drew⟩
              · rw [HT.out, hRl]
              · have hQl := HG.out.2.2.2.1
                have hSl := HG.out.2.2.1
                have := sr.cut nS c' (by simp only [bv, List.length_map]; omega)
                rw [bv_drop, if_neg hcn, ← hSl, List.drop_left] at this
                rw [HT.out, ← hSl]
                exact this
              · rw [HT.out, hRl]; omega
            case measure => simp [intOf]; omega
        · obtain rfl : j = ls.length := by omega
          rw [List.drop_eq_nil_of_le (Nat.le_refl _)] at *
          simp only [stB, List.length_nil] at *
          go_wp2_with fail
          go_ret
          exact ⟨rfl, b5.trans (hbel.mono b5.size)⟩
end Go.Proofs.Ytkgmbpbbgkjidaa

