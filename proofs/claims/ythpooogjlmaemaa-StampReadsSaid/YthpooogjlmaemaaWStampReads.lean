/- 'StampReads': the walk of the law. -/
import Derived.Test.YthpooogjlmaemaaStampK
import Derived.Test.YthpooogjlmaemaaStampF
import Derived.Test.YthpooogjlmaemaaParX
import Derived.Test.YthpooogjlmaemaaMat
namespace Go.Proofs.Ythpooogjlmaemaa
open Go.RowKit Go.Proofs.Ythpooogjlmaemaa.Pl

def readS (l : List UInt8) : S3 × Int := if l.length < 9 then (⟨0, 0, 0⟩, 20) else if 9 < l.length then (⟨0, 0, 0⟩, 21) else nineS l
theorem Read_all (w : World) (A : Option Addr) (n c : Nat) (l : List UInt8) (hb : Sl w w.heap.size A (bv l)) (h0 : n = l.length) (hc : n ≤ c) (hm : c ≤ maxLen) :
    Calls Try.prog 18 #[.slice A n c] w fun e w' => e = .returned (.tuple #[(readS l).1.v, .int .i64 (readS l).2]) ∧ Below w.heap.size w w' := by
  unfold readS
  by_cases h1 : l.length < 9
  · rw [if_pos h1]; exact Read_short w A n c (by omega)
  · rw [if_neg h1]
    by_cases h2 : 9 < l.length
    · rw [if_pos h2]; exact Read_long w A n c (by omega)
    · rw [if_neg h2]
      have h9 : n = 9 := by omega
      subst h9
      exact Read_nine w A c l hb h0.symm hc hm
theorem RefRead_all (w : World) (A : Option Addr) (n c : Nat) (l : List UInt8) (hb : Sl w w.heap.size A (bv l)) (h0 : n = l.length) (hc : n ≤ c) (hm : c ≤ maxLen) :
    Calls Try.prog 19 #[.slice A n c] w fun e w' => e = .returned (.tuple #[(readS l).1.v, .int .i64 (readS l).2]) ∧ Below w.heap.size w w' := by
  unfold readS
  by_cases h1 : l.length < 9
  · rw [if_pos h1]; exact RefRead_short w A n c (by omega)
  · rw [if_neg h1]
    by_cases h2 : 9 < l.length
    · rw [if_pos h2]; exact RefRead_long w A n c (by omega)
    · rw [if_neg h2]
      have h9 : n = 9 := by omega
      subst h9
      exact RefRead_nine w A c l hb h0.symm hc hm
theorem read_ok (l : List UInt8) (h : (readS l).2 = 0) : ∃ P L R : Nat, (readS l).1 = ⟨P, L, R⟩ ∧ P < 281474976710656 ∧ L < 65536 ∧ R < 64 ∧ fixF P 6 ++ fixF L 2 ++ [UInt8.ofNat R] = l := by
  unfold readS at *
  by_cases h1 : l.length < 9
  · rw [if_pos h1] at h; simp at h
  · rw [if_neg h1] at *
    by_cases h2 : 9 < l.length
    · rw [if_pos h2] at h; simp at h
    · rw [if_neg h2] at *
      unfold nineS at *
      by_cases h3 : (l[8]?.getD 0).toNat < 64
      · rw [if_pos h3]
        have h9 : l.length = 9 := by omega
        obtain ⟨q1, q2⟩ := Ps.bytes_of l h9 h3
        have e1 : big (l.take 6) = (Ps.St.of l).p := by
          rw [big_of (l.take 6) 6 (by rw [List.length_take]; omega), List.take_take]; rfl
        have e2 : big ((l.drop 6).take 2) = (Ps.St.of l).l := by
          rw [big_of ((l.drop 6).take 2) 2 (by rw [List.length_take, List.length_drop]; omega), List.take_take]; rfl
        rw [e1, e2]
        exact ⟨_, _, _, rfl, q2.1, q2.2.1, q2.2.2, q1⟩
      · rw [if_neg h3] at h; simp at h
def cnt11 : List UInt8 := [0, 1, 2, 3, 4, 5, 6, 7, 8, 9, 10]
def nine8 : List UInt8 := [9, 8, 7, 6, 5, 4, 3, 2]
theorem part_block (A : Option Addr) (n m c c' : Nat) : (Value.slice A n c).ownBlock = (Value.slice A m c').ownBlock := by cases A <;> rfl
set_option maxRecDepth 100000 in
set_option maxHeartbeats 6400000 in
theorem StampReads_walk (w : World) (A : Option Addr) (c : Nat) (l : List UInt8) (hb : Sl w w.heap.size A (bv l)) (hc : l.length ≤ c) (hm : c ≤ 140737488351232) (n : Nat) (hn : n < 256) :
    Calls Try.prog 5 #[.slice A l.length c, .int .u8 (n : Int)] w fun e w' => e = .returned (.bool true) ∧ Below w.heap.size w w' := by
  have hmc : c ≤ maxLen := by simp only [maxLen]; omega
  have hk : (n : Int).tmod 12 = ((n % 12 : Nat) : Int) := by rw [Int.tmod_eq_emod_of_nonneg (by omega)]; omega
  have hkw : IntKind.i64.wrap (n : Int) = (n : Int) := by rw [IntKind.wrap_i64]; omega
  obtain ⟨T, hT⟩ : ∃ T, l ++ cnt11 = T := ⟨_, rfl⟩
  have hT1 : 11 ≤ T.length := by rw [← hT]; simp [cnt11]
  obtain ⟨N, hN⟩ : ∃ N, nine8 ++ [UInt8.ofNat n] = N := ⟨_, rfl⟩
  have hN9 : N.length = 9 := by rw [← hN]; rfl
  have HT := Lib.hid hT
  have HN := Lib.hid hN
  have HN9 := Lib.hid hN9
  clear hT hN hN9
  have hk12 : n % 12 < 12 := by omega
  generalize n % 12 = k at *
  obtain ⟨U, hU⟩ : ∃ U, T.take k = U := ⟨_, rfl⟩
  have hUl : U.length = k := by rw [← hU, List.length_take]; omega
  have HU := Lib.hid hU
  have HUl := Lib.hid hUl
  clear hU hUl
  go_enter Try.func5, Try.ntmps5
  go_wp2_with fail
  refine (stampKnown_any w).mono ?_
  rintro e w1 ⟨rfl, hb1⟩
  have hbl := (hb.below hb1).more hb1.size
  go_wp2_with fail
  refine bstart (by kernel_rfl) ?_
  refine btake 0 (oi := _) (v := ?_) (by simp only [List.getElem?_toArray, List.getElem?_cons_succ, List.getElem?_cons_zero]; rfl) (by kernel_rfl) (by exact fun _ _ _ h => h) (by first | assumption | exact KB.refl _) (.inl ⟨by rfl, fun W hW => ?_⟩) ?_; rotate_left
  · (go_simp; first | done | with_reducible rfl)
  try simp only [Act.put, List.setIfInBounds_toArray, List.set_cons_zero, List.set_cons_succ]
  refine btake 1 (oi := _) (v := ?_) (by simp only [List.getElem?_toArray, List.getElem?_cons_succ, List.getElem?_cons_zero]; rfl) (by kernel_rfl) (by exact fun _ _ _ h => h) (by first | assumption | exact KB.refl _) (.inl ⟨by rfl, fun W hW => ?_⟩) ?_; rotate_left
  · (go_simp; first | done | with_reducible rfl)
  try simp only [Act.put, List.setIfInBounds_toArray, List.set_cons_zero, List.set_cons_succ]
  refine btake 5 (oi := _) (v := ?_) (by simp only [List.getElem?_toArray, List.getElem?_cons_succ, List.getElem?_cons_zero]; rfl) (by kernel_rfl) (by exact fun _ _ _ h => h) (by first | assumption | exact KB.refl _) (.inl ⟨by rfl, fun W hW => ?_⟩) ?_; rotate_left
  · (go_simp; first | done | with_reducible rfl)
  try simp only [Act.put, List.setIfInBounds_toArray, List.set_cons_zero, List.set_cons_succ]
  refine btake 6 (oi := _) (v := ?_) (by simp only [List.getElem?_toArray, List.getElem?_cons_succ, List.getElem?_cons_zero]; rfl) (by kernel_rfl) (by exact fun _ _ _ h => h) (by first | assumption | exact KB.refl _) (.inl ⟨by rfl, fun W hW => ?_⟩) ?_; rotate_left
  · (go_simp; first | done | with_reducible rfl)
  try simp only [Act.put, List.setIfInBounds_toArray, List.set_cons_zero, List.set_cons_succ]
  refine btake 7 (oi := _) (v := ?_) (by simp only [List.getElem?_toArray, List.getElem?_cons_succ, List.getElem?_cons_zero]; rfl) (by kernel_rfl) (by exact fun _ _ _ h => h) (by first | assumption | exact KB.refl _) (.inl ⟨by rfl, fun W hW => ?_⟩) ?_; rotate_left
  · (go_simp; first | done | with_reducible rfl)
  try simp only [Act.put, List.setIfInBounds_toArray, List.set_cons_zero, List.set_cons_succ]
  refine btake 11 (oi := _) (v := ?_) (by simp only [List.getElem?_toArray, List.getElem?_cons_succ, List.getElem?_cons_zero]; rfl) (by kernel_rfl) (by exact fun _ _ _ h => h) (by first | assumption | exact KB.refl _) (.inl ⟨by rfl, fun W hW => ?_⟩) ?_; rotate_left
  · (go_simp; first | done | with_reducible rfl)
  try simp only [Act.put, List.setIfInBounds_toArray, List.set_cons_zero, List.set_cons_succ]
  refine btake 16 (oi := _) (v := ?_) (by simp only [List.getElem?_toArray, List.getElem?_cons_succ, List.getElem?_cons_zero]; rfl) (by kernel_rfl) (by exact fun _ _ _ h => h) (by first | assumption | exact KB.refl _) (.inl ⟨by rfl, fun W hW => ?_⟩) ?_; rotate_left
  · (go_simp; first | done | with_reducible rfl)
  try simp only [Act.put, List.setIfInBounds_toArray, List.set_cons_zero, List.set_cons_succ]
  refine bparX [YldX.own 2 (some 15) (some 4) w1.heap.size l, YldX.sl 3 (some 16) (some 4) cnt11, YldX.own 4 (some 17) (some 8) w1.heap.size T, YldX.sl 8 (some 21) none U, YldX.sl 9 (some 22) (some 10) nine8, YldX.own 10 (some 23) (some 13) w1.heap.size nine8, YldX.sl 12 (some 25) (some 13) [UInt8.ofNat n], YldX.own 13 (some 26) none w1.heap.size N] 2 rfl (by kernel_rfl) (by kernel_rfl) (fun s hs => ?_) (fun vs W hbW hd => ?_)
  · simp only [List.mem_cons, List.not_mem_nil, or_false] at hs
    rcases hs with rfl | rfl | rfl | rfl | rfl | rfl | rfl | rfl
    · -- 2: Op.call { callee := Callee.builtin Builtin.append, args := #[Operand.const (Value.slice none 0 0), Operand.tmp 14], argTypes := #[28, 28] }
      intro vs W hbW hd
      clear hd
      refine parX_of (j := 2) (d := (some 15)) (o := _) (by simp only [List.getElem?_toArray, List.getElem?_cons_succ, List.getElem?_cons_zero]; rfl) (by rfl) (fun K hK => ?_)
      simp only [putx, puts, List.map_cons, List.map_nil, YldX.y, List.foldl_cons, List.foldl_nil, Act.put, List.setIfInBounds_toArray, List.set_cons_zero, List.set_cons_succ, YldX.eq, YldX.sl, YldX.own] at hK ⊢
      refine wp_app rfl (OwnB.nil W W.heap.size) (Sl.below' (w := w1.drew) hbl hbW) rfl rfl rfl (by simp; omega) (Nat.le_refl _) ?_
      intro s5 w5 hown5 hg5 hat5
      rw [List.nil_append] at hown5
      exact hK.out _ _ _ (by rfl) (StepX.fresh (OwnB.lower hown5 hbW.size) (below_of_grown hg5 (by simp [Value.ownBlock]) (Nat.le_refl _)) hown5)
    · -- 3: Op.buildSlice 28 11 #[(0, Operand.const (Value.int IntKind.u8 0)), (1, Operand.const (Value.int IntKind.u8 1)), (2, Operand.const (Value.int IntKind.u
      intro vs W hbW hd
      clear hd
      refine parX_of (j := 3) (d := (some 16)) (o := _) (by simp only [List.getElem?_toArray, List.getElem?_cons_succ, List.getElem?_cons_zero]; rfl) (by rfl) (fun K hK => ?_)
      simp only [putx, puts, List.map_cons, List.map_nil, YldX.y, List.foldl_cons, List.foldl_nil, Act.put, List.setIfInBounds_toArray, List.set_cons_zero, List.set_cons_succ, YldX.eq, YldX.sl, YldX.own] at hK ⊢
      go_simp
      exact hK.out _ _ _ (by rfl) (StepX.fresh (SlcIs.of (OwnB.lit W W.heap.size cnt11 (Nat.le_refl _) (by simp [cnt11, maxLen]))) (balloc (Below.refl _ _) _) (OwnB.lit W W.heap.size cnt11 (Nat.le_refl _) (by simp [cnt11, maxLen])))
    · -- 4: Op.call { callee := Callee.builtin Builtin.append, args := #[Operand.tmp 15, Operand.tmp 16], argTypes := #[28, 28] }
      intro vs W hbW hd
      obtain ⟨h2, b2⟩ : ((YldX.own 2 (some 15) (some 4) w1.heap.size l).pr (vs 2) W) ∧ ∀ g, (vs 2).ownBlock = some g → _ := hd _ (.head _) (by kernel_rfl) (by first | exact .inl rfl | exact .inr rfl)
      obtain ⟨h3, b3⟩ : ((YldX.sl 3 (some 16) (some 4) cnt11).pr (vs 3) W) ∧ ∀ g, (vs 3).ownBlock = some g → _ := hd _ (.tail _ (.head _)) (by kernel_rfl) (by first | exact .inl rfl | exact .inr rfl)
      clear hd
      refine parX_of (j := 4) (d := (some 17)) (o := _) (by simp only [List.getElem?_toArray, List.getElem?_cons_succ, List.getElem?_cons_zero]; rfl) (by rfl) (fun K hK => ?_)
      simp only [putx, puts, List.map_cons, List.map_nil, YldX.y, List.foldl_cons, List.foldl_nil, Act.put, List.setIfInBounds_toArray, List.set_cons_zero, List.set_cons_succ, YldX.eq, YldX.sl, YldX.own] at hK ⊢
      generalize e2 : vs 2 = v2 at hK h2 b2 ⊢
      generalize e3 : vs 3 = v3 at hK h3 b3 ⊢
      obtain ⟨A3, c3, rfl, q1, q2, q3⟩ := h3
      refine wp_app rfl h2 q1 rfl rfl rfl (by simp [cnt11]; omega) hbW.size ?_
      intro s5 w5 hown5 hg5 hat5
      rw [HT.out] at hown5
      exact hK.out _ _ _ (by rfl) (StepX.app (t := YldX.own 2 (some 15) (some 4) w1.heap.size l) (.head _) (by kernel_rfl) rfl e2 hown5 hown5 hg5 hat5)
    · -- 8: Op.slice 28 (Operand.tmp 17) none (some (Operand.tmp 20)) none
      intro vs W hbW hd
      obtain ⟨h4, b4⟩ : ((YldX.own 4 (some 17) (some 8) w1.heap.size T).pr (vs 4) W) ∧ ∀ g, (vs 4).ownBlock = some g → _ := hd _ (.tail _ (.tail _ (.head _))) (by kernel_rfl) (by first | exact .inl rfl | exact .inr rfl)
      clear hd
      refine parX_of (j := 8) (d := (some 21)) (o := _) (by simp only [List.getElem?_toArray, List.getElem?_cons_succ, List.getElem?_cons_zero]; rfl) (by rfl) (fun K hK => ?_)
      simp only [putx, puts, List.map_cons, List.map_nil, YldX.y, List.foldl_cons, List.foldl_nil, Act.put, List.setIfInBounds_toArray, List.set_cons_zero, List.set_cons_succ, YldX.eq, YldX.sl, YldX.own] at hK ⊢
      generalize e4 : vs 4 = v4 at hK h4 b4 ⊢
      obtain ⟨A4, c4, rfl, f1, f2, f3, _, _⟩ := OwnB.form h4
      have i1 : (k : Int) ≤ (c4 : Int) := by omega
      have i3 : (0 : Int) ≤ (k : Int) := by omega
      go_simp
      exact hK.out _ _ _ (by rfl) (StepX.part (t := YldX.own 4 (some 17) (some 8) w1.heap.size T) (.tail _ (.tail _ (.head _))) (by kernel_rfl) rfl e4 ⟨A4, c4, by rw [HUl.out], by have := f3.tk k; rw [bv_take, HU.out] at this; exact this, by rw [HUl.out]; omega, f2⟩ (Below.refl _ _) (part_block ..))
    · -- 9: Op.buildSlice 28 8 #[(0, Operand.const (Value.int IntKind.u8 9)), (1, Operand.const (Value.int IntKind.u8 8)), (2, Operand.const (Value.int IntKind.u8
      intro vs W hbW hd
      clear hd
      refine parX_of (j := 9) (d := (some 22)) (o := _) (by simp only [List.getElem?_toArray, List.getElem?_cons_succ, List.getElem?_cons_zero]; rfl) (by rfl) (fun K hK => ?_)
      simp only [putx, puts, List.map_cons, List.map_nil, YldX.y, List.foldl_cons, List.foldl_nil, Act.put, List.setIfInBounds_toArray, List.set_cons_zero, List.set_cons_succ, YldX.eq, YldX.sl, YldX.own] at hK ⊢
      go_simp
      exact hK.out _ _ _ (by rfl) (StepX.fresh (SlcIs.of (OwnB.lit W W.heap.size nine8 (Nat.le_refl _) (by simp [nine8, maxLen]))) (balloc (Below.refl _ _) _) (OwnB.lit W W.heap.size nine8 (Nat.le_refl _) (by simp [nine8, maxLen])))
    · -- 10: Op.call { callee := Callee.builtin Builtin.append, args := #[Operand.const (Value.slice none 0 0), Operand.tmp 22], argTypes := #[28, 28] }
      intro vs W hbW hd
      obtain ⟨h9, b9⟩ : ((YldX.sl 9 (some 22) (some 10) nine8).pr (vs 9) W) ∧ ∀ g, (vs 9).ownBlock = some g → _ := hd _ (.tail _ (.tail _ (.tail _ (.tail _ (.head _))))) (by kernel_rfl) (by first | exact .inl rfl | exact .inr rfl)
      clear hd
      refine parX_of (j := 10) (d := (some 23)) (o := _) (by simp only [List.getElem?_toArray, List.getElem?_cons_succ, List.getElem?_cons_zero]; rfl) (by rfl) (fun K hK => ?_)
      simp only [putx, puts, List.map_cons, List.map_nil, YldX.y, List.foldl_cons, List.foldl_nil, Act.put, List.setIfInBounds_toArray, List.set_cons_zero, List.set_cons_succ, YldX.eq, YldX.sl, YldX.own] at hK ⊢
      generalize e9 : vs 9 = v9 at hK h9 b9 ⊢
      obtain ⟨A9, c9, rfl, q1, q2, q3⟩ := h9
      refine wp_app rfl (OwnB.nil W W.heap.size) q1 rfl rfl rfl (by simp [nine8]) (Nat.le_refl _) ?_
      intro s5 w5 hown5 hg5 hat5
      rw [List.nil_append] at hown5
      exact hK.out _ _ _ (by rfl) (StepX.fresh (OwnB.lower hown5 hbW.size) (below_of_grown hg5 (by simp [Value.ownBlock]) (Nat.le_refl _)) hown5)
    · -- 12: Op.buildSlice 28 1 #[(0, Operand.tmp 24)]
      intro vs W hbW hd
      clear hd
      refine parX_of (j := 12) (d := (some 25)) (o := _) (by simp only [List.getElem?_toArray, List.getElem?_cons_succ, List.getElem?_cons_zero]; rfl) (by rfl) (fun K hK => ?_)
      simp only [putx, puts, List.map_cons, List.map_nil, YldX.y, List.foldl_cons, List.foldl_nil, Act.put, List.setIfInBounds_toArray, List.set_cons_zero, List.set_cons_succ, YldX.eq, YldX.sl, YldX.own] at hK ⊢
      go_simp
      exact hK.out _ _ _ (by rfl) (StepX.fresh (SlcIs.of (OwnB.one W n hn)) (balloc (Below.refl _ _) _) (OwnB.one W n hn))
    · -- 13: Op.call { callee := Callee.builtin Builtin.append, args := #[Operand.tmp 23, Operand.tmp 25], argTypes := #[28, 28] }
      intro vs W hbW hd
      obtain ⟨h10, b10⟩ : ((YldX.own 10 (some 23) (some 13) w1.heap.size nine8).pr (vs 10) W) ∧ ∀ g, (vs 10).ownBlock = some g → _ := hd _ (.tail _ (.tail _ (.tail _ (.tail _ (.tail _ (.head _)))))) (by kernel_rfl) (by first | exact .inl rfl | exact .inr rfl)
      obtain ⟨h12, b12⟩ : ((YldX.sl 12 (some 25) (some 13) [UInt8.ofNat n]).pr (vs 12) W) ∧ ∀ g, (vs 12).ownBlock = some g → _ := hd _ (.tail _ (.tail _ (.tail _ (.tail _ (.tail _ (.tail _ (.head _))))))) (by kernel_rfl) (by first | exact .inl rfl | exact .inr rfl)
      clear hd
      refine parX_of (j := 13) (d := (some 26)) (o := _) (by simp only [List.getElem?_toArray, List.getElem?_cons_succ, List.getElem?_cons_zero]; rfl) (by rfl) (fun K hK => ?_)
      simp only [putx, puts, List.map_cons, List.map_nil, YldX.y, List.foldl_cons, List.foldl_nil, Act.put, List.setIfInBounds_toArray, List.set_cons_zero, List.set_cons_succ, YldX.eq, YldX.sl, YldX.own] at hK ⊢
      generalize e10 : vs 10 = v10 at hK h10 b10 ⊢
      generalize e12 : vs 12 = v12 at hK h12 b12 ⊢
      obtain ⟨A12, c12, rfl, q1, q2, q3⟩ := h12
      refine wp_app rfl h10 q1 rfl rfl rfl (by simp [nine8]) hbW.size ?_
      intro s5 w5 hown5 hg5 hat5
      rw [HN.out] at hown5
      exact hK.out _ _ _ (by rfl) (StepX.app (t := YldX.own 10 (some 23) (some 13) w1.heap.size nine8) (.tail _ (.tail _ (.tail _ (.tail _ (.tail _ (.head _)))))) (by kernel_rfl) rfl e10 hown5 hown5 hg5 hat5)
  obtain ⟨h8, b8⟩ : ((YldX.sl 8 (some 21) none U).pr (vs 8) W) ∧ ∀ g, (vs 8).ownBlock = some g → _ := hd _ (.tail _ (.tail _ (.tail _ (.head _)))) rfl
  obtain ⟨h13, b13⟩ : ((YldX.own 13 (some 26) none w1.heap.size N).pr (vs 13) W) ∧ ∀ g, (vs 13).ownBlock = some g → _ := hd _ (.tail _ (.tail _ (.tail _ (.tail _ (.tail _ (.tail _ (.tail _ (.head _)))))))) rfl
  clear hd
  have hKW := KB.of hbW
  simp only [putx, puts, List.map_cons, List.map_nil, YldX.y, List.foldl_cons, List.foldl_nil, Act.put, List.setIfInBounds_toArray, List.set_cons_zero, List.set_cons_succ, YldX.eq, YldX.sl, YldX.own]
  generalize vs 2 = v2
  generalize vs 3 = v3
  generalize vs 4 = v4
  generalize vs 8 = v8 at h8 b8 ⊢
  generalize vs 9 = v9
  generalize vs 10 = v10
  generalize vs 12 = v12
  generalize vs 13 = v13 at h13 b13 ⊢
  obtain ⟨A8, c8, rfl, u1, u2, u3⟩ := h8
  obtain ⟨A13, c13, rfl, x1, x2, x3, _, _⟩ := OwnB.form h13
  have hbW' : Below w1.heap.size w1 W := (Below.refl _ w1).drew.trans hbW
  have hM := Mat.three W 28 (.slice A l.length c) (.slice A8 U.length c8) (.slice A13 N.length c13) l U N ⟨A, c, rfl, hbl.below' hbW' |>.more hbW'.size, hc, hmc⟩ ⟨A8, c8, rfl, u1, u2, u3⟩ ⟨A13, c13, rfl, x3, x1, x2⟩
  -- 14: Op.buildSlice 34 3 #[(0, Operand.tmp 13), (1, Operand.tmp 21), (2, Operand.tmp 26)]
  refine bopH 14 (o := _) (by simp only [List.getElem?_toArray, List.getElem?_cons_succ, List.getElem?_cons_zero]; rfl) (by kernel_rfl) (by first | assumption | exact KB.refl _) (by rfl) (fun K hK => ?_)
  go_simp
  have hkb : KB w1.drew.heap (W.alloc (.cells #[.slice A l.length c, .slice A8 U.length c8, .slice A13 N.length c13] 28)) := KB.of (hbW.alloc hbW.size _)
  refine hK.out _ _ hkb ?_; clear hK K
  try simp only [Act.put, List.setIfInBounds_toArray, List.set_cons_zero, List.set_cons_succ]
  refine btake 15 (oi := _) (v := ?_) (by simp only [List.getElem?_toArray, List.getElem?_cons_succ, List.getElem?_cons_zero]; rfl) (by kernel_rfl) (by exact fun _ _ _ h => h) (by first | assumption | exact KB.refl _) (.inl ⟨by rfl, fun W hW => ?_⟩) ?_; rotate_left
  · (go_simp; first | done | with_reducible rfl)
  try simp only [Act.put, List.setIfInBounds_toArray, List.set_cons_zero, List.set_cons_succ]
  refine bdone (by kernel_rfl) ?_
  have hbw3 := bstep hb1 (hbW'.alloc hbW'.size (.cells #[.slice A l.length c, .slice A8 U.length c8, .slice A13 N.length c13] 28))
  generalize W.alloc (.cells #[.slice A l.length c, .slice A8 U.length c8, .slice A13 N.length c13] 28) = w3 at *
  go_wp2_with fail
  generalize W.heap.size = gM at *
  clear hb hbl hb1 hbW hKW h13 b13 b8 u1 x3 hbW' hkb
  go_loopw [29] (fun x29 wr => ∃ j : Nat, j ≤ 3 ∧ x29 = .int .i64 (j : Int) ∧ Below w3.heap.size w3 wr) (fun x29 _ => 3 - (intOf x29).toNat)
  case atStart => exact ⟨0, by omega, rfl, Below.refl _ _⟩
  case round =>
    obtain ⟨j, hj, rfl, hbel⟩ := hrel
    by_cases hlt : j < 3
    · obtain ⟨b, o, A', c', hAe, hbW, hck, h1, h2, h3⟩ := (hM.below hbel).at_ (k := j) (by simpa using hlt)
      cases hAe
      rw [Nat.zero_add] at hck
      generalize [l, U, N][j]?.getD [] = m at *
      have hrd := fun V (hV : Sl V V.heap.size A' (bv m)) => Read_all V A' m.length c' m hV rfl h2 h3
      have hrr := fun V (hV : Sl V V.heap.size A' (bv m)) => RefRead_all V A' m.length c' m hV rfl h2 h3
      have hok := read_ok m
      obtain ⟨q, hq⟩ : ∃ q, readS m = q := ⟨_, rfl⟩
      obtain ⟨X, E⟩ := q
      rw [hq] at hrd hrr hok
      simp only at hrd hrr hok
      have H := Lib.hid (And.intro hrd hrr)
      clear hrd hrr hq
      go_wp2_with fail
      refine (H.out.1 wr h1).mono ?_
      rintro e w4 ⟨rfl, hb4⟩
      have hm4 := (h1.below' hb4).more hb4.size
      have b4 := hbel.trans (hb4.mono hbel.size)
      unfold S3.v
      go_wp2_with fail
      have vx := Stands.new w4 23 X
      replace hm4 := (hm4.alloc (.cells #[.int .i64 X.p, .int .i64 X.l, .int .i64 X.r] 23)).more (B' := (w4.alloc (.cells #[.int .i64 X.p, .int .i64 X.l, .int .i64 X.r] 23)).heap.size) (by simp)
      replace b4 := b4.alloc b4.size (.cells #[.int .i64 X.p, .int .i64 X.l, .int .i64 X.r] 23)
      generalize w4.alloc (.cells #[.int .i64 X.p, .int .i64 X.l, .int .i64 X.r] 23) = w5 at *
      generalize w4.heap.size = gx at *
      refine (H.out.2 w5 hm4).mono ?_
      rintro e w6 ⟨rfl, hb6⟩
      have hm6 := (hm4.below' hb6).more hb6.size
      have vx := vx.below hb6
      have b6 := b4.trans (hb6.mono b4.size)
      unfold S3.v
      go_wp2_with fail
      have vy := Stands.new w6 23 X
      replace vx := vx.alloc (.cells #[.int .i64 X.p, .int .i64 X.l, .int .i64 X.r] 23)
      replace hm6 := (hm6.alloc (.cells #[.int .i64 X.p, .int .i64 X.l, .int .i64 X.r] 23)).more (B' := (w6.alloc (.cells #[.int .i64 X.p, .int .i64 X.l, .int .i64 X.r] 23)).heap.size) (by simp)
      replace b6 := b6.alloc b6.size (.cells #[.int .i64 X.p, .int .i64 X.l, .int .i64 X.r] 23)
      generalize w6.alloc (.cells #[.int .i64 X.p, .int .i64 X.l, .int .i64 X.r] 23) = w7 at *
      generalize w6.heap.size = gy at *
      have e0 := cellB vx.2.1
      have e1 := cellB vx.2.2.1
      have e2 := cellB vx.2.2.2.1
      have e3 := cellB vy.2.1
      have e4 := cellB vy.2.2.1
      have e5 := cellB vy.2.2.2.1
      clear h1 hm4 b4 hb4 hb6 H
      by_cases hE : E = 0
      · obtain ⟨P, L, R, rfl, hP, hL, hR, hby⟩ := hok hE
        subst hE
        have hrg := fun V => Right_any V ⟨(P : Int), (L : Int), (R : Int)⟩
        rw [show S3.right ⟨(P : Int), (L : Int), (R : Int)⟩ = true by simp [S3.right]; omega] at hrg
        have hbt := fun V => Bytes_right V P L R hP hL hR
        rw [hby] at hbt
        unfold S3.v at hrg hbt
        have H := Lib.hid (And.intro hrg hbt)
        clear hrg hbt hok hby
        simp only at e0 e1 e2 e3 e4 e5
        have hcm := convB hm6 m.length c' rfl
        refine bstart (by kernel_rfl) ?_
        refine btake 0 (oi := _) (v := ?_) (by simp only [List.getElem?_toArray, List.getElem?_cons_succ, List.getElem?_cons_zero]; rfl) (by kernel_rfl) (by exact fun _ _ _ h => h) (by first | assumption | exact KB.refl _) (.inl ⟨by rfl, fun W hW => ?_⟩) ?_; rotate_left
        · (go_simp; first | done | with_reducible rfl)
        try simp only [Act.put, List.setIfInBounds_toArray, List.set_cons_zero, List.set_cons_succ]
        refine btake 1 (oi := _) (v := ?_) (by simp only [List.getElem?_toArray, List.getElem?_cons_succ, List.getElem?_cons_zero]; rfl) (by kernel_rfl) (by exact fun _ _ _ h => h) (by first | assumption | exact KB.refl _) (.inl ⟨by rfl, fun W hW => ?_⟩) ?_; rotate_left
        · (go_simp; first | done | with_reducible rfl)
        try simp only [Act.put, List.setIfInBounds_toArray, List.set_cons_zero, List.set_cons_succ]
        refine btake 2 (oi := _) (v := ?_) (by simp only [List.getElem?_toArray, List.getElem?_cons_succ, List.getElem?_cons_zero]; rfl) (by kernel_rfl) (by exact fun _ _ _ h => h) (by first | assumption | exact KB.refl _) (.inl ⟨by rfl, fun W hW => ?_⟩) ?_; rotate_left
        · (go_simp; first | done | with_reducible rfl)
        try simp only [Act.put, List.setIfInBounds_toArray, List.set_cons_zero, List.set_cons_succ]
        refine btake 3 (oi := _) (v := ?_) (by simp only [List.getElem?_toArray, List.getElem?_cons_succ, List.getElem?_cons_zero]; rfl) (by kernel_rfl) (by exact fun _ _ _ h => h) (by first | assumption | exact KB.refl _) (.inl ⟨by rfl, fun W hW => ?_⟩) ?_; rotate_left
        · (go_simp; first | done | with_reducible rfl)
        try simp only [Act.put, List.setIfInBounds_toArray, List.set_cons_zero, List.set_cons_succ]
        refine btake 4 (oi := _) (v := ?_) (by simp only [List.getElem?_toArray, List.getElem?_cons_succ, List.getElem?_cons_zero]; rfl) (by kernel_rfl) (by exact fun _ _ _ h => h) (by first | assumption | exact KB.refl _) (.inl ⟨by rfl, fun W hW => ?_⟩) ?_; rotate_left
        · (go_simp; first | done | with_reducible rfl)
        try simp only [Act.put, List.setIfInBounds_toArray, List.set_cons_zero, List.set_cons_succ]
        refine btake 5 (oi := _) (v := ?_) (by simp only [List.getElem?_toArray, List.getElem?_cons_succ, List.getElem?_cons_zero]; rfl) (by kernel_rfl) (by exact fun _ _ _ h => h) (by first | assumption | exact KB.refl _) (.inl ⟨by rfl, fun W hW => ?_⟩) ?_; rotate_left
        · (go_simp; first | done | with_reducible rfl)
        try simp only [Act.put, List.setIfInBounds_toArray, List.set_cons_zero, List.set_cons_succ]
        refine btake 6 (oi := _) (v := ?_) (by simp only [List.getElem?_toArray, List.getElem?_cons_succ, List.getElem?_cons_zero]; rfl) (by kernel_rfl) (by exact fun _ _ _ h => h) (by first | assumption | exact KB.refl _) (.inl ⟨by rfl, fun W hW => ?_⟩) ?_; rotate_left
        · (go_simp; first | done | with_reducible rfl)
        try simp only [Act.put, List.setIfInBounds_toArray, List.set_cons_zero, List.set_cons_succ]
        refine btake 7 (oi := _) (v := ?_) (by simp only [List.getElem?_toArray, List.getElem?_cons_succ, List.getElem?_cons_zero]; rfl) (by kernel_rfl) (by exact fun _ _ _ h => h) (by first | assumption | exact KB.refl _) (.inl ⟨by rfl, fun W hW => ?_⟩) ?_; rotate_left
        · (go_simp; first | done | with_reducible rfl)
        try simp only [Act.put, List.setIfInBounds_toArray, List.set_cons_zero, List.set_cons_succ]
        refine btake 8 (oi := _) (v := ?_) (by simp only [List.getElem?_toArray, List.getElem?_cons_succ, List.getElem?_cons_zero]; rfl) (by kernel_rfl) (by exact fun _ _ _ h => h) (by first | assumption | exact KB.refl _) (.inl ⟨by rfl, fun W hW => ?_⟩) ?_; rotate_left
        · (go_simp; first | done | with_reducible rfl)
        try simp only [Act.put, List.setIfInBounds_toArray, List.set_cons_zero, List.set_cons_succ]
        refine btake 9 (oi := _) (v := ?_) (by simp only [List.getElem?_toArray, List.getElem?_cons_succ, List.getElem?_cons_zero]; rfl) (by kernel_rfl) (by exact fun _ _ _ h => h) (by first | assumption | exact KB.refl _) (.inl ⟨by rfl, fun W hW => ?_⟩) ?_; rotate_left
        · (go_simp; first | done | with_reducible rfl)
        try simp only [Act.put, List.setIfInBounds_toArray, List.set_cons_zero, List.set_cons_succ]
        refine btake 10 (oi := _) (v := ?_) (by simp only [List.getElem?_toArray, List.getElem?_cons_succ, List.getElem?_cons_zero]; rfl) (by kernel_rfl) (by exact fun _ _ _ h => h) (by first | assumption | exact KB.refl _) (.inl ⟨by rfl, fun W hW => ?_⟩) ?_; rotate_left
        · (go_simp; first | done | with_reducible rfl)
        try simp only [Act.put, List.setIfInBounds_toArray, List.set_cons_zero, List.set_cons_succ]
        refine btake 11 (oi := _) (v := ?_) (by simp only [List.getElem?_toArray, List.getElem?_cons_succ, List.getElem?_cons_zero]; rfl) (by kernel_rfl) (by exact fun _ _ _ h => h) (by first | assumption | exact KB.refl _) (.inl ⟨by rfl, fun W hW => ?_⟩) ?_; rotate_left
        · (go_simp; first | done | with_reducible rfl)
        try simp only [Act.put, List.setIfInBounds_toArray, List.set_cons_zero, List.set_cons_succ]
        refine btake 12 (oi := _) (v := ?_) (by simp only [List.getElem?_toArray, List.getElem?_cons_succ, List.getElem?_cons_zero]; rfl) (by kernel_rfl) (by exact fun _ _ _ h => h) (by first | assumption | exact KB.refl _) (.inl ⟨by rfl, fun W hW => ?_⟩) ?_; rotate_left
        · (go_simp; first | done | with_reducible rfl)
        try simp only [Act.put, List.setIfInBounds_toArray, List.set_cons_zero, List.set_cons_succ]
        -- 13: newsreel/stamp.Right
        refine bop 13 (o := _) (by simp only [List.getElem?_toArray, List.getElem?_cons_succ, List.getElem?_cons_zero]; rfl) (by kernel_rfl) (by first | assumption | exact KB.refl _) (by rfl) (fun K hK => ?_)
        go_simp
        refine (H.out.1 _).mono ?_
        rintro e w8 ⟨rfl, hb8⟩
        have vx := Stands.below (w := w7.drew) vx hb8
        have hm8 := (Sl.below' (w := w7.drew) hm6 hb8).more hb8.size
        have b8 := b6.drew.trans (hb8.mono b6.size)
        have e0 := cellB vx.2.1
        have e1 := cellB vx.2.2.1
        have e2 := cellB vx.2.2.2.1
        have hcm := convB hm8 m.length c' rfl
        simp only at e0 e1 e2
        have hkb := KB.of hb8
        refine hK.out _ _ hkb ?_; clear hK K
        try simp only [Act.put, List.setIfInBounds_toArray, List.set_cons_zero, List.set_cons_succ]
        refine btake 14 (oi := _) (v := ?_) (by simp only [List.getElem?_toArray, List.getElem?_cons_succ, List.getElem?_cons_zero]; rfl) (by kernel_rfl) (by exact fun _ _ _ h => h) (by first | assumption | exact KB.refl _) (.inl ⟨by rfl, fun W hW => ?_⟩) ?_; rotate_left
        · (go_simp; first | done | with_reducible rfl)
        try simp only [Act.put, List.setIfInBounds_toArray, List.set_cons_zero, List.set_cons_succ]
        refine btake 15 (oi := _) (v := ?_) (by simp only [List.getElem?_toArray, List.getElem?_cons_succ, List.getElem?_cons_zero]; rfl) (by kernel_rfl) (by exact fun _ _ _ h => h) (by first | assumption | exact KB.refl _) (.inl ⟨by rfl, fun W hW => ?_⟩) ?_; rotate_left
        · (go_simp; first | done | with_reducible rfl)
        try simp only [Act.put, List.setIfInBounds_toArray, List.set_cons_zero, List.set_cons_succ]
        refine btake 16 (oi := _) (v := ?_) (by simp only [List.getElem?_toArray, List.getElem?_cons_succ, List.getElem?_cons_zero]; rfl) (by kernel_rfl) (by exact fun _ _ _ h => h) (by first | assumption | exact KB.refl _) (.inl ⟨by rfl, fun W hW => ?_⟩) ?_; rotate_left
        · (go_simp; first | done | with_reducible rfl)
        try simp only [Act.put, List.setIfInBounds_toArray, List.set_cons_zero, List.set_cons_succ]
        refine btake 19 (oi := _) (v := ?_) (by simp only [List.getElem?_toArray, List.getElem?_cons_succ, List.getElem?_cons_zero]; rfl) (by kernel_rfl) (by exact fun _ _ _ h => h) (by first | assumption | exact KB.refl _) (.inl ⟨by rfl, fun W hW => ?_⟩) ?_; rotate_left
        · (go_simp; first | done | with_reducible rfl)
        try simp only [Act.put, List.setIfInBounds_toArray, List.set_cons_zero, List.set_cons_succ]
        refine btake 20 (oi := _) (v := ?_) (by simp only [List.getElem?_toArray, List.getElem?_cons_succ, List.getElem?_cons_zero]; rfl) (by kernel_rfl) (by exact fun _ _ _ h => h) (by first | assumption | exact KB.refl _) (.inl ⟨by rfl, fun W hW => ?_⟩) ?_; rotate_left
        · (go_simp; first | done | with_reducible rfl)
        try simp only [Act.put, List.setIfInBounds_toArray, List.set_cons_zero, List.set_cons_succ]
        -- 17: newsreel/stamp.Bytes
        refine bop 17 (o := _) (by simp only [List.getElem?_toArray, List.getElem?_cons_succ, List.getElem?_cons_zero]; rfl) (by kernel_rfl) (by first | assumption | exact KB.refl _) (by rfl) (fun K hK => ?_)
        go_simp
        refine (H.out.2 _).mono ?_
        rintro e w9 ⟨A9, c9, rfl, hown9, hb9⟩
        have hs9 := (Fresh.sl hown9).1
        have hm9 := (hm8.below' hb9).more hb9.size
        have b9 := b8.trans (hb9.mono b8.size)
        have hc9 := convB hs9 m.length c9 rfl
        have hcm := convB hm9 m.length c' rfl
        have hkb := KB.of hb9
        refine hK.out _ _ hkb ?_; clear hK K
        try simp only [Act.put, List.setIfInBounds_toArray, List.set_cons_zero, List.set_cons_succ]
        refine btake 18 (oi := _) (v := ?_) (by simp only [List.getElem?_toArray, List.getElem?_cons_succ, List.getElem?_cons_zero]; rfl) (by kernel_rfl) (by exact fun _ _ _ h => h) (by first | assumption | exact KB.refl _) (.inl ⟨by rfl, fun W hW => ?_⟩) ?_; rotate_left
        · (go_simp; first | done | with_reducible rfl)
        try simp only [Act.put, List.setIfInBounds_toArray, List.set_cons_zero, List.set_cons_succ]
        refine btake 21 (oi := _) (v := ?_) (by simp only [List.getElem?_toArray, List.getElem?_cons_succ, List.getElem?_cons_zero]; rfl) (by kernel_rfl) (by exact fun _ _ _ h => h) (by first | assumption | exact KB.refl _) (.inl ⟨by rfl, fun W hW => ?_⟩) ?_; rotate_left
        · (go_simp; first | done | with_reducible rfl)
        try simp only [Act.put, List.setIfInBounds_toArray, List.set_cons_zero, List.set_cons_succ]
        refine btake 22 (oi := _) (v := ?_) (by simp only [List.getElem?_toArray, List.getElem?_cons_succ, List.getElem?_cons_zero]; rfl) (by kernel_rfl) (by exact fun _ _ _ h => h) (by first | assumption | exact KB.refl _) (.inl ⟨by rfl, fun W hW => ?_⟩) ?_; rotate_left
        · (go_simp; first | done | with_reducible rfl)
        try simp only [Act.put, List.setIfInBounds_toArray, List.set_cons_zero, List.set_cons_succ]
        refine btake 23 (oi := _) (v := ?_) (by simp only [List.getElem?_toArray, List.getElem?_cons_succ, List.getElem?_cons_zero]; rfl) (by kernel_rfl) (by exact fun _ _ _ h => h) (by first | assumption | exact KB.refl _) (.inl ⟨by rfl, fun W hW => ?_⟩) ?_; rotate_left
        · (go_simp; first | done | with_reducible rfl)
        try simp only [Act.put, List.setIfInBounds_toArray, List.set_cons_zero, List.set_cons_succ]
        refine btake 24 (oi := _) (v := ?_) (by simp only [List.getElem?_toArray, List.getElem?_cons_succ, List.getElem?_cons_zero]; rfl) (by kernel_rfl) (by exact fun _ _ _ h => h) (by first | assumption | exact KB.refl _) (.inl ⟨by rfl, fun W hW => ?_⟩) ?_; rotate_left
        · (go_simp; first | done | with_reducible rfl)
        try simp only [Act.put, List.setIfInBounds_toArray, List.set_cons_zero, List.set_cons_succ]
        refine bdone (by kernel_rfl) ?_
        go_wp2_with fail
        go_roundw
        case rel => exact ⟨j + 1, hlt, by go_num, b9⟩
        case measure => simp [intOf]; omega
      · have hE0 : (E == 0) = false := by simpa using hE
        refine bstart (by kernel_rfl) ?_
        refine btake 0 (oi := _) (v := ?_) (by simp only [List.getElem?_toArray, List.getElem?_cons_succ, List.getElem?_cons_zero]; rfl) (by kernel_rfl) (by exact fun _ _ _ h => h) (by first | assumption | exact KB.refl _) (.inl ⟨by rfl, fun W hW => ?_⟩) ?_; rotate_left
        · (go_simp; first | done | with_reducible rfl)
        try simp only [Act.put, List.setIfInBounds_toArray, List.set_cons_zero, List.set_cons_succ]
        refine btake 1 (oi := _) (v := ?_) (by simp only [List.getElem?_toArray, List.getElem?_cons_succ, List.getElem?_cons_zero]; rfl) (by kernel_rfl) (by exact fun _ _ _ h => h) (by first | assumption | exact KB.refl _) (.inl ⟨by rfl, fun W hW => ?_⟩) ?_; rotate_left
        · (go_simp; first | done | with_reducible rfl)
        try simp only [Act.put, List.setIfInBounds_toArray, List.set_cons_zero, List.set_cons_succ]
        refine btake 2 (oi := _) (v := ?_) (by simp only [List.getElem?_toArray, List.getElem?_cons_succ, List.getElem?_cons_zero]; rfl) (by kernel_rfl) (by exact fun _ _ _ h => h) (by first | assumption | exact KB.refl _) (.inl ⟨by rfl, fun W hW => ?_⟩) ?_; rotate_left
        · (go_simp; first | done | with_reducible rfl)
        try simp only [Act.put, List.setIfInBounds_toArray, List.set_cons_zero, List.set_cons_succ]
        refine btake 3 (oi := _) (v := ?_) (by simp only [List.getElem?_toArray, List.getElem?_cons_succ, List.getElem?_cons_zero]; rfl) (by kernel_rfl) (by exact fun _ _ _ h => h) (by first | assumption | exact KB.refl _) (.inl ⟨by rfl, fun W hW => ?_⟩) ?_; rotate_left
        · (go_simp; first | done | with_reducible rfl)
        try simp only [Act.put, List.setIfInBounds_toArray, List.set_cons_zero, List.set_cons_succ]
        refine btake 4 (oi := _) (v := ?_) (by simp only [List.getElem?_toArray, List.getElem?_cons_succ, List.getElem?_cons_zero]; rfl) (by kernel_rfl) (by exact fun _ _ _ h => h) (by first | assumption | exact KB.refl _) (.inl ⟨by rfl, fun W hW => ?_⟩) ?_; rotate_left
        · (go_simp; first | done | with_reducible rfl)
        try simp only [Act.put, List.setIfInBounds_toArray, List.set_cons_zero, List.set_cons_succ]
        refine btake 5 (oi := _) (v := ?_) (by simp only [List.getElem?_toArray, List.getElem?_cons_succ, List.getElem?_cons_zero]; rfl) (by kernel_rfl) (by exact fun _ _ _ h => h) (by first | assumption | exact KB.refl _) (.inl ⟨by rfl, fun W hW => ?_⟩) ?_; rotate_left
        · (go_simp; first | done | with_reducible rfl)
        try simp only [Act.put, List.setIfInBounds_toArray, List.set_cons_zero, List.set_cons_succ]
        refine btake 6 (oi := _) (v := ?_) (by simp only [List.getElem?_toArray, List.getElem?_cons_succ, List.getElem?_cons_zero]; rfl) (by kernel_rfl) (by exact fun _ _ _ h => h) (by first | assumption | exact KB.refl _) (.inl ⟨by rfl, fun W hW => ?_⟩) ?_; rotate_left
        · (go_simp; first | done | with_reducible rfl)
        try simp only [Act.put, List.setIfInBounds_toArray, List.set_cons_zero, List.set_cons_succ]
        refine btake 7 (oi := _) (v := ?_) (by simp only [List.getElem?_toArray, List.getElem?_cons_succ, List.getElem?_cons_zero]; rfl) (by kernel_rfl) (by exact fun _ _ _ h => h) (by first | assumption | exact KB.refl _) (.inl ⟨by rfl, fun W hW => ?_⟩) ?_; rotate_left
        · (go_simp; first | done | with_reducible rfl)
        try simp only [Act.put, List.setIfInBounds_toArray, List.set_cons_zero, List.set_cons_succ]
        refine btake 8 (oi := _) (v := ?_) (by simp only [List.getElem?_toArray, List.getElem?_cons_succ, List.getElem?_cons_zero]; rfl) (by kernel_rfl) (by exact fun _ _ _ h => h) (by first | assumption | exact KB.refl _) (.inl ⟨by rfl, fun W hW => ?_⟩) ?_; rotate_left
        · (go_simp; first | done | with_reducible rfl)
        try simp only [Act.put, List.setIfInBounds_toArray, List.set_cons_zero, List.set_cons_succ]
        refine btake 9 (oi := _) (v := ?_) (by simp only [List.getElem?_toArray, List.getElem?_cons_succ, List.getElem?_cons_zero]; rfl) (by kernel_rfl) (by exact fun _ _ _ h => h) (by first | assumption | exact KB.refl _) (.inl ⟨by rfl, fun W hW => ?_⟩) ?_; rotate_left
        · (go_simp; first | done | with_reducible rfl)
        try simp only [Act.put, List.setIfInBounds_toArray, List.set_cons_zero, List.set_cons_succ]
        refine btake 10 (oi := _) (v := ?_) (by simp only [List.getElem?_toArray, List.getElem?_cons_succ, List.getElem?_cons_zero]; rfl) (by kernel_rfl) (by exact fun _ _ _ h => h) (by first | assumption | exact KB.refl _) (.inl ⟨by rfl, fun W hW => ?_⟩) ?_; rotate_left
        · (go_simp; first | done | with_reducible rfl)
        try simp only [Act.put, List.setIfInBounds_toArray, List.set_cons_zero, List.set_cons_succ]
        refine btake 11 (oi := _) (v := ?_) (by simp only [List.getElem?_toArray, List.getElem?_cons_succ, List.getElem?_cons_zero]; rfl) (by kernel_rfl) (by exact fun _ _ _ h => h) (by first | assumption | exact KB.refl _) (.inl ⟨by rfl, fun W hW => ?_⟩) ?_; rotate_left
        · (go_simp; first | done | with_reducible rfl)
        try simp only [Act.put, List.setIfInBounds_toArray, List.set_cons_zero, List.set_cons_succ]
        refine btake 12 (oi := _) (v := undef) (by simp only [List.getElem?_toArray, List.getElem?_cons_succ, List.getElem?_cons_zero]; rfl) (by kernel_rfl) (by exact fun _ _ _ h => h) (by first | assumption | exact KB.refl _) (.inr ⟨by rfl, rfl⟩) ?_
        try simp only [Act.put, List.setIfInBounds_toArray, List.set_cons_zero, List.set_cons_succ]
        refine btake 13 (oi := _) (v := undef) (by simp only [List.getElem?_toArray, List.getElem?_cons_succ, List.getElem?_cons_zero]; rfl) (by kernel_rfl) (by exact fun _ _ _ h => h) (by first | assumption | exact KB.refl _) (.inr ⟨by rfl, rfl⟩) ?_
        try simp only [Act.put, List.setIfInBounds_toArray, List.set_cons_zero, List.set_cons_succ]
        refine btake 14 (oi := _) (v := undef) (by simp only [List.getElem?_toArray, List.getElem?_cons_succ, List.getElem?_cons_zero]; rfl) (by kernel_rfl) (by exact fun _ _ _ h => h) (by first | assumption | exact KB.refl _) (.inr ⟨by rfl, rfl⟩) ?_
        try simp only [Act.put, List.setIfInBounds_toArray, List.set_cons_zero, List.set_cons_succ]
        refine btake 15 (oi := _) (v := undef) (by simp only [List.getElem?_toArray, List.getElem?_cons_succ, List.getElem?_cons_zero]; rfl) (by kernel_rfl) (by exact fun _ _ _ h => h) (by first | assumption | exact KB.refl _) (.inr ⟨by rfl, rfl⟩) ?_
        try simp only [Act.put, List.setIfInBounds_toArray, List.set_cons_zero, List.set_cons_succ]
        refine btake 16 (oi := _) (v := undef) (by simp only [List.getElem?_toArray, List.getElem?_cons_succ, List.getElem?_cons_zero]; rfl) (by kernel_rfl) (by exact fun _ _ _ h => h) (by first | assumption | exact KB.refl _) (.inr ⟨by rfl, rfl⟩) ?_
        try simp only [Act.put, List.setIfInBounds_toArray, List.set_cons_zero, List.set_cons_succ]
        refine btake 17 (oi := _) (v := undef) (by simp only [List.getElem?_toArray, List.getElem?_cons_succ, List.getElem?_cons_zero]; rfl) (by kernel_rfl) (by exact fun _ _ _ h => h) (by first | assumption | exact KB.refl _) (.inr ⟨by rfl, rfl⟩) ?_
        try simp only [Act.put, List.setIfInBounds_toArray, List.set_cons_zero, List.set_cons_succ]
        refine btake 18 (oi := _) (v := undef) (by simp only [List.getElem?_toArray, List.getElem?_cons_succ, List.getElem?_cons_zero]; rfl) (by kernel_rfl) (by exact fun _ _ _ h => h) (by first | assumption | exact KB.refl _) (.inr ⟨by rfl, rfl⟩) ?_
        try simp only [Act.put, List.setIfInBounds_toArray, List.set_cons_zero, List.set_cons_succ]
        refine btake 19 (oi := _) (v := undef) (by simp only [List.getElem?_toArray, List.getElem?_cons_succ, List.getElem?_cons_zero]; rfl) (by kernel_rfl) (by exact fun _ _ _ h => h) (by first | assumption | exact KB.refl _) (.inr ⟨by rfl, rfl⟩) ?_
        try simp only [Act.put, List.setIfInBounds_toArray, List.set_cons_zero, List.set_cons_succ]
        refine btake 20 (oi := _) (v := undef) (by simp only [List.getElem?_toArray, List.getElem?_cons_succ, List.getElem?_cons_zero]; rfl) (by kernel_rfl) (by exact fun _ _ _ h => h) (by first | assumption | exact KB.refl _) (.inr ⟨by rfl, rfl⟩) ?_
        try simp only [Act.put, List.setIfInBounds_toArray, List.set_cons_zero, List.set_cons_succ]
        refine btake 21 (oi := _) (v := undef) (by simp only [List.getElem?_toArray, List.getElem?_cons_succ, List.getElem?_cons_zero]; rfl) (by kernel_rfl) (by exact fun _ _ _ h => h) (by first | assumption | exact KB.refl _) (.inr ⟨by rfl, rfl⟩) ?_
        try simp only [Act.put, List.setIfInBounds_toArray, List.set_cons_zero, List.set_cons_succ]
        refine btake 22 (oi := _) (v := undef) (by simp only [List.getElem?_toArray, List.getElem?_cons_succ, List.getElem?_cons_zero]; rfl) (by kernel_rfl) (by exact fun _ _ _ h => h) (by first | assumption | exact KB.refl _) (.inr ⟨by rfl, rfl⟩) ?_
        try simp only [Act.put, List.setIfInBounds_toArray, List.set_cons_zero, List.set_cons_succ]
        refine btake 23 (oi := _) (v := ?_) (by simp only [List.getElem?_toArray, List.getElem?_cons_succ, List.getElem?_cons_zero]; rfl) (by kernel_rfl) (by exact fun _ _ _ h => h) (by first | assumption | exact KB.refl _) (.inl ⟨by rfl, fun W hW => ?_⟩) ?_; rotate_left
        · (go_simp; first | done | with_reducible rfl)
        try simp only [Act.put, List.setIfInBounds_toArray, List.set_cons_zero, List.set_cons_succ]
        refine btake 24 (oi := _) (v := ?_) (by simp only [List.getElem?_toArray, List.getElem?_cons_succ, List.getElem?_cons_zero]; rfl) (by kernel_rfl) (by exact fun _ _ _ h => h) (by first | assumption | exact KB.refl _) (.inl ⟨by rfl, fun W hW => ?_⟩) ?_; rotate_left
        · (go_simp; first | done | with_reducible rfl)
        try simp only [Act.put, List.setIfInBounds_toArray, List.set_cons_zero, List.set_cons_succ]
        refine bdone (by kernel_rfl) ?_
        go_wp2_with fail
        go_roundw
        case rel => exact ⟨j + 1, hlt, by go_num, b6.drew⟩
        case measure => simp [intOf]; omega
    · go_wp2_with fail
      go_ret
      exact ⟨rfl, bstep hbw3 hbel⟩
end Go.Proofs.Ythpooogjlmaemaa

