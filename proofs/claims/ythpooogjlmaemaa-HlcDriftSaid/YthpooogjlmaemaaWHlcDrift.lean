/- 'HlcDrift': the walk of the law. -/
import Derived.Test.YthpooogjlmaemaaHlcF
import Derived.Test.YthpooogjlmaemaaStampM
import Derived.Test.YthpooogjlmaemaaStampF
namespace Go.Proofs.Ythpooogjlmaemaa
open Go.RowKit

theorem i64_and6 (n : Int) : bits .and .i64 n 63 = n % 64 := by
  have h127 : (BitVec.ofInt 64 63).toNat = 2 ^ 6 - 1 := by decide
  have key : (BitVec.ofInt 64 n &&& BitVec.ofInt 64 63).toNat = (n % ((2 ^ 64 : Nat) : Int)).toNat % 2 ^ 6 := by
    rw [BitVec.toNat_and, BitVec.toNat_ofInt, h127, Nat.and_two_pow_sub_one_eq_mod]
  show IntKind.i64.wrap ((BitVec.ofInt 64 n &&& BitVec.ofInt 64 63).toNat : Nat) = n % 64
  rw [key, IntKind.wrap_i64]
  omega
theorem i64_and16 (n : Int) : bits .and .i64 n 65535 = n % 65536 := by
  have h127 : (BitVec.ofInt 64 65535).toNat = 2 ^ 16 - 1 := by decide
  have key : (BitVec.ofInt 64 n &&& BitVec.ofInt 64 65535).toNat = (n % ((2 ^ 64 : Nat) : Int)).toNat % 2 ^ 16 := by
    rw [BitVec.toNat_and, BitVec.toNat_ofInt, h127, Nat.and_two_pow_sub_one_eq_mod]
  show IntKind.i64.wrap ((BitVec.ofInt 64 n &&& BitVec.ofInt 64 65535).toNat : Nat) = n % 65536
  rw [key, IntKind.wrap_i64]
  omega
theorem i64_and24 (n : Int) : bits .and .i64 n 16777215 = n % 16777216 := by
  have h127 : (BitVec.ofInt 64 16777215).toNat = 2 ^ 24 - 1 := by decide
  have key : (BitVec.ofInt 64 n &&& BitVec.ofInt 64 16777215).toNat = (n % ((2 ^ 64 : Nat) : Int)).toNat % 2 ^ 24 := by
    rw [BitVec.toNat_and, BitVec.toNat_ofInt, h127, Nat.and_two_pow_sub_one_eq_mod]
  show IntKind.i64.wrap ((BitVec.ofInt 64 n &&& BitVec.ofInt 64 16777215).toNat : Nat) = n % 16777216
  rw [key, IntKind.wrap_i64]
  omega
set_option maxRecDepth 100000 in
set_option maxHeartbeats 12800000 in
theorem HlcDrift_walk (w : World) (drift : Int) (hdr : -9223372036854775808 ≤ drift ∧ drift ≤ 9223372036854775807) (now : Int) (hno : -9223372036854775808 ≤ now ∧ now ≤ 9223372036854775807) (s : S3) (hs : s.ok) (k : Nat) (hk : k < 256) :
    Calls Try.prog 8 #[.int .i64 drift, .int .i64 now, s.v, .int .u8 (k : Int)] w fun e w' => e = .returned (.bool true) ∧ Below w.heap.size w w' := by
  have k64 : (k : Int) % 64 = ((k % 64 : Nat) : Int) := by omega
  have ka : k % 64 < 64 := by omega
  generalize k % 64 = R at *
  obtain ⟨D, hD, hD0, hD1⟩ : ∃ D : Int, bits .and .i64 drift 65535 = D ∧ 0 ≤ D ∧ D ≤ 65535 := ⟨_, i64_and16 drift, by omega, by omega⟩
  obtain ⟨N, hN, hN0, hN1⟩ : ∃ N : Int, bits .and .i64 now 16777215 = N ∧ 0 ≤ N ∧ N ≤ 16777215 := ⟨_, i64_and24 now, by omega, by omega⟩
  obtain ⟨SL, hSL, hSL0, hSL1⟩ : ∃ L : Int, bits .and .i64 s.l 65535 = L ∧ 0 ≤ L ∧ L ≤ 65535 := ⟨_, i64_and16 s.l, by omega, by omega⟩
  obtain ⟨SR, hSR, hSR0, hSR1⟩ : ∃ L : Int, bits .and .i64 s.r 63 = L ∧ 0 ≤ L ∧ L ≤ 63 := ⟨_, i64_and6 s.r, by omega, by omega⟩
  have htN : timedB N = true := by simp [timedB]; omega
  have htN1 : timedB (N + 1) = true := by simp [timedB]; omega
  have hrF : S3.right ⟨N + D + 1, 0, SR⟩ = true := by simp [S3.right]; omega
  have hrE : S3.right ⟨N + D, SL, SR⟩ = true := by simp [S3.right]; omega
  obtain ⟨c0, hc0⟩ : ∃ c0 : Clk, c0 = ⟨⟨0, 0, (R : Int)⟩, 0, D⟩ := ⟨_, rfl⟩
  have ok0 : c0.ok := by rw [hc0]; simp [Clk.ok]; omega
  have hnew := fun W => New_ok W (R : Int) 0 D (by omega) (by omega) (by simp [timedB]; omega)
  have ck1 : checkS c0 N ⟨N + D + 1, 0, SR⟩ = 28 := by unfold checkS; rw [if_pos htN, if_pos hrF, hc0, if_pos (by simp only; omega)]
  have ck2 : checkS c0 N ⟨N + D, SL, SR⟩ = 0 := by unfold checkS; rw [if_pos htN, if_pos hrE, hc0, if_neg (by simp only; omega)]
  have wt1 : witC c0 N ⟨N + D + 1, 0, SR⟩ = c0 := by unfold witC; rw [ck1]; rfl
  obtain ⟨c1, hc1⟩ : ∃ c1, witC c0 N ⟨N + D, SL, SR⟩ = c1 := ⟨_, rfl⟩
  have ok1 : c1.ok := by rw [← hc1]; exact witC_ok ok0 _ _
  have hw1 := fun W g h => Witness_any W g c0 N ⟨N + D + 1, 0, SR⟩ h ok0
  rw [ck1, wt1] at hw1
  have hck := fun W g h => Check_any W g c0 N ⟨N + D, SL, SR⟩ h ok0
  rw [ck2] at hck
  have hw2 := fun W g h => Witness_any W g c0 N ⟨N + D, SL, SR⟩ h ok0
  rw [ck2, hc1] at hw2
  have hl0 := fun W g h => Last_any W g c0 h
  have h0v : c0.s = ⟨0, 0, (R : Int)⟩ := by rw [hc0]
  rw [h0v] at hl0
  have hc1v : N + D ≠ 0 → c1 = ⟨⟨N + D, SL, (R : Int)⟩, 0, D⟩ := by
    intro hne
    rw [← hc1]
    unfold witC
    rw [ck2, if_pos rfl, hc0]
    simp only
    rw [if_pos (by unfold S3.lt; rw [decide_eq_true_eq]; simp only; omega)]
  have pk1 : N + D ≠ 0 → peekS c1 N = (⟨0, 0, 0⟩, 28) := by
    intro hne
    rw [hc1v hne]
    unfold peekS stepS endS
    simp only
    rw [if_pos htN, if_neg (by omega), if_neg (by omega), if_pos (by omega)]
    simp only
    rw [if_pos (by omega)]
  have pk2 : N + D ≠ 0 → peekS c1 (N + 1) = (⟨N + D + 1, 0, (R : Int)⟩, 0) := by
    intro hne
    rw [hc1v hne]
    unfold peekS stepS endS
    simp only
    rw [if_pos htN1]
    by_cases hD0' : D = 0
    · rw [if_pos (by omega)]
      simp only
      rw [if_neg (by omega)]
      simp only [Prod.mk.injEq, S3.mk.injEq, and_true]
      omega
    · rw [if_neg (by omega), if_neg (by omega), if_pos (by omega)]
      simp only
      rw [if_neg (by omega)]
  have hmx : N + D ≠ 0 → mxS [⟨N + D + 1, 0, (R : Int)⟩, c1.s] = ⟨N + D + 1, 0, (R : Int)⟩ := by
    intro hne
    rw [hc1v hne]
    have hl : S3.lt ⟨N + D + 1, 0, (R : Int)⟩ ⟨N + D, SL, (R : Int)⟩ = false := by unfold S3.lt; rw [decide_eq_false_iff_not]; simp only; omega
    simp [mxS, mxF, hl]
  have hk1 : IntKind.i64.wrap (N + D) = N + D := by rw [IntKind.wrap_i64]; omega
  have hNN : N + D ≠ 0 → peekS c1 N = (⟨0, 0, 0⟩, 28) := pk1
  have hnx1 : N + D ≠ 0 → nextC c1 N = c1 := fun h => by unfold nextC; rw [pk1 h]; rfl
  have hnextA := fun W g h => Next_any W g c1 N h ok1
  have hnextB := fun W g h => Next_any W g c1 (N + 1) h ok1
  have hsP : N + D = 0 ∨ N + D ≠ 0 := by omega
  have hrm := fun W A (h : Sl W W.heap.size A (sv [⟨N + D + 1, 0, (R : Int)⟩, c1.s])) => RefMax_any W A 2 2 _ h rfl (by omega)
  have H := Lib.hid (And.intro hw1 (And.intro hck (And.intro hw2 (And.intro hl0 hnew))))
  have G := Lib.hid (And.intro pk1 (And.intro pk2 (And.intro hmx (And.intro hnx1 (And.intro hnextA (And.intro hnextB hrm))))))
  have HC1 := Lib.hid hc1v
  have HC0 := Lib.hid hc0
  clear hw1 hck hw2 hl0 hnew pk1 pk2 hmx hnx1 hnextA hnextB hrm hc1v hc0 h0v hNN wt1 ck1 ck2 hc1 htN htN1 hrF hrE
  unfold S3.v
  go_enter Try.func8, Try.ntmps8
  go_wp2_with fail
  have vp := Stands.new w 23 s
  have b0 := balloc (Below.refl w.heap.size w) (.cells #[.int .i64 s.p, .int .i64 s.l, .int .i64 s.r] 23)
  generalize w.alloc (.cells #[.int .i64 s.p, .int .i64 s.l, .int .i64 s.r] 23) = w0 at *
  refine (hlcKnown_any w0).mono ?_
  rintro e w1 ⟨rfl, hb1⟩
  have b1 := bstep b0 hb1
  replace vp := vp.below hb1
  clear b0
  go_wp2_with fail
  refine (H.out.2.2.2.2 w1).mono ?_
  rintro e w2 ⟨g, rfl, hg, hst2, hb2⟩
  rw [← HC0.out] at hst2
  have b2 := bstep b1 hb2
  have hgw : w.heap.size ≤ g := Nat.le_trans b1.size hg
  have hgv : w.heap.size ≠ g := by have := vp.1; omega
  replace vp := vp.below hb2
  clear hb2 hg hb1
  obtain ⟨_, f0, f1, f2, _, _, _⟩ := id vp
  go_wp2_with fail
  have hgl := hst2.1.1
  have ve := Stands.new (w2.alloc (.cells #[.int .i64 (N + D + 1), .int .i64 0, .int .i64 SR] 23)) 23 ⟨N + D, SL, SR⟩
  simp only [World.size_alloc] at ve
  replace hst2 := (hst2.alloc (.cells #[.int .i64 (N + D + 1), .int .i64 0, .int .i64 SR] 23)).alloc (.cells #[.int .i64 (N + D), .int .i64 SL, .int .i64 SR] 23)
  have b3 := (b2.alloc b2.size (.cells #[.int .i64 (N + D + 1), .int .i64 0, .int .i64 SR] 23)).alloc (by simpa using Nat.le_succ_of_le b2.size) (.cells #[.int .i64 (N + D), .int .i64 SL, .int .i64 SR] 23)
  generalize (w2.alloc (.cells #[.int .i64 (N + D + 1), .int .i64 0, .int .i64 SR] 23)).alloc (.cells #[.int .i64 (N + D), .int .i64 SL, .int .i64 SR] 23) = w3 at *
  have hge : w2.heap.size + 1 ≠ g := by omega
  generalize w2.heap.size + 1 = ge at *
  clear f0 f1 f2 vp b2
  refine (H.out.1 w3 g hst2).mono ?_
  rintro e w4 ⟨rfl, hst4, hg4⟩
  replace ve := ve.grown hg4 hge
  have b4 := below_grown b3 hg4 hgw b3.size
  clear hst2 b3 hg4
  go_wp2_with fail
  refine (H.out.2.2.2.1 w4 g hst4).mono ?_
  rintro e w5 ⟨rfl, hb5⟩
  replace ve := ve.below hb5
  have hst5 := hst4.below hb5
  have b5 := b4.trans (hb5.mono b4.size)
  clear hst4 b4 hb5
  obtain ⟨_, f0, f1, f2, _, _, _⟩ := id ve
  simp only at f0 f1 f2
  unfold S3.v
  go_wp2_with fail
  refine (H.out.2.1 w5 g hst5).mono ?_
  rintro e w6 ⟨rfl, hb6⟩
  replace ve := ve.below hb6
  have hst6 := hst5.below hb6
  have b6 := b5.trans (hb6.mono b5.size)
  clear hst5 b5 hb6 f0 f1 f2
  go_wp2_with fail
  refine (H.out.2.2.2.1 w6 g hst6).mono ?_
  rintro e w7 ⟨rfl, hb7⟩
  replace ve := ve.below hb7
  have hst7 := hst6.below hb7
  have b7 := b6.trans (hb7.mono b6.size)
  clear hst6 b6 hb7
  obtain ⟨_, f0, f1, f2, _, _, _⟩ := id ve
  simp only at f0 f1 f2
  unfold S3.v
  go_wp2_with fail
  refine (H.out.2.2.1 w7 g hst7).mono ?_
  rintro e w8 ⟨rfl, hst8, hg8⟩
  replace ve := ve.grown hg8 hge
  have b8 := below_grown b7 hg8 hgw b7.size
  clear hst7 b7 hg8 f0 f1 f2
  go_wp2_with fail
  refine (Last_any w8 g c1 hst8).mono ?_
  rintro e w9 ⟨rfl, hb9⟩
  replace ve := ve.below hb9
  have hst9 := hst8.below hb9
  have b9 := b8.trans (hb9.mono b8.size)
  have vw := Stands.new w9 23 c1.s
  replace ve := ve.alloc (.cells #[.int .i64 c1.s.p, .int .i64 c1.s.l, .int .i64 c1.s.r] 23)
  replace hst9 := hst9.alloc (.cells #[.int .i64 c1.s.p, .int .i64 c1.s.l, .int .i64 c1.s.r] 23)
  replace b9 := b9.alloc b9.size (.cells #[.int .i64 c1.s.p, .int .i64 c1.s.l, .int .i64 c1.s.r] 23)
  have hgwas : w9.heap.size ≠ g := by have := hst8.1.1; have := hb9.size; omega
  clear hst8 b8 hb9
  obtain ⟨_, f0, f1, f2, _, _, _⟩ := id ve
  simp only at f0 f1 f2
  unfold S3.v
  rcases hsP with hz | hz
  · have hzb : (N + D == 0) = true := by simp [hz]
    go_wp2_with fail
    go_ret
    exact ⟨rfl, b9⟩
  · have hzb : (N + D == 0) = false := by simpa using hz
    go_wp2_with fail
    generalize w9.alloc (.cells #[.int .i64 c1.s.p, .int .i64 c1.s.l, .int .i64 c1.s.r] 23) = w10 at *
    generalize w9.heap.size = gw at *
    clear f0 f1 f2 ve
    have hA := G.out.2.2.2.2.1 w10 g hst9
    rw [G.out.1 hz, G.out.2.2.2.1 hz] at hA
    refine hA.mono ?_
    clear hA
    rintro e w11 ⟨rfl, hst11, hg11⟩
    replace vw := vw.grown hg11 hgwas
    have b11 := below_grown b9 hg11 hgw b9.size
    have vx := Stands.new w11 23 ⟨0, 0, 0⟩
    have hgx : w11.heap.size ≠ g := by have := hst11.1.1; omega
    replace vw := vw.alloc (.cells #[.int .i64 0, .int .i64 0, .int .i64 0] 23)
    replace hst11 := hst11.alloc (.cells #[.int .i64 0, .int .i64 0, .int .i64 0] 23)
    replace b11 := b11.alloc b11.size (.cells #[.int .i64 0, .int .i64 0, .int .i64 0] 23)
    clear hst9 b9 hg11
    unfold S3.v
    go_wp2_with fail
    generalize w11.alloc (.cells #[.int .i64 0, .int .i64 0, .int .i64 0] 23) = w12 at *
    generalize w11.heap.size = gx at *
    have hBn := G.out.2.2.2.2.2.1 w12 g hst11
    rw [G.out.2.1 hz] at hBn
    refine hBn.mono ?_
    clear hBn
    rintro e w13 ⟨rfl, hst13, hg13⟩
    replace vw := vw.grown hg13 hgwas
    replace vx := vx.grown hg13 hgx
    have b13 := below_grown b11 hg13 hgw b11.size
    have vy := Stands.new w13 23 ⟨N + D + 1, 0, (R : Int)⟩
    replace vw := vw.alloc (.cells #[.int .i64 (N + D + 1), .int .i64 0, .int .i64 (R : Int)] 23)
    replace vx := vx.alloc (.cells #[.int .i64 (N + D + 1), .int .i64 0, .int .i64 (R : Int)] 23)
    replace b13 := b13.alloc b13.size (.cells #[.int .i64 (N + D + 1), .int .i64 0, .int .i64 (R : Int)] 23)
    clear hst11 b11 hg13 hst13
    unfold S3.v
    go_wp2_with fail
    generalize w13.alloc (.cells #[.int .i64 (N + D + 1), .int .i64 0, .int .i64 (R : Int)] 23) = w14 at *
    generalize w13.heap.size = gy at *
    have e0 := cellB vw.2.1
    have e1 := cellB vw.2.2.1
    have e2 := cellB vw.2.2.2.1
    have e3 := cellB vx.2.1
    have e4 := cellB vx.2.2.1
    have e5 := cellB vx.2.2.2.1
    have e6 := cellB vy.2.1
    have e7 := cellB vy.2.2.1
    have e8 := cellB vy.2.2.2.1
    simp only at e3 e4 e5 e6 e7 e8
    have hS0 : KB w14.heap w14.drew := KB.refl w14
    refine bstartH (w14.heap) (by kernel_rfl) ?_
    refine btake 0 (oi := _) (v := ?_) (by simp only [List.getElem?_toArray, List.getElem?_cons_succ, List.getElem?_cons_zero]; rfl) (by kernel_rfl) (by exact fun _ _ _ h => h) (by first | assumption | exact KB.refl _) (.inl ⟨by rfl, fun W hW => ?_⟩) ?_; rotate_left
    · (go_simp; first | done | with_reducible rfl)
    try simp only [Act.put, List.setIfInBounds_toArray, List.set_cons_zero, List.set_cons_succ]
    refine btake 1 (oi := _) (v := ?_) (by simp only [List.getElem?_toArray, List.getElem?_cons_succ, List.getElem?_cons_zero]; rfl) (by kernel_rfl) (by exact fun _ _ _ h => h) (by first | assumption | exact KB.refl _) (.inl ⟨by rfl, fun W hW => ?_⟩) ?_; rotate_left
    · (go_simp; first | done | with_reducible rfl)
    try simp only [Act.put, List.setIfInBounds_toArray, List.set_cons_zero, List.set_cons_succ]
    refine btake 2 (oi := _) (v := ?_) (by simp only [List.getElem?_toArray, List.getElem?_cons_succ, List.getElem?_cons_zero]; rfl) (by kernel_rfl) (by exact fun _ _ _ h => h) (by first | assumption | exact KB.refl _) (.inl ⟨by rfl, fun W hW => ?_⟩) ?_; rotate_left
    · (go_simp; first | done | with_reducible rfl)
    try simp only [Act.put, List.setIfInBounds_toArray, List.set_cons_zero, List.set_cons_succ]
    refine btake 3 (oi := _) (v := ?_) (by simp only [List.getElem?_toArray, List.getElem?_cons_succ, List.getElem?_cons_zero]; rfl) (by kernel_rfl) (by exact fun _ _ _ h => h) (by first | assumption | exact KB.refl _) (.inl ⟨by rfl, fun W hW => ?_⟩) ?_; rotate_left
    · (go_simp; first | done | with_reducible rfl)
    try simp only [Act.put, List.setIfInBounds_toArray, List.set_cons_zero, List.set_cons_succ]
    refine btake 4 (oi := _) (v := ?_) (by simp only [List.getElem?_toArray, List.getElem?_cons_succ, List.getElem?_cons_zero]; rfl) (by kernel_rfl) (by exact fun _ _ _ h => h) (by first | assumption | exact KB.refl _) (.inl ⟨by rfl, fun W hW => ?_⟩) ?_; rotate_left
    · (go_simp; first | done | with_reducible rfl)
    try simp only [Act.put, List.setIfInBounds_toArray, List.set_cons_zero, List.set_cons_succ]
    refine btake 5 (oi := _) (v := ?_) (by simp only [List.getElem?_toArray, List.getElem?_cons_succ, List.getElem?_cons_zero]; rfl) (by kernel_rfl) (by exact fun _ _ _ h => h) (by first | assumption | exact KB.refl _) (.inl ⟨by rfl, fun W hW => ?_⟩) ?_; rotate_left
    · (go_simp; first | done | with_reducible rfl)
    try simp only [Act.put, List.setIfInBounds_toArray, List.set_cons_zero, List.set_cons_succ]
    refine btake 6 (oi := _) (v := ?_) (by simp only [List.getElem?_toArray, List.getElem?_cons_succ, List.getElem?_cons_zero]; rfl) (by kernel_rfl) (by exact fun _ _ _ h => h) (by first | assumption | exact KB.refl _) (.inl ⟨by rfl, fun W hW => ?_⟩) ?_; rotate_left
    · (go_simp; first | done | with_reducible rfl)
    try simp only [Act.put, List.setIfInBounds_toArray, List.set_cons_zero, List.set_cons_succ]
    refine btake 7 (oi := _) (v := ?_) (by simp only [List.getElem?_toArray, List.getElem?_cons_succ, List.getElem?_cons_zero]; rfl) (by kernel_rfl) (by exact fun _ _ _ h => h) (by first | assumption | exact KB.refl _) (.inl ⟨by rfl, fun W hW => ?_⟩) ?_; rotate_left
    · (go_simp; first | done | with_reducible rfl)
    try simp only [Act.put, List.setIfInBounds_toArray, List.set_cons_zero, List.set_cons_succ]
    refine btake 8 (oi := _) (v := ?_) (by simp only [List.getElem?_toArray, List.getElem?_cons_succ, List.getElem?_cons_zero]; rfl) (by kernel_rfl) (by exact fun _ _ _ h => h) (by first | assumption | exact KB.refl _) (.inl ⟨by rfl, fun W hW => ?_⟩) ?_; rotate_left
    · (go_simp; first | done | with_reducible rfl)
    try simp only [Act.put, List.setIfInBounds_toArray, List.set_cons_zero, List.set_cons_succ]
    refine btake 9 (oi := _) (v := ?_) (by simp only [List.getElem?_toArray, List.getElem?_cons_succ, List.getElem?_cons_zero]; rfl) (by kernel_rfl) (by exact fun _ _ _ h => h) (by first | assumption | exact KB.refl _) (.inl ⟨by rfl, fun W hW => ?_⟩) ?_; rotate_left
    · (go_simp; first | done | with_reducible rfl)
    try simp only [Act.put, List.setIfInBounds_toArray, List.set_cons_zero, List.set_cons_succ]
    refine btake 10 (oi := _) (v := ?_) (by simp only [List.getElem?_toArray, List.getElem?_cons_succ, List.getElem?_cons_zero]; rfl) (by kernel_rfl) (by exact fun _ _ _ h => h) (by first | assumption | exact KB.refl _) (.inl ⟨by rfl, fun W hW => ?_⟩) ?_; rotate_left
    · (go_simp; first | done | with_reducible rfl)
    try simp only [Act.put, List.setIfInBounds_toArray, List.set_cons_zero, List.set_cons_succ]
    refine btake 11 (oi := _) (v := ?_) (by simp only [List.getElem?_toArray, List.getElem?_cons_succ, List.getElem?_cons_zero]; rfl) (by kernel_rfl) (by exact fun _ _ _ h => h) (by first | assumption | exact KB.refl _) (.inl ⟨by rfl, fun W hW => ?_⟩) ?_; rotate_left
    · (go_simp; first | done | with_reducible rfl)
    try simp only [Act.put, List.setIfInBounds_toArray, List.set_cons_zero, List.set_cons_succ]
    refine btake 12 (oi := _) (v := ?_) (by simp only [List.getElem?_toArray, List.getElem?_cons_succ, List.getElem?_cons_zero]; rfl) (by kernel_rfl) (by exact fun _ _ _ h => h) (by first | assumption | exact KB.refl _) (.inl ⟨by rfl, fun W hW => ?_⟩) ?_; rotate_left
    · (go_simp; first | done | with_reducible rfl)
    try simp only [Act.put, List.setIfInBounds_toArray, List.set_cons_zero, List.set_cons_succ]
    refine btake 13 (oi := _) (v := ?_) (by simp only [List.getElem?_toArray, List.getElem?_cons_succ, List.getElem?_cons_zero]; rfl) (by kernel_rfl) (by exact fun _ _ _ h => h) (by first | assumption | exact KB.refl _) (.inl ⟨by rfl, fun W hW => ?_⟩) ?_; rotate_left
    · (go_simp; first | done | with_reducible rfl)
    try simp only [Act.put, List.setIfInBounds_toArray, List.set_cons_zero, List.set_cons_succ]
    refine btake 14 (oi := _) (v := ?_) (by simp only [List.getElem?_toArray, List.getElem?_cons_succ, List.getElem?_cons_zero]; rfl) (by kernel_rfl) (by exact fun _ _ _ h => h) (by first | assumption | exact KB.refl _) (.inl ⟨by rfl, fun W hW => ?_⟩) ?_; rotate_left
    · (go_simp; first | done | with_reducible rfl)
    try simp only [Act.put, List.setIfInBounds_toArray, List.set_cons_zero, List.set_cons_succ]
    -- 15: Op.buildSlice 25 2 #[(0, Operand.tmp 120), (1, Operand.tmp 121)]
    refine bopH 15 (o := _) (by simp only [List.getElem?_toArray, List.getElem?_cons_succ, List.getElem?_cons_zero]; rfl) (by kernel_rfl) (by first | assumption | exact KB.refl _) (by rfl) (fun K hK => ?_)
    go_simp
    have hB15 := balloc ((Below.refl w14.heap.size w14).drew) (.cells #[.int .i64 (N + D + 1), .int .i64 0, .int .i64 (R : Int), .int .i64 c1.s.p, .int .i64 c1.s.l, .int .i64 c1.s.r] 23)
    have hkb := KB.of hB15
    refine hK.out _ _ hkb ?_; clear hK K
    try simp only [Act.put, List.setIfInBounds_toArray, List.set_cons_zero, List.set_cons_succ]
    -- 16: newsreel/newsreelref1.StampMax
    refine bopH 16 (o := _) (by simp only [List.getElem?_toArray, List.getElem?_cons_succ, List.getElem?_cons_zero]; rfl) (by kernel_rfl) (by first | assumption | exact KB.refl _) (by rfl) (fun K hK => ?_)
    go_simp
    have hmm := G.out.2.2.2.2.2.2 (w14.drew.alloc (.cells #[.int .i64 (N + D + 1), .int .i64 0, .int .i64 (R : Int), .int .i64 c1.s.p, .int .i64 c1.s.l, .int .i64 c1.s.r] 23)) (some ⟨w14.drew.heap.size, 0, none⟩) ((Sl.new w14.drew 23 #[.int .i64 (N + D + 1), .int .i64 0, .int .i64 (R : Int), .int .i64 c1.s.p, .int .i64 c1.s.l, .int .i64 c1.s.r] (0, 0)).more (by simp))
    rw [G.out.2.2.1 hz] at hmm
    refine hmm.mono ?_
    clear hmm
    rintro e w15 ⟨rfl, hb15⟩
    have hB := hB15.trans (hb15.mono hB15.size)
    have hkb := KB.of hB
    unfold S3.v
    refine hK.out _ _ hkb ?_; clear hK K
    try simp only [Act.put, List.setIfInBounds_toArray, List.set_cons_zero, List.set_cons_succ]
    refine btake 17 (oi := _) (v := ?_) (by simp only [List.getElem?_toArray, List.getElem?_cons_succ, List.getElem?_cons_zero]; rfl) (by kernel_rfl) (by exact fun _ _ _ h => h) (by first | assumption | exact KB.refl _) (.inl ⟨by rfl, fun W hW => ?_⟩) ?_; rotate_left
    · (go_simp; first | done | with_reducible rfl)
    try simp only [Act.put, List.setIfInBounds_toArray, List.set_cons_zero, List.set_cons_succ]
    refine btake 18 (oi := _) (v := ?_) (by simp only [List.getElem?_toArray, List.getElem?_cons_succ, List.getElem?_cons_zero]; rfl) (by kernel_rfl) (by exact fun _ _ _ h => h) (by first | assumption | exact KB.refl _) (.inl ⟨by rfl, fun W hW => ?_⟩) ?_; rotate_left
    · (go_simp; first | done | with_reducible rfl)
    try simp only [Act.put, List.setIfInBounds_toArray, List.set_cons_zero, List.set_cons_succ]
    refine btake 19 (oi := _) (v := ?_) (by simp only [List.getElem?_toArray, List.getElem?_cons_succ, List.getElem?_cons_zero]; rfl) (by kernel_rfl) (by exact fun _ _ _ h => h) (by first | assumption | exact KB.refl _) (.inl ⟨by rfl, fun W hW => ?_⟩) ?_; rotate_left
    · (go_simp; first | done | with_reducible rfl)
    try simp only [Act.put, List.setIfInBounds_toArray, List.set_cons_zero, List.set_cons_succ]
    refine btake 20 (oi := _) (v := ?_) (by simp only [List.getElem?_toArray, List.getElem?_cons_succ, List.getElem?_cons_zero]; rfl) (by kernel_rfl) (by exact fun _ _ _ h => h) (by first | assumption | exact KB.refl _) (.inl ⟨by rfl, fun W hW => ?_⟩) ?_; rotate_left
    · (go_simp; first | done | with_reducible rfl)
    try simp only [Act.put, List.setIfInBounds_toArray, List.set_cons_zero, List.set_cons_succ]
    refine btake 21 (oi := _) (v := ?_) (by simp only [List.getElem?_toArray, List.getElem?_cons_succ, List.getElem?_cons_zero]; rfl) (by kernel_rfl) (by exact fun _ _ _ h => h) (by first | assumption | exact KB.refl _) (.inl ⟨by rfl, fun W hW => ?_⟩) ?_; rotate_left
    · (go_simp; first | done | with_reducible rfl)
    try simp only [Act.put, List.setIfInBounds_toArray, List.set_cons_zero, List.set_cons_succ]
    refine btake 22 (oi := _) (v := ?_) (by simp only [List.getElem?_toArray, List.getElem?_cons_succ, List.getElem?_cons_zero]; rfl) (by kernel_rfl) (by exact fun _ _ _ h => h) (by first | assumption | exact KB.refl _) (.inl ⟨by rfl, fun W hW => ?_⟩) ?_; rotate_left
    · (go_simp; first | done | with_reducible rfl)
    try simp only [Act.put, List.setIfInBounds_toArray, List.set_cons_zero, List.set_cons_succ]
    refine btake 23 (oi := _) (v := ?_) (by simp only [List.getElem?_toArray, List.getElem?_cons_succ, List.getElem?_cons_zero]; rfl) (by kernel_rfl) (by exact fun _ _ _ h => h) (by first | assumption | exact KB.refl _) (.inl ⟨by rfl, fun W hW => ?_⟩) ?_; rotate_left
    · (go_simp; first | done | with_reducible rfl)
    try simp only [Act.put, List.setIfInBounds_toArray, List.set_cons_zero, List.set_cons_succ]
    refine btake 24 (oi := _) (v := ?_) (by simp only [List.getElem?_toArray, List.getElem?_cons_succ, List.getElem?_cons_zero]; rfl) (by kernel_rfl) (by exact fun _ _ _ h => h) (by first | assumption | exact KB.refl _) (.inl ⟨by rfl, fun W hW => ?_⟩) ?_; rotate_left
    · (go_simp; first | done | with_reducible rfl)
    try simp only [Act.put, List.setIfInBounds_toArray, List.set_cons_zero, List.set_cons_succ]
    refine btake 25 (oi := _) (v := ?_) (by simp only [List.getElem?_toArray, List.getElem?_cons_succ, List.getElem?_cons_zero]; rfl) (by kernel_rfl) (by exact fun _ _ _ h => h) (by first | assumption | exact KB.refl _) (.inl ⟨by rfl, fun W hW => ?_⟩) ?_; rotate_left
    · (go_simp; first | done | with_reducible rfl)
    try simp only [Act.put, List.setIfInBounds_toArray, List.set_cons_zero, List.set_cons_succ]
    refine btake 26 (oi := _) (v := ?_) (by simp only [List.getElem?_toArray, List.getElem?_cons_succ, List.getElem?_cons_zero]; rfl) (by kernel_rfl) (by exact fun _ _ _ h => h) (by first | assumption | exact KB.refl _) (.inl ⟨by rfl, fun W hW => ?_⟩) ?_; rotate_left
    · (go_simp; first | done | with_reducible rfl)
    try simp only [Act.put, List.setIfInBounds_toArray, List.set_cons_zero, List.set_cons_succ]
    refine btake 27 (oi := _) (v := ?_) (by simp only [List.getElem?_toArray, List.getElem?_cons_succ, List.getElem?_cons_zero]; rfl) (by kernel_rfl) (by exact fun _ _ _ h => h) (by first | assumption | exact KB.refl _) (.inl ⟨by rfl, fun W hW => ?_⟩) ?_; rotate_left
    · (go_simp; first | done | with_reducible rfl)
    try simp only [Act.put, List.setIfInBounds_toArray, List.set_cons_zero, List.set_cons_succ]
    refine btake 28 (oi := _) (v := ?_) (by simp only [List.getElem?_toArray, List.getElem?_cons_succ, List.getElem?_cons_zero]; rfl) (by kernel_rfl) (by exact fun _ _ _ h => h) (by first | assumption | exact KB.refl _) (.inl ⟨by rfl, fun W hW => ?_⟩) ?_; rotate_left
    · (go_simp; first | done | with_reducible rfl)
    try simp only [Act.put, List.setIfInBounds_toArray, List.set_cons_zero, List.set_cons_succ]
    refine bdone (by kernel_rfl) ?_
    have bf := b13.trans (hB.mono b13.size)
    go_wp2_with fail
    go_ret
    exact ⟨ret_b (by rw [show IntKind.i64.wrap (N + D + 1) = N + D + 1 by rw [IntKind.wrap_i64]; omega]; simp), bf⟩
end Go.Proofs.Ythpooogjlmaemaa

