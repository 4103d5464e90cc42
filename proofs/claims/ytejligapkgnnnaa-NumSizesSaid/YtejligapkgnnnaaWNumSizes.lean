/- 'NumSizes': the walk of the law. -/
import Derived.Test.YtejligapkgnnnaaNumLaw
import Derived.Test.YtejligapkgnnnaaFrame
namespace Go.Proofs.Ytejligapkgnnnaa
open Go.RowKit Go.Proofs.Ytejligapkgnnnaa.Pl

theorem shr_pow (x n : Nat) : (x : Int) / 2 ^ (7 * n) = ((x / 128 ^ n : Nat) : Int) := by
  have h : (2 : Nat) ^ (7 * n) = (2 ^ 7) ^ n := Nat.pow_mul 2 7 n
  have h2 : (2 : Int) ^ (7 * n) = ((128 ^ n : Nat) : Int) := by
    rw [show (128 : Nat) = 2 ^ 7 by rfl, ← h]; exact (Int.natCast_pow 2 (7 * n)).symm
  rw [h2, Int.natCast_ediv]
theorem shl_pow (j : Nat) (hj : j < 9) : IntKind.u64.wrap (2 ^ (7 * j + 7)) = ((128 ^ (j + 1) : Nat) : Int) ∧ U64 (128 ^ (j + 1)) ∧ 128 ≤ 128 ^ (j + 1) := by
  unfold U64
  rcases (by omega : j = 0 ∨ j = 1 ∨ j = 2 ∨ j = 3 ∨ j = 4 ∨ j = 5 ∨ j = 6 ∨ j = 7 ∨ j = 8) with rfl | rfl | rfl | rfl | rfl | rfl | rfl | rfl | rfl
  all_goals exact ⟨rfl, by decide, by decide⟩
set_option maxRecDepth 100000 in
set_option maxHeartbeats 1600000 in
theorem NumSizes_walk (w : World) (a : Nat) (ha : U64 a) (b : Nat) (hb : U64 b) (k : Nat) (hk : k < 256) :
    Calls Try.prog 8 #[.int .u64 (a : Int), .int .u64 (b : Int), .int .u8 (k : Int)] w fun e w' => e = .returned (.bool true) ∧ Below w.heap.size w w' := by
  obtain ⟨x, y, hmin, hmax, hxy, hx, hy⟩ : ∃ x y : Nat, (∀ W, (Builtin.min_ #[38, 38] 38 #[.int .u64 (a : Int), .int .u64 (b : Int)]).run Try.prog W = .ok (.int .u64 (x : Int)) W) ∧
      (∀ W, (Builtin.max_ #[38, 38] 38 #[.int .u64 (a : Int), .int .u64 (b : Int)]).run Try.prog W = .ok (.int .u64 (y : Int)) W) ∧ x ≤ y ∧ U64 x ∧ U64 y := by
    by_cases h : b < a
    · exact ⟨b, a, fun W => by rw [run_min_int2, if_pos (by omega)], fun W => by rw [run_max_int2, if_neg (by omega)], by omega, hb, ha⟩
    · by_cases h2 : a = b
      · subst h2
        exact ⟨a, a, fun W => by rw [run_min_int2]; split <;> rfl, fun W => by rw [run_max_int2]; split <;> rfl, by omega, ha, ha⟩
      · exact ⟨a, b, fun W => by rw [run_min_int2, if_neg (by omega)], fun W => by rw [run_max_int2, if_pos (by omega)], by omega, ha, hb⟩
  have h1 := enc_len x
  have h2 := enc_len_mono hxy
  have h3 := enc_len_shift x
  have h4 := enc_len_shift' x
  have hkj : (k : Int) % 9 = ((k % 9 : Nat) : Int) := by omega
  have hj : k % 9 < 9 := Nat.mod_lt _ (by omega)
  obtain ⟨p1, p2⟩ := enc_len_pow (k % 9) hj
  generalize k % 9 = j at *
  obtain ⟨s1, s3, s4⟩ := shl_pow j hj
  unfold U64 at s3
  have r1 : (x : Int) / 2 ^ (7 * ((enc x).length - 1)) = ((x / 128 ^ ((enc x).length - 1) : Nat) : Int) := shr_pow x _
  have r2 : (x : Int) / 2 ^ (7 * (enc x).length) = 0 ∨ (enc x).length = 10 := by
    rcases h4 with h4 | h4
    · exact .inr h4
    · left; rw [shr_pow x, h4]; rfl
  have z1 := fun W => Size_any W x hx
  have z2 := fun W => Size_any W y hy
  have z3 := fun W => Size_any W (128 ^ (j + 1)) s3
  have z4 := fun W => Size_any W (128 ^ (j + 1) - 1) (by unfold U64; omega)
  rw [p1] at z3
  rw [p2] at z4
  generalize (enc x).length = N at *
  generalize (enc y).length = M at *
  generalize 128 ^ (j + 1) = E at *
  generalize x / 128 ^ (N - 1) = q at *
  have hE1 : ((E : Int) - 1) = ((E - 1 : Nat) : Int) := by omega
  have Z := Lib.hid (And.intro z1 (And.intro z2 (And.intro z3 z4)))
  clear z1 z2 z3 z4 h4 p1 p2
  have g1 : decide ((N : Int) ≤ (M : Int)) = true := by simp; omega
  have g2 : decide (0 < (q : Int)) = true ∨ ((N : Int) == 1) = true := by
    rcases h3 with h3 | h3
    · right; simp; omega
    · left; simp; omega
  have g3 : (((N : Int) == 10) = true) ∨ (((N : Int) == 10) = false) := by cases ((N : Int) == 10) <;> simp
  clear h3
  have g4 : (((N : Int) == 1) = true) ∨ (((N : Int) == 1) = false) := by cases ((N : Int) == 1) <;> simp
  obtain ⟨N1, hN1⟩ : ∃ b : Bool, ((N : Int) == 1) = b := ⟨_, rfl⟩
  obtain ⟨N10, hN10⟩ : ∃ b : Bool, ((N : Int) == 10) = b := ⟨_, rfl⟩
  rw [hN1] at g2
  clear g3 g4
  cases N1 <;> cases N10
  all_goals
    first | (replace g2 : 0 < (q : Int) := by simpa using g2) | clear g2
    first | (replace r2 : (x : Int) / 2 ^ (7 * N) = 0 := by rcases r2 with r2 | r2; exact r2; rw [r2] at hN10; cases hN10) | clear r2
    go_enter Try.func8, Try.ntmps8
    go_wp2_with fail
    refine (known_any w).mono ?_
    rintro e w1 ⟨rfl, hb1⟩
    go_wp2_with fail
    refine (Z.out.1 w1).mono ?_
    rintro e w2 ⟨rfl, hb2⟩
    have hb2' := bstep hb1 hb2
    go_wp2_with fail
    refine (Z.out.2.1 w2).mono ?_
    rintro e w3 ⟨rfl, hb3⟩
    have hb3' := bstep hb2' hb3
    go_wp2_with fail
    refine (Z.out.2.2.1 w3).mono ?_
    rintro e w4 ⟨rfl, hb4⟩
    have hb4' := bstep hb3' hb4
    go_wp2_with fail
    refine (Z.out.2.2.2 w4).mono ?_
    rintro e w5 ⟨rfl, hb5⟩
    have hb5' := bstep hb4' hb5
    go_wp2_with fail
    go_ret
    exact ⟨rfl, hb5'⟩
end Go.Proofs.Ytejligapkgnnnaa

