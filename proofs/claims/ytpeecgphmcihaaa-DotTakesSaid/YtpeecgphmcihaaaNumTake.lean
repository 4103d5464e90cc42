/- Numbers as bytes: Take, and the document's Take. -/
import Derived.Test.YtpeecgphmcihaaaMem
import Derived.Test.YtpeecgphmcihaaaPNum
import Derived.Laws.BitsAllLaws
namespace Go.Proofs.Ytpeecgphmcihaaa
open Go.RowKit Go.Proofs.Ytpeecgphmcihaaa.Pl

/-- 'a | y << j' -/
theorem or_shl (a y j : Nat) (ha : U64 a) : ∃ r : Nat, bits .or .u64 (a : Int) (IntKind.u64.wrap ((y : Int) * 2 ^ j)) = (r : Int) ∧ U64 r ∧ (a < 2 ^ j → a + y * 2 ^ j < 18446744073709551616 → r = a + y * 2 ^ j) := by
  have ha' := ha.out
  have e : IntKind.u64.wrap ((y : Int) * 2 ^ j) = ((y * 2 ^ j % 18446744073709551616 : Nat) : Int) := by
    rw [IntKind.wrap_u64]
    have : ((y : Int) * 2 ^ j) = ((y * 2 ^ j : Nat) : Int) := by simp
    rw [this]; omega
  rw [e, u64_or_nat _ _ ha' (Nat.mod_lt _ (by omega))]
  refine ⟨_, rfl, U64.mk ?_, fun h1 h2 => ?_⟩
  · have : y * 2 ^ j % 18446744073709551616 < 2 ^ 64 := Nat.mod_lt _ (by omega)
    exact Nat.or_lt_two_pow (show a < 2 ^ 64 by omega) this
  · rw [Nat.mod_eq_of_lt (by omega), Nat.or_comm, nat_join j _ _ (Nat.mul_mod_left _ _) h1]; omega

def TakeRel (l : List UInt8) (x5 x14 : Value) : Prop :=
  ∃ k a : Nat, k ≤ min l.length 10 ∧ k ≤ run l ∧ x14 = .int .i64 (k : Int) ∧ x5 = .int .u64 (a : Int) ∧ U64 a ∧ (k ≤ 9 → a = val (l.take k))
theorem ret_take {X Y : Int} {v n : Nat} (h1 : X = (v : Int)) (h2 : Y = (n : Int)) : Ending.returned (.tuple #[.int .u64 X, .int .i64 Y, .int .i64 0]) = .returned (.tuple #[.int .u64 ((v, n, 0) : Nat × Nat × Nat).1, .int .i64 ((v, n, 0) : Nat × Nat × Nat).2.1, .int .i64 (((v, n, 0) : Nat × Nat × Nat).2.2 : Nat)]) := by
  subst h1 h2; rfl

set_option maxRecDepth 100000 in
set_option maxHeartbeats 800000 in
theorem Take_any (w : World) (B : Nat) (A : Option Addr) (c : Nat) (l : List UInt8) (hb : Sl w B A (bv l)) (hc : l.length ≤ c) (hn : c ≤ maxLen) :
    Calls Try.prog 32 #[.slice A l.length c] w fun e w' => e = .returned (.tuple #[.int .u64 ((takeS l).1 : Int), .int .i64 ((takeS l).2.1 : Int), .int .i64 ((takeS l).2.2 : Int)]) ∧ w = w' := by
  unfold maxLen at hn
  have hm : (l.length ≤ 10 ∧ min l.length 10 = l.length) ∨ (10 < l.length ∧ min l.length 10 = 10) := by omega
  rcases hm with ⟨hm, hM⟩ | ⟨hm, hM⟩
  all_goals
    have HM := Lib.hid hM
    clear hM
    go_enter Try.func32, Try.ntmps32
    go_wp2_with fail
    go_loop [5, 14] (fun x5 x14 => TakeRel l x5 x14) (fun _ x14 => min l.length 10 - (intOf x14).toNat)
    case atStart => exact ⟨0, 0, by omega, by omega, rfl, rfl, U64.mk (by omega), fun _ => rfl⟩
    case round =>
      obtain ⟨k, a, hk, hr, rfl, rfl, ha, hacc⟩ := hrel
      have Ha := Lib.hid hacc
      clear hacc
      by_cases hlt : k < min l.length 10
      · obtain ⟨b, o, rfl, hbB, hbW, hcell⟩ := hb.at_ (k := k) (by simp; omega)
        have hck := hcell k _ (bv_get l k (by omega))
        have hx256 := (l[k]?.getD 0).toNat_lt
        have hst := run_step l k hr (by omega)
        have hvs := val_take_succ l k (by omega)
        have hvl := val_take_lt l k (by omega)
        have hend := fun h => takeS_end l k h (by omega) (by omega)
        have hx : at_ l k = (l[k]?.getD 0).toNat := rfl
        generalize (l[k]?.getD 0).toNat = x at hck hx256 hx
        rw [hx] at hst hvs hend
        have Hst := Lib.hid hst
        have Hvs := Lib.hid hvs
        have Hend := Lib.hid hend
        have Hvl := Lib.hid hvl
        clear hcell hb hx hst hvs hend hvl
        have hk10 : k < 10 := by omega
        by_cases h128 : 128 ≤ x
        · obtain ⟨r, hr1, hr2, hr3⟩ := or_shl a (x - 128) (7 * k) ha
          rw [show ((x - 128 : Nat) : Int) = (x : Int) - 128 by omega] at hr1
          have Hr1 := Lib.hid hr1
          have Hr3 := Lib.hid hr3
          clear hr1 hr3
          go_wp2_with fail
          go_round
          case rel =>
            refine ⟨k + 1, r, by omega, Hst.out.1 h128, by go_num, by rw [Hr1.out], hr2, fun h9 => ?_⟩
            have e := Ha.out (by omega)
            have h3 := Hr3.out
            have hl := Hvl.out
            rw [pow7] at h3
            have hp : 128 ^ (k + 1) ≤ 128 ^ 9 := Nat.pow_le_pow_right (by omega) h9
            rw [Nat.pow_succ] at hp
            have hmul : (x - 128) * 128 ^ k ≤ 127 * 128 ^ k := Nat.mul_le_mul_right _ (by omega)
            rw [Hvs.out, h3 (by omega) (by omega), e, show x % 128 = x - 128 by omega]
          case measure => simp [intOf]; omega
        · have e0 := Hend.out (Hst.out.2 (by omega))
          have e1 : ((0 < k ∧ x = 0) ∨ (k = 9 ∧ 1 < x)) → takeS l = (0, 0, 21) := fun h => by rw [e0, if_pos h]
          have e2 : ¬ ((0 < k ∧ x = 0) ∨ (k = 9 ∧ 1 < x)) → takeS l = (val (l.take (k + 1)), k + 1, 0) := fun h => by rw [e0, if_neg h]
          have e3 : ¬ ((0 < k ∧ x = 0) ∨ (k = 9 ∧ 1 < x)) → bits .or .u64 (a : Int) (IntKind.u64.wrap ((x : Int) * 2 ^ (7 * k))) = (val (l.take (k + 1)) : Int) := fun h => by
            obtain ⟨r, hr1, hr2, hr3⟩ := or_shl a x (7 * k) ha
            have e := Ha.out (by omega)
            have hl := Hvl.out
            rw [pow7] at hr3
            rw [hr1, Hvs.out, Nat.mod_eq_of_lt (by omega : x < 128)]
            by_cases h9 : k = 9
            · have hx1 : x ≤ 1 := by omega
              have hmul : x * 128 ^ k ≤ 1 * 128 ^ k := Nat.mul_le_mul_right _ hx1
              have hp : 128 ^ k = 128 ^ 9 := by rw [h9]
              rw [hr3 (by omega) (by omega), e]
            · have hp : 128 ^ (k + 1) ≤ 128 ^ 9 := Nat.pow_le_pow_right (by omega) (by omega)
              rw [Nat.pow_succ] at hp
              have hmul : x * 128 ^ k ≤ 127 * 128 ^ k := Nat.mul_le_mul_right _ (by omega)
              rw [hr3 (by omega) (by omega), e]
          have E1 := Lib.hid e1
          have E2 := Lib.hid e2
          have E3 := Lib.hid e3
          clear e0 e1 e2 e3
          by_cases hbad : (0 < k ∧ x = 0) ∨ (k = 9 ∧ 1 < x)
          · have T := Lib.hid (E1.out hbad)
            go_wp2_with fail
            all_goals first | (exfalso; omega) | (go_ret3; rw [T.out]; exact ⟨rfl, rfl⟩)
          · have T := Lib.hid (E2.out hbad)
            have T3 := Lib.hid (E3.out hbad)
            have T9 : k = 9 → bits .or .u64 (a : Int) ((x : Int) * 9223372036854775808) = (val (l.take (k + 1)) : Int) := fun h9 => by
              have h := T3.out
              have e : IntKind.u64.wrap ((x : Int) * 2 ^ (7 * k)) = (x : Int) * 9223372036854775808 := by
                rw [h9, IntKind.wrap_u64]
                simp only [Nat.reduceMul, Int.reducePow]
                omega
              rwa [e] at h
            have T0 : x = 0 → k = 0 → bits .or .u64 (a : Int) 0 = (val (l.take (k + 1)) : Int) := fun hx hk => by
              have h := T3.out
              have e : IntKind.u64.wrap ((x : Int) * 2 ^ (7 * k)) = 0 := by
                rw [hx, IntKind.wrap_u64]; simp
              rwa [e] at h
            have T9' := Lib.hid T9
            have T0' := Lib.hid T0
            clear T9 T0
            go_wp2_with fail
            all_goals first | (exfalso; omega) | (go_ret3; rw [T.out]; first | exact ⟨ret_take (T3.out) (by omega), rfl⟩ | exact ⟨ret_take (T9'.out (by omega)) (by omega), rfl⟩ | exact ⟨ret_take (T0'.out (by omega) (by omega)) (by omega), rfl⟩)
      · clear hb Ha
        by_cases h10 : l.length < 10
        · have T := Lib.hid (takeS_short l (by have := run_le l; omega) h10)
          go_wp2_with fail
          all_goals (go_ret3; rw [T.out]; exact ⟨rfl, rfl⟩)
        · have T := Lib.hid (takeS_ten l (by omega))
          go_wp2_with fail
          all_goals (go_ret3; rw [T.out]; exact ⟨rfl, rfl⟩)
end Go.Proofs.Ytpeecgphmcihaaa

