/- Numbers as bytes: the document's Take. -/
import Derived.Test.YtpeecgphmcihaaaNumTake
namespace Go.Proofs.Ytpeecgphmcihaaa
open Go.RowKit Go.Proofs.Ytpeecgphmcihaaa.Pl

def RTakeRel (l : List UInt8) (x5 : Value) : Prop := ∃ k : Nat, k ≤ min l.length 10 ∧ k ≤ run l ∧ x5 = .int .i64 (k : Int)
def RTakeRel2 (l : List UInt8) (k : Nat) (x6 x7 : Value) : Prop := ∃ j : Nat, j ≤ k + 1 ∧ x7 = .int .i64 ((j : Int) - 1) ∧ x6 = .int .u64 (val ((l.take (k + 1)).drop j) : Int)
theorem and127_8 (x : Nat) (hx : x < 256) : bits .and .u8 (x : Int) 127 = (x : Int) % 128 := by
  have h := u8_and_nat x 127 hx (by omega)
  rw [nat_mask7] at h
  exact h.trans (by omega)
/-- 'a << 7 | y' -/
theorem shl7_or (a y : Nat) (hy : y < 128) (h : a * 128 + y < 18446744073709551616) : bits .or .u64 (IntKind.u64.wrap ((a : Int) * 128)) (y : Int) = ((a * 128 + y : Nat) : Int) := by
  have e : IntKind.u64.wrap ((a : Int) * 128) = ((a * 128 : Nat) : Int) := by
    rw [IntKind.wrap_u64]; omega
  rw [e, u64_or_nat _ _ (by omega) (by omega), nat_join 7 _ _ (by omega) (by omega)]

set_option maxRecDepth 100000 in
set_option maxHeartbeats 1600000 in
theorem RefTake_any (w : World) (B : Nat) (A : Option Addr) (c : Nat) (l : List UInt8) (hb : Sl w B A (bv l)) (hc : l.length ≤ c) (hn : c ≤ maxLen) :
    Calls Try.prog 33 #[.slice A l.length c] w fun e w' => e = .returned (.tuple #[.int .u64 ((takeS l).1 : Int), .int .i64 ((takeS l).2.1 : Int), .int .i64 ((takeS l).2.2 : Int)]) ∧ w = w' := by
  unfold maxLen at hn
  go_enter Try.func33, Try.ntmps33
  go_wp2_with fail
  go_loop [5] (fun x5 => RTakeRel l x5) (fun x5 => min l.length 10 - (intOf x5).toNat)
  case atStart => exact ⟨0, by omega, by omega, rfl⟩
  case round =>
    obtain ⟨k, hk, hr, rfl⟩ := hrel
    have hrl := run_le l
    by_cases hlt : k < min l.length 10
    · obtain ⟨b, o, rfl, hbB, hbW, hcell⟩ := hb.at_ (k := k) (by simp; omega)
      have hck := hcell k _ (bv_get l k (by omega))
      have hx256 := (l[k]?.getD 0).toNat_lt
      have hst := run_step l k hr (by omega)
      have hend := fun h => takeS_end l k h (by omega) (by omega)
      have hx : at_ l k = (l[k]?.getD 0).toNat := rfl
      generalize (l[k]?.getD 0).toNat = x at hck hx256 hx
      rw [hx] at hst hend
      have Hst := Lib.hid hst
      have Hend := Lib.hid hend
      have Hx := Lib.hid hx
      have Hcell := Lib.hid hcell
      have hk10 : k < 10 := by omega
      have hkl : k < l.length := by omega
      clear hcell hb hx hst hend hlt
      by_cases h128 : 128 ≤ x
      · go_wp2_with fail
        go_round
        case rel => exact ⟨k + 1, by omega, Hst.out.1 h128, by go_num⟩
        case measure => simp [intOf]; omega
      · have hne10 : ((k : Int) == 10) = false := by simp; omega
        have hnel : ((k : Int) == (l.length : Int)) = false := by simp; omega
        have e0 := Hend.out (Hst.out.2 (by omega))
        by_cases hbad : (0 < k ∧ x = 0) ∨ (k = 9 ∧ 1 < x)
        · rw [if_pos hbad] at e0
          have T := Lib.hid e0
          clear e0
          have hsplit : (0 < k ∧ ((x : Int) == 0) = true) ∨ (0 < k ∧ 1 < x ∧ ((x : Int) == 0) = false ∧ ((k : Int) == 9) = true) := by
            simp only [beq_iff_eq, beq_eq_false_iff_ne, ne_eq]
            omega
          clear hbad
          rcases hsplit with ⟨hs1, hs2⟩ | ⟨hs1, hs2, hs3, hs4⟩
          all_goals (go_wp2_with fail; go_ret3; rw [T.out]; exact ⟨rfl, rfl⟩)
        · rw [if_neg hbad] at e0
          have T := Lib.hid e0
          clear e0
          have hsplit : (k ≤ 0) ∨ (0 < k ∧ 1 ≤ x ∧ ((x : Int) == 0) = false ∧ ((k : Int) == 9) = true ∧ x ≤ 1) ∨ (0 < k ∧ 1 ≤ x ∧ ((x : Int) == 0) = false ∧ ((k : Int) == 9) = false) := by
            simp only [beq_iff_eq, beq_eq_false_iff_ne, ne_eq]
            omega
          clear hbad
          have hlk : (l.take (k + 1)).length = k + 1 := by rw [List.length_take]; omega
          have hlt64 : val (l.take (k + 1)) < 18446744073709551616 := by
            have := takeS_lt l
            rw [T.out] at this
            exact this
          have Hlk := Lib.hid hlk
          have Hlt64 := Lib.hid hlt64
          clear hlk hlt64
          rcases hsplit with hs | ⟨hs1, hs2, hs3, hs4, hs5⟩ | ⟨hs1, hs2, hs3, hs4⟩
          all_goals
            go_wp2_with fail
            go_loop [6, 7] (fun x6 x7 => RTakeRel2 l k x6 x7) (fun _ x7 => (intOf x7 + 1).toNat)
            case atStart => exact ⟨k + 1, by omega, by go_num, by rw [List.drop_eq_nil_of_le (by rw [Hlk.out]; omega)]; rfl⟩
            case round =>
              obtain ⟨j, hj, rfl, rfl⟩ := hrel
              by_cases hj0 : 1 ≤ j
              · obtain ⟨j, rfl⟩ : ∃ i, j = i + 1 := ⟨j - 1, by omega⟩
                have hcj := Hcell.out j _ (bv_get l j (by omega))
                have hy256 := (l[j]?.getD 0).toNat_lt
                have hy : at_ l j = (l[j]?.getD 0).toNat := rfl
                generalize (l[j]?.getD 0).toNat = y at hcj hy256 hy
                have hand := and127_8 y hy256
                have hv := val_drop (l.take (k + 1)) j (by rw [Hlk.out]; omega)
                rw [at_take _ _ _ (by omega), hy] at hv
                have hle := val_drop_le (l.take (k + 1)) j
                have hlt := Hlt64.out
                generalize val ((l.take (k + 1)).drop (j + 1)) = a at hv
                have hor := shl7_or a (y % 128) (by omega) (by omega)
                rw [show ((y % 128 : Nat) : Int) = (y : Int) % 128 by omega] at hor
                have Hv := Lib.hid hv
                have Hor := Lib.hid hor
                rw [show (((j + 1 : Nat) : Int) - 1) = (j : Int) by omega]
                clear hv hor hy hle hlt
                go_wp2_with fail
                go_round
                case rel => exact ⟨j, by omega, by first | rfl | (simp; done) | go_num, by rw [Hor.out, Hv.out]; congr 2; omega⟩
                case measure => simp [intOf]
              · obtain rfl : j = 0 := by omega
                rw [List.drop_zero]
                go_wp2_with fail
                all_goals (go_ret3; rw [T.out]; exact ⟨rfl, rfl⟩)
    · clear hb
      by_cases h10 : l.length < 10
      · have T := Lib.hid (takeS_short l (by omega) h10)
        have hkl : k = l.length := by omega
        subst hkl
        have hne10 : ((l.length : Int) == 10) = false := by simp; omega
        go_wp2_with fail
        all_goals (go_ret3; rw [T.out]; exact ⟨rfl, rfl⟩)
      · have T := Lib.hid (takeS_ten l (by omega))
        obtain rfl : k = 10 := by omega
        go_wp2_with fail
        all_goals (go_ret3; rw [T.out]; exact ⟨rfl, rfl⟩)
end Go.Proofs.Ytpeecgphmcihaaa

