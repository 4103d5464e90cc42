/- Flags: the law's id. -/
import Derived.Test.YtjijhmeagjhfoaaFlM
import Derived.Test.YtjijhmeagjhfoaaFlJ
namespace Go.Proofs.Ytjijhmeagjhfoaa
open Go.RowKit
set_option maxRecDepth 20000

theorem u8_and1 (k : Nat) (hk : k < 256) : bits .and .u8 (k : Int) 1 = ((k % 2 : Nat) : Int) := by
  have h : ∀ j : Fin 256, bits .and .u8 ((j.val : Nat) : Int) 1 = ((j.val % 2 : Nat) : Int) := by decide +kernel
  exact h ⟨k, hk⟩
theorem u8_and2 (k : Nat) (hk : k < 256) : bits .and .u8 ((k : Int) / 2) 1 = ((k / 2 % 2 : Nat) : Int) := by
  have h : ∀ j : Fin 256, bits .and .u8 (((j.val : Nat) : Int) / 2) 1 = ((j.val / 2 % 2 : Nat) : Int) := by decide +kernel
  exact h ⟨k, hk⟩
theorem u8_and4 (k : Nat) (hk : k < 256) : bits .and .u8 ((k : Int) / 4) 1 = ((k / 4 % 2 : Nat) : Int) := by
  have h : ∀ j : Fin 256, bits .and .u8 (((j.val : Nat) : Int) / 4) 1 = ((j.val / 4 % 2 : Nat) : Int) := by decide +kernel
  exact h ⟨k, hk⟩
def idOf (k : Nat) : ID := ⟨[UInt8.ofNat (k % 2)] ++ List.replicate 14 0 ++ [UInt8.ofNat (k / 2 % 2)] ++ List.replicate 15 0 ++ [UInt8.ofNat (k / 4 % 2)], rfl⟩
theorem id_built (a b c : UInt8) : Try.prog.built 25 [(0, .int .u8 (a.toNat : Int)), (15, .int .u8 (b.toNat : Int)), (31, .int .u8 (c.toNat : Int))] = some (bv ([a] ++ List.replicate 14 0 ++ [b] ++ List.replicate 15 0 ++ [c])).toArray := by kernel_rfl
theorem u8_lit (n : Nat) (hn : n < 256) : Value.int .u8 ((n : Nat) : Int) = .int .u8 ((UInt8.ofNat n).toNat : Int) := by
  rw [UInt8.toNat_ofNat', Nat.mod_eq_of_lt hn]
theorem id_built' (k : Nat) : Try.prog.built 25 [(0, .int .u8 ((k % 2 : Nat) : Int)), (15, .int .u8 ((k / 2 % 2 : Nat) : Int)), (31, .int .u8 ((k / 4 % 2 : Nat) : Int))] = some (bv (idOf k).l).toArray := by
  rw [u8_lit (k % 2) (by omega), u8_lit (k / 2 % 2) (by omega), u8_lit (k / 4 % 2) (by omega)]
  exact id_built _ _ _
theorem id_any (w : World) (k : Nat) (hk : k < 256) : Calls Try.prog 17 #[.int .u8 (k : Int)] w fun e w' => e = .returned (idOf k).v ∧ Below w.heap.size w w' := by
  have b1 := u8_and1 k hk
  have b2 := u8_and2 k hk
  have b4 := u8_and4 k hk
  have HB := Lib.hid (id_built' k)
  have H32 := Lib.hid (show (bv (idOf k).l).length = 32 by rw [bv_len, (idOf k).h])
  generalize k % 2 = q1 at *
  generalize k / 2 % 2 = q2 at *
  generalize k / 4 % 2 = q4 at *
  go_enter Try.func17, Try.ntmps17
  go_wp2_with (first
    | (refine opVal rfl (ex_bldT (by rfl) (by simp only [List.map_toArray, List.map_cons, List.map_nil]; rfl) HB.out) ?_; simp only [Act.put, List.setIfInBounds_toArray, List.set_cons_zero, List.set_cons_succ])
    | (refine opValV rfl (ex_al32 rfl) ?_; intro w3 hw3; have hq3 := Lib.hid (eq_s2 hw3); clear hw3; simp only [Act.put, List.setIfInBounds_toArray, List.set_cons_zero, List.set_cons_succ])
    | (refine opSkipV rfl (ex_st32 rfl rfl rfl hq3.out.2.1 (by rfl) H32.out (bv_one _)) ?_; intro w4 hw4; have hq4 := Lib.hid (key_s4 H32.out hq3.out hw4); clear hw4; simp only [Act.put]))
  exact bodyPost_ret (v := (idOf k).v) (results_arr32 rfl _ rfl hq4.out.1 H32.out) rfl ⟨rfl, hq4.out.2⟩
end Go.Proofs.Ytjijhmeagjhfoaa

