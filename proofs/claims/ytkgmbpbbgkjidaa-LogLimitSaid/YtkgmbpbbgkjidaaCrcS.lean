/- Checksums: the sums of parts. -/
import Derived.Test.YtkgmbpbbgkjidaaCrcR
import Derived.Test.YtkgmbpbbgkjidaaMat
namespace Go.Proofs.Ytkgmbpbbgkjidaa
open Go.RowKit Go.Proofs.Ytkgmbpbbgkjidaa.Pc

def SumRel (w : World) (ls : List (List UInt8)) (x3 x8 : Value) (wr : World) : Prop := ∃ k : Nat, k ≤ ls.length ∧ x8 = .int .i64 (k : Int) ∧ x3 = .int .u32 ((more 0#32 (ls.take k).flatten).toNat : Int) ∧ Below w.heap.size w wr
theorem flat_succ (s : BitVec 32) (ls : List (List UInt8)) (k : Nat) (h : k < ls.length) : more s (ls.take (k + 1)).flatten = more (more s (ls.take k).flatten) (ls[k]?.getD []) := by
  rw [List.take_add_one, List.getElem?_eq_getElem h, List.flatten_append, more_append]
  simp

set_option maxRecDepth 100000 in
set_option maxHeartbeats 800000 in
theorem Sum_any (w : World) (A : Option Addr) (n c : Nat) (ls : List (List UInt8)) (hb : Mat w A ls) (h0 : n = ls.length) (hm : ls.length ≤ maxLen) :
    Calls Try.prog 54 #[.slice A n c] w fun e w' => e = .returned (.int .u32 ((sum ls.flatten).toNat : Int)) ∧ Below w.heap.size w w' := by
  subst h0
  unfold maxLen at hm
  have hsum : sum ls.flatten = more 0#32 ls.flatten := rfl
  rw [hsum]
  go_enter Try.func54, Try.ntmps54
  go_wp2_with fail
  go_loopw [3, 8] (fun x3 x8 wr => SumRel w ls x3 x8 wr) (fun _ x8 _ => ls.length - (intOf x8).toNat)
  case atStart => exact ⟨0, Nat.zero_le _, rfl, by simp [more_nil], Below.refl _ _⟩
  case round =>
    obtain ⟨k, hk, rfl, rfl, hbel⟩ := hrel
    by_cases hlt : k < ls.length
    · obtain ⟨b, o, A', c', rfl, hbW, hck, h1, h2, h3⟩ := (hb.below hbel).at_ hlt
      have hfs := flat_succ 0#32 ls k hlt
      generalize ls[k]?.getD [] = l at *
      generalize more 0#32 (ls.take k).flatten = s at *
      have Hfs := Lib.hid hfs
      clear hfs hb
      go_wp2_with fail
      refine (More_any _ s _ A' c' l h1 h2 h3).mono ?_
      rintro e w2 ⟨rfl, hb2⟩
      go_wp2_with fail
      go_roundw
      case rel => exact ⟨k + 1, hlt, by go_num, by rw [Hfs.out], bstep hbel hb2⟩
      case measure => simp [intOf]; omega
    · rw [List.take_of_length_le (by omega)]
      go_wp2_with fail
      go_ret
      exact ⟨rfl, hbel⟩

set_option maxRecDepth 100000 in
set_option maxHeartbeats 800000 in
theorem RefSum_any (w : World) (A : Option Addr) (n c : Nat) (ls : List (List UInt8)) (hb : Mat w A ls) (h0 : n = ls.length) (hm : ls.length ≤ maxLen) :
    Calls Try.prog 53 #[.slice A n c] w fun e w' => e = .returned (.int .u32 ((sum ls.flatten).toNat : Int)) ∧ Below w.heap.size w w' := by
  subst h0
  unfold maxLen at hm
  have hsum : sum ls.flatten = more 0#32 ls.flatten := rfl
  rw [hsum]
  go_enter Try.func53, Try.ntmps53
  go_wp2_with fail
  go_loopw [3, 4] (fun x3 x8 wr => SumRel w ls x3 x8 wr) (fun _ x8 _ => ls.length - (intOf x8).toNat)
  case atStart => exact ⟨0, Nat.zero_le _, rfl, by simp [more_nil], Below.refl _ _⟩
  case round =>
    obtain ⟨k, hk, rfl, rfl, hbel⟩ := hrel
    by_cases hlt : k < ls.length
    · obtain ⟨b, o, A', c', rfl, hbW, hck, h1, h2, h3⟩ := (hb.below hbel).at_ hlt
      have hfs := flat_succ 0#32 ls k hlt
      generalize ls[k]?.getD [] = l at *
      generalize more 0#32 (ls.take k).flatten = s at *
      have Hfs := Lib.hid hfs
      clear hfs hb
      go_wp2_with fail
      refine (RefMore_any _ s _ A' c' l h1 h2 h3).mono ?_
      rintro e w2 ⟨rfl, rfl⟩
      go_wp2_with fail
      go_roundw
      case rel => exact ⟨k + 1, hlt, by go_num, by rw [Hfs.out], hbel⟩
      case measure => simp [intOf]; omega
    · rw [List.take_of_length_le (by omega)]
      go_wp2_with fail
      go_ret
      exact ⟨rfl, hbel⟩
end Go.Proofs.Ytkgmbpbbgkjidaa

