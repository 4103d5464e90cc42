/- Ranges: bits. -/
import Derived.Test.YtdpkmabojlihmaaZ
import Derived.Test.YtdpkmabojlihmaaRgR
import Derived.WalkSmall
namespace Go.Proofs.Ytdpkmabojlihmaa
open Go.RowKit Go.Proofs.Ytdpkmabojlihmaa.Pl Go.Proofs.Ytdpkmabojlihmaa.Sp

def bit (x i : Nat) : Bool := decide (x / 2 ^ i % 2 = 1)
def bl (x : Nat) (base : Int) (k : Nat) : List Int := ((List.range k).filter (bit x)).map fun (i : Nat) => base + 1 + (i : Int)
theorem bl_succ (x : Nat) (base : Int) (k : Nat) : bl x base (k + 1) = bl x base k ++ if bit x k = true then [base + 1 + (k : Int)] else [] := by
  unfold bl
  rw [List.range_succ, List.filter_append, List.map_append]
  congr 1
  by_cases h : bit x k = true <;> simp [h]
theorem bl_len (x : Nat) (base : Int) (k : Nat) : (bl x base k).length ≤ k := by
  unfold bl
  rw [List.length_map]
  have := List.length_filter_le (bit x) (List.range k)
  rw [List.length_range] at this
  exact this
theorem and1_bit (x i : Nat) (hx : U64 x) : (bits .and .u64 ((x : Int) / 2 ^ i) 1 == 1) = bit x i := by
  have e : (x : Int) / 2 ^ i = ((x / 2 ^ i : Nat) : Int) := by push_cast; rfl
  have h := Nat.div_le_self x (2 ^ i)
  have h' := hx.out
  rw [e, bit]
  generalize x / 2 ^ i = y at *
  rw [and_one_u64 _ (by omega) (by omega), Bool.eq_iff_iff, beq_iff_eq, decide_eq_true_eq]
  omega
def bitsR (x : Nat) (base : Int) : List Rg := ofS (bl x base 64)
set_option maxRecDepth 100000 in
set_option maxHeartbeats 3200000 in
theorem Bits_any (w : World) (x : Nat) (hx : U64 x) (base : Int) (hb0 : 0 ≤ base) (hb1 : base ≤ 1099511627775) :
    Calls Try.prog 26 #[.int .u64 (x : Int), .int .i64 base] w (RAns w (bitsR x base)) := by
  go_enter Try.func26, Try.ntmps26
  go_wp2_with fail
  go_loopw [5, 6] (fun x5 x6 wr => ∃ (k : Nat) (v : Value), k ≤ 64 ∧ x6 = .int .i64 (k : Int) ∧ v = x5 ∧ OwnZ wr w.heap.size v (bl x base k) ∧ Below w.heap.size w wr) (fun _ x6 _ => 64 - (intOf x6).toNat)
  case atStart => exact ⟨0, _, by omega, rfl, rfl, OwnZ.nil _ _, Below.refl _ _⟩
  case round =>
    obtain ⟨k, v, hk, rfl, rfl, hown, hbel⟩ := hrel
    by_cases hlt : k < 64
    · have hd1 : decide ((k : Int) < 64) = true := by rw [decide_eq_true_eq]; omega
      have hbit := and1_bit x k hx
      have hs := bl_succ x base k
      have hl := bl_len x base k
      have w1' : IntKind.i64.wrap (base + 1) = base + 1 := by rw [IntKind.wrap_i64]; omega
      have w2' : IntKind.i64.wrap (base + 1 + (k : Int)) = base + 1 + (k : Int) := by rw [IntKind.wrap_i64]; omega
      obtain ⟨q, hq⟩ : ∃ q, bit x k = q := ⟨_, rfl⟩
      rw [hq] at hbit hs
      have how2 := hown.below (boxZ wr (base + 1 + (k : Int)))
      have hbx := hbel.alloc hbel.size (.cells #[.int .i64 (base + 1 + (k : Int))] 2)
      have hsl := Sl.oneZ wr (base + 1 + (k : Int))
      have HS := Lib.hid hs
      have HB := Lib.hid (And.intro hown hbel)
      clear hs hown hbel
      cases q with
      | true =>
        go_wp2_with (at_builtin; refine appZ rfl rfl how2 hsl rfl rfl rfl (by rw [List.length_singleton]; omega) hbx.size ?_; intro v7 w7 h7 hg7 hat7)
        go_roundw
        case rel => exact ⟨k + 1, _, by omega, by go_num, rfl, by rw [HS.out]; exact h7, own_belowZ hbx hbx.size how2 hg7⟩
        case measure => simp [intOf] <;> omega
      | false =>
        clear how2 hbx hsl
        go_wp2_with fail
        go_roundw
        case rel => exact ⟨k + 1, _, by omega, by go_num, rfl, by rw [HS.out]; simpa using HB.out.1, HB.out.2⟩
        case measure => simp [intOf] <;> omega
    · obtain rfl : k = 64 := by omega
      have HF := Lib.hid hown
      obtain ⟨A3, c3, rfl, hs3, hc3, hm3⟩ := hown.form
      have hl := bl_len x base 64
      have HO := Lib.hid (RROf_any wr A3 _ c3 (bl x base 64) hs3 rfl (by omega))
      generalize (bl x base 64).length = m at *
      clear hs3 hown
      go_wp2_with fail
      refine HO.out.mono ?_
      rintro e w4 ⟨A4, c4, rfl, g1, g2, g3, g4⟩
      have hbz := hbel.trans (g4.mono hbel.size)
      go_wp2_with fail
      go_ret
      exact ⟨A4, c4, rfl, g1, g2, g3, hbz⟩
end Go.Proofs.Ytdpkmabojlihmaa

