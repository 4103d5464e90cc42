/- Checksums: the walk of the document's More. -/
import Derived.Test.YtkgmbpbbgkjidaaCrcW
namespace Go.Proofs.Ytkgmbpbbgkjidaa
open Go.RowKit Go.Proofs.Ytkgmbpbbgkjidaa.Pc

theorem bit_val (s : BitVec 32) : (bits .and .u32 (s.toNat : Int) 1 = 1 ∧ bits .xor .u32 ((s.toNat : Int) / 2) 3988292384 = ((f s).toNat : Int)) ∨
    (bits .and .u32 (s.toNat : Int) 1 = 0 ∧ (s.toNat : Int) / 2 = ((f s).toNat : Int)) := by
  have h1 := u32_and_nat s.toNat 1 (bv_lt s) (by omega)
  rw [nat_mask1] at h1
  have e1 : ((s.toNat : Int) / (2 : Int)) = ((s >>> 1).toNat : Int) := by
    rw [BitVec.toNat_ushiftRight, Nat.shiftRight_eq_div_pow]; omega
  have hl : s.getLsbD 0 = decide (s.toNat % 2 = 1) := by
    simp [BitVec.getLsbD, Nat.testBit_zero]
  by_cases hb : s.toNat % 2 = 1
  · left
    refine ⟨by rw [← Int.natCast_one, h1, hb], ?_⟩
    have e2 : (3988292384 : Int) = ((poly).toNat : Int) := by decide
    rw [e1, e2, xor_bv]
    unfold f
    rw [hl, decide_eq_true hb, if_pos rfl]
  · right
    refine ⟨by rw [← Int.natCast_one, h1]; omega, ?_⟩
    rw [e1]
    unfold f
    rw [hl, decide_eq_false hb]
    simp
def BitRel (s : BitVec 32) (x0 x6 : Value) : Prop := ∃ (j : Nat) (cur : BitVec 32), j ≤ 8 ∧ x6 = .int .i64 (j : Int) ∧ x0 = .int .u32 (cur.toNat : Int) ∧ fs (8 - j) cur = fs 8 s

set_option maxRecDepth 100000 in
set_option maxHeartbeats 1600000 in
theorem RefMore_any (w : World) (s : BitVec 32) (B : Nat) (A : Option Addr) (c : Nat) (l : List UInt8) (hb : Sl w B A (bv l)) (hc : l.length ≤ c) (hn : c ≤ maxLen) :
    Calls Try.prog 61 #[.int .u32 (s.toNat : Int), .slice A l.length c] w fun e w' => e = .returned (.int .u32 ((more s l).toNat : Int)) ∧ w = w' := by
  unfold maxLen at hn
  have hnot := not_val s
  have hmore : more s l = ~~~ go (~~~ s) l := rfl
  obtain ⟨s', hs'⟩ : ∃ s', ~~~ s = s' := ⟨_, rfl⟩
  rw [hs'] at hnot hmore
  have Hmore := Lib.hid hmore
  clear hmore hs'
  go_enter Try.func61, Try.ntmps61
  go_wp2_with fail
  clear hnot
  go_loop [0, 5] (fun x0 x5 => CrcRel s' l x0 x5) (fun _ x5 => l.length - (intOf x5).toNat)
  case atStart => exact ⟨0, Nat.zero_le _, rfl, rfl⟩
  case round =>
    obtain ⟨k, hk, rfl, rfl⟩ := hrel
    by_cases hlt : k < l.length
    · obtain ⟨b, o, rfl, hbB, hbW, hcell⟩ := hb.at_ (k := k) (by simpa using hlt)
      have hck := hcell k _ (bv_get l k hlt)
      have hts := go_take_succ s' l k hlt
      generalize l[k]?.getD 0 = x at hck hts
      generalize go s' (l.take k) = s0 at hts
      have f1 := xor_b8 s0 x
      have hstep : Pc.step s0 x = fs 8 (s0 ^^^ b8 x) := rfl
      rw [hstep] at hts
      generalize s0 ^^^ b8 x = s1 at hts f1
      have hx256 := x.toNat_lt
      generalize x.toNat = xn at hck f1 hx256
      have l0 := bv_lt s0
      generalize s0.toNat = n0 at *
      have Hts := Lib.hid hts
      clear hts hcell hstep
      go_wp2_with fail
      clear f1 hck
      go_loop [0, 6] (fun x0 x6 => BitRel s1 x0 x6) (fun _ x6 => 8 - (intOf x6).toNat)
      case atStart => exact ⟨0, s1, by omega, rfl, rfl, rfl⟩
      case round =>
        obtain ⟨j, cur, hj, rfl, rfl, hfs⟩ := hrel
        by_cases hj8 : j < 8
        · have hfs' : fs (8 - (j + 1)) (f cur) = fs 8 s1 := by
            rw [← hfs, show 8 - j = (8 - (j + 1)) + 1 by omega]; rfl
          have Hfs := Lib.hid hfs'
          have hlc := bv_lt cur
          rcases bit_val cur with ⟨b1, b2⟩ | ⟨b1, b2⟩
          · generalize f cur = nx at b2 Hfs
            clear hfs' hfs
            generalize cur.toNat = n at *
            go_wp2_with fail
            go_round
            case rel => exact ⟨j + 1, nx, by omega, by go_num, rfl, Hfs.out⟩
            case measure => simp [intOf]; omega
          · have B2 := Lib.hid b2
            clear b2
            generalize f cur = nx at B2 Hfs
            clear hfs' hfs
            generalize cur.toNat = n at *
            go_wp2_with fail
            go_round
            case rel => exact ⟨j + 1, nx, by omega, by go_num, by rw [B2.out], Hfs.out⟩
            case measure => simp [intOf]; omega
        · obtain rfl : j = 8 := by omega
          have hfs' : cur = fs 8 s1 := hfs
          have Hfs := Lib.hid hfs'
          clear hfs hfs'
          go_wp2_with fail
          go_round
          case rel => exact ⟨k + 1, hlt, by go_num, by rw [Hts.out, ← Hfs.out]⟩
          case measure => simp [intOf]; omega
    · rw [List.take_of_length_le (by omega)]
      have hnot := not_val (go s' l)
      rw [← Hmore.out] at hnot
      generalize (go s' l).toNat = n0 at hnot
      go_wp2_with fail
      go_ret
      exact ⟨rfl, rfl⟩
end Go.Proofs.Ytkgmbpbbgkjidaa

