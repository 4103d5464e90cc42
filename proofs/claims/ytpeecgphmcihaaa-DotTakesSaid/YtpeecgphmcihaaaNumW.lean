/- Numbers as bytes: the walks of package num. -/
import Derived.Test.YtpeecgphmcihaaaMem
import Derived.Test.YtpeecgphmcihaaaPNum
import Derived.Lib.Varint
import Derived.Outline
import Derived.Handy
namespace Go.Proofs.Ytpeecgphmcihaaa
open Go.RowKit Go.Proofs.Ytpeecgphmcihaaa.Pl

def OneRel (w : World) (base : Nat) (s : Value) (l : List UInt8) (v : Nat) (x0 x1 : Value) (wr : World) : Prop :=
  ∃ (k u : Nat) (pre : List UInt8), x1 = .int .u64 (u : Int) ∧ OwnB wr base x0 (l ++ pre) ∧ pre ++ encF k u = enc v ∧ u < 128 ^ (k + 1) ∧ U64 u ∧ w.grownBy wr s.ownBlock ∧ Went w s x0
def OnePost (w : World) (base : Nat) (s : Value) (l k : List UInt8) (e : Ending) (w' : World) : Prop :=
  ∃ s', e = .returned s' ∧ OwnB w' base s' (l ++ k) ∧ w.grownBy w' s.ownBlock ∧ Went w s s'

theorem byte_or_bv (u : Nat) : [Value.int .u8 (bits .or .u8 ((u : Int) % 256) 128)] = bv [UInt8.ofNat (u % 128 + 128)] := by
  rw [Lib.u8_or128_any _ (by omega) (by omega)]
  simp only [bv, List.map, u8v]
  rw [toNat_ofNat (by omega)]
  congr 2
  omega
theorem byte_bv (u : Nat) : [Value.int .u8 ((u : Int) % 256)] = bv [UInt8.ofNat u] := by
  simp only [bv, List.map, u8v, UInt8.toNat_ofNat']
  congr 2

theorem byte_bv' (u : Nat) (h : u < 256) : [Value.int .u8 (u : Int)] = bv [UInt8.ofNat u] := by
  simp only [bv, List.map, u8v, toNat_ofNat h]

set_option maxRecDepth 100000 in
set_option maxHeartbeats 400000 in
theorem one_any (w : World) (base : Nat) (s : Value) (l : List UInt8) (v : Nat) (hv : U64 v) (hown : OwnB w base s l) (hb : base ≤ w.heap.size) (hl : l.length + 10 ≤ 140737488355328) :
    Calls Try.prog 41 #[s, .int .u64 (v : Int)] w (OnePost w base s l (enc v)) := by
  go_enter Try.func41, Try.ntmps41
  go_wp2_with fail
  go_loopw [0, 1] (fun x0 x1 wr => OneRel w base s l v x0 x1 wr) (fun _ x1 _ => (intOf x1).toNat)
  case atStart => exact ⟨9, v, [], rfl, by simpa using hown, rfl, lt_pow_of_lt hv.out, hv, World.grownBy.refl w _, Went.refl w s⟩
  case round =>
    obtain ⟨k, u, pre, rfl, hown', hpre, hu, hu64, hg, hwent⟩ := hrel
    have Hpre := Lib.hid hpre
    have Hu := Lib.hid hu
    clear hpre hu
    have hlen : (l ++ pre).length + 1 ≤ 140737488355328 := by
      have h1 := congrArg List.length Hpre.out
      have h2 := enc_len v
      have h3 := encF_len_pos k u
      rw [List.length_append] at h1 ⊢
      omega
    have hs := hg.size
    by_cases hlt : 128 ≤ u
    · go_wp2_with (at_builtin; refine appN rfl rfl hown' (byte_or_bv u) rfl rfl rfl hlen (by omega) ?_; intro s1 w1 hown1 hg1 hat1)
      go_roundw
      case rel =>
        obtain ⟨k, rfl⟩ : ∃ k', k = k' + 1 := by
          cases k with
          | zero => have := Hu.out; simp at this; omega
          | succ k => exact ⟨k, rfl⟩
        refine ⟨k, u / 128, pre ++ [UInt8.ofNat (u % 128 + 128)], by go_num, by rw [← List.append_assoc]; exact hown1, ?_, div_lt_pow Hu.out, Nat.lt_of_le_of_lt (Nat.div_le_self _ _) hu64, grown_step hg hg1 hwent.row, hwent.step hs (Nat.le_succ _) hat1⟩
        rw [← Hpre.out]
        simp only [encF]
        rw [if_neg (by omega)]
        simp
      case measure => simp [intOf]; omega
    · go_wp2_with (at_builtin; refine appN rfl rfl hown' (byte_bv' u (by omega)) rfl rfl rfl hlen (by omega) ?_; intro s1 w1 hown1 hg1 hat1)
      go_ret
      refine ⟨s1, rfl, ?_, grown_step hg hg1 hwent.row, hwent.step hs (Nat.le_succ _) hat1⟩
      rw [← Hpre.out]
      have e : encF k u = [UInt8.ofNat u] := by
        cases k with
        | zero => rfl
        | succ k => simp only [encF]; rw [if_pos (by omega)]
      rw [e, ← List.append_assoc]
      exact hown1
end Go.Proofs.Ytpeecgphmcihaaa

