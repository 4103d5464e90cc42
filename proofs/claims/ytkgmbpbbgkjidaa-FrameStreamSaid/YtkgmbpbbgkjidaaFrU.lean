/- Frames: one made of small numbers; plain facts of Put. -/
import Derived.Test.YtkgmbpbbgkjidaaFrL
import Derived.Test.YtkgmbpbbgkjidaaFrO
import Derived.Laws.BitsAllLaws
namespace Go.Proofs.Ytkgmbpbbgkjidaa
open Go.RowKit Go.Proofs.Ytkgmbpbbgkjidaa.Pl Go.Proofs.Ytkgmbpbbgkjidaa.Pc

theorem u8_half63 (k : Nat) (hk : k < 256) : bits .and .u8 ((k : Int) / 2) 63 = ((k / 2 % 64 : Nat) : Int) := by
  rw [show (k : Int) / 2 = ((k / 2 : Nat) : Int) by omega, show (63 : Int) = ((63 : Nat) : Int) from rfl, u8_and_nat _ _ (by omega) (by omega), show (63 : Nat) = 2 ^ 6 - 1 from rfl, Nat.and_two_pow_sub_one_eq_mod]
theorem u32_63 (g : Nat) (hg : g < 4294967296) : bits .and .u32 (g : Int) 63 = ((g % 64 : Nat) : Int) := by
  rw [show (63 : Int) = ((63 : Nat) : Int) from rfl, u32_and_nat _ _ hg (by omega), show (63 : Nat) = 2 ^ 6 - 1 from rfl, Nat.and_two_pow_sub_one_eq_mod]
def mkF (k g : Nat) (p : List UInt8) : Fr := ⟨((k % 2 + 1 : Nat) : Int), g, ((k / 2 % 64 : Nat) : Int), ((g % 64 : Nat) : Int), p⟩
theorem mk_right (k g : Nat) (p : List UInt8) : (mkF k g p).right = true := by
  have h0 : k % 2 + 1 = 1 ∨ k % 2 + 1 = 2 := by omega
  have h1 : k / 2 % 64 < 64 := by omega
  have h2 : g % 64 < 64 := by omega
  unfold Fr.right mkF kindB oneB
  simp only [Bool.and_eq_true, decide_eq_true_eq]
  omega
theorem body_len (x : Fr) : x.body.length + 4 = x.len := by
  unfold Fr.body Fr.len Fr.head
  simp [fixF_len]
  omega
theorem bytes_len (x : Fr) : x.bytes.length = x.len := by
  rw [← body_len]
  unfold Fr.bytes
  exact sealS_len _
theorem put_len {x : Fr} {limit : Int} {r1 : List UInt8} (h : putF x limit = (r1, 0)) : r1.length = 13 + (enc x.p.length).length + x.p.length ∧ r1 = x.bytes := by
  unfold putF at h
  split at h
  · split at h
    · injection h with h _
      subst h
      exact ⟨by rw [bytes_len]; unfold Fr.len; omega, rfl⟩
    · injection h with _ h; omega
  · injection h with _ h; omega
theorem put_fits {x : Fr} {limit : Int} (hr : x.right = true) (h : x.len ≤ heldN limit) : putF x limit = (x.bytes, 0) := by
  unfold putF
  rw [if_pos hr, if_pos h]
theorem held_max : heldN 65536 = 65536 := by decide
theorem len_ge (x : Fr) : 14 ≤ x.len ∧ x.len ≤ 23 + x.p.length := by
  have := enc_len x.p.length
  unfold Fr.len
  omega
end Go.Proofs.Ytkgmbpbbgkjidaa

