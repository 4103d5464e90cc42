/- Checksums: one byte of what is sealed is another. -/
import Derived.Test.YtkgmbpbbgkjidaaCon
import Derived.Test.YtkgmbpbbgkjidaaFrame
namespace Go.Proofs.Ytkgmbpbbgkjidaa
open Go.RowKit Go.Proofs.Ytkgmbpbbgkjidaa.Pc Go.Proofs.Ytkgmbpbbgkjidaa.Pl

theorem sealS_len (l : List UInt8) : (sealS l).length = l.length + 4 := by simp [sealS, fixF_len]
theorem big_inj {a b : List UInt8} (h1 : a.length = 4) (h2 : b.length = 4) (h : big a = big b) : a = b := by
  unfold big at h
  rw [List.take_of_length_le (by omega), List.take_of_length_le (by omega)] at h
  rw [← fixF_bigF a, ← fixF_bigF b, h, h1, h2]
theorem big_sum (l : List UInt8) : big (fixF (sum l).toNat 4) = (sum l).toNat := by
  have hN := bv_lt (sum l)
  have h4 := fixF_len (sum l).toNat 4
  unfold big
  rw [List.take_of_length_le (by omega), bigF_fixF]
  simp only [Nat.zero_mul, Nat.zero_add]
  omega
/-- What is as long as what was sealed, and is other in its checksum alone or has another sum, isn't opened. -/
theorem open_other (l b F : List UInt8) (hb : b.length = l.length) (hF : F.length = 4) (h : (sum b ≠ sum l ∧ F = fixF (sum l).toNat 4) ∨ (b = l ∧ F ≠ fixF (sum l).toNat 4)) : openS (b ++ F) = none := by
  have hd : (b ++ F).length - 4 = b.length := by simp [hF]
  unfold openS
  rw [if_neg (by simp [hF]), hd]
  have e1 : (b ++ F).drop b.length = F := by simp
  have e2 : (b ++ F).take b.length = b := by simp
  rw [e1, e2, if_neg ?_]
  rcases h with ⟨h, rfl⟩ | ⟨rfl, h⟩
  · rw [big_sum]
    intro e
    exact h (BitVec.eq_of_toNat_eq e.symm)
  · intro e
    exact h (big_inj hF (fixF_len _ _) (by rw [e, big_sum]))
theorem set_split (l : List UInt8) (k : Nat) (hk : k < l.length) (c : UInt8) : l.set k (l[k]?.getD 0 ^^^ c) = l.take k ++ xorL [l[k]?.getD 0] [c] ++ l.drop (k + 1) ∧ l = l.take k ++ [l[k]?.getD 0] ++ l.drop (k + 1) := by
  have h : l = l.take k ++ [l[k]?.getD 0] ++ l.drop (k + 1) := by
    rw [List.getElem?_eq_getElem hk]
    simp
  refine ⟨?_, h⟩
  rw [List.set_eq_take_append_cons_drop, if_pos hk]
  simp [xorL]
theorem xor_ne {a c : UInt8} (hc : c ≠ 0) : a ^^^ c ≠ a := by
  intro e
  apply hc
  have : a ^^^ (a ^^^ c) = a ^^^ a := by rw [e]
  rw [← UInt8.xor_assoc] at this
  simpa using this
theorem sum_one (l : List UInt8) (k : Nat) (hk : k < l.length) (c : UInt8) (hc : c ≠ 0) : sum (l.set k (l[k]?.getD 0 ^^^ c)) ≠ sum l := by
  obtain ⟨e1, e2⟩ := set_split l k hk c
  rw [e1]
  have := sum_mid (l.take k) [l[k]?.getD 0] [c] (l.drop (k + 1)) rfl (diff_one hc)
  rw [← e2] at this
  exact this
theorem open_one (l : List UInt8) (k : Nat) (hk : k < (sealS l).length) (c : UInt8) (hc : c ≠ 0) : openS ((sealS l).set k ((sealS l)[k]?.getD 0 ^^^ c)) = none := by
  rw [sealS_len] at hk
  unfold sealS
  by_cases h : k < l.length
  · rw [List.set_append_left _ _ h, List.getElem?_append_left h]
    exact open_other l _ _ (by simp) (fixF_len _ _) (.inl ⟨sum_one l k h c hc, rfl⟩)
  · rw [List.set_append_right _ _ (by omega), List.getElem?_append_right (by omega)]
    have h4 := fixF_len (sum l).toNat 4
    refine open_other l _ _ rfl (by simp [h4]) (.inr ⟨rfl, fun e => ?_⟩)
    have hj : k - l.length < (fixF (sum l).toNat 4).length := by omega
    have := congrArg (fun x => x[k - l.length]?) e
    simp only [List.getElem?_set_self hj] at this
    rw [List.getElem?_eq_getElem hj] at this
    simp only [Option.getD_some, Option.some.injEq] at this
    exact xor_ne hc this

theorem xor_u8 (a b : UInt8) : bits .xor .u8 (a.toNat : Int) (b.toNat : Int) = ((a ^^^ b).toNat : Int) := by
  rw [u8_xor_nat _ _ (UInt8.toNat_lt a) (UInt8.toNat_lt b), UInt8.toNat_xor]
set_option maxRecDepth 100000 in
set_option maxHeartbeats 800000 in
theorem Place_any (w : World) (a : Int) (n : Nat) (h0 : 0 < n) (hn : n ≤ 140737488355328) (_h1 : -9223372036854775808 ≤ a) (_h2 : a ≤ 9223372036854775807) :
    Calls Try.prog 25 #[.int .i64 a, .int .i64 (n : Int)] w fun e w' => ∃ k : Nat, k < n ∧ e = .returned (.int .i64 (k : Int)) ∧ w' = w := by
  have hne : ((n : Int) == 0) = false := by simp; omega
  have hlt := Int.tmod_lt_of_pos a (show (0 : Int) < n by omega)
  have hgt : -(n : Int) < a.tmod n := Int.lt_tmod_of_pos a (show (0 : Int) < n by omega)
  by_cases hs : a.tmod n < 0
  · go_enter Try.func25, Try.ntmps25
    go_wp2_with fail
    go_ret
    exact ⟨(a.tmod n + n).toNat, by omega, by rw [Int.toNat_of_nonneg (by omega)]; rfl, rfl⟩
  · go_enter Try.func25, Try.ntmps25
    go_wp2_with fail
    go_ret
    exact ⟨(a.tmod n).toNat, by omega, by rw [Int.toNat_of_nonneg (by omega)]; rfl, rfl⟩

end Go.Proofs.Ytkgmbpbbgkjidaa

