/- Disks: Place. -/
import Derived.Test.YthnbnhlfiehihaaDkM
namespace Go.Proofs.Ythnbnhlfiehihaa
open Go.RowKit Go.Maps
set_option maxRecDepth 20000

theorem Place_any (w : World) (n : Int) (m : Nat) (hm : m ≤ 16777216) :
    Calls Try.prog 19 #[.int .i64 n, .int .i64 ((m : Int) + 1)] w fun e w' => e = .returned (.int .i64 (n % ((m + 1 : Nat) : Int))) ∧ w' = w := by
  have h1 := Int.lt_tmod_of_pos n (show (0 : Int) < m + 1 by omega)
  have h2 := Int.tmod_lt_of_pos n (show (0 : Int) < m + 1 by omega)
  have hw1 : IntKind.i64.wrap (Int.tmod n (m + 1)) = Int.tmod n (m + 1) := by rw [IntKind.wrap_i64]; omega
  have hw2 : IntKind.i64.wrap (Int.tmod n (m + 1) + (m + 1)) = Int.tmod n (m + 1) + (m + 1) := by rw [IntKind.wrap_i64]; omega
  have hz : ¬ ((m : Int) + 1 = 0) := by omega
  have h3 := place_eq n m
  obtain ⟨t, ht⟩ : ∃ t, Int.tmod n (m + 1) = t := ⟨_, rfl⟩
  rw [ht] at hw1 hw2 h1 h2 h3
  have HQ := Lib.hid ht
  by_cases hlt : t < 0
  · have hd : decide (t < 0) = true := by simpa using hlt
    rw [if_pos hlt] at h3
    rw [← h3]
    clear h3
    go_enter Try.func19, Try.ntmps19
    go_wp2
    go_ret
    exact ⟨rfl, rfl⟩
  · have hd : decide (t < 0) = false := by simpa using hlt
    rw [if_neg hlt] at h3
    rw [← h3]
    clear h3
    go_enter Try.func19, Try.ntmps19
    go_wp2
    go_ret
    exact ⟨rfl, rfl⟩
end Go.Proofs.Ythnbnhlfiehihaa

