/- Disks: plain facts of the laws. -/
import Derived.Test.YthnbnhlfiehihaaPDk2
namespace Go.Proofs.Ythnbnhlfiehihaa

theorem crash_all_sure : ∀ (R : DR) (ps : List Int), (∀ p ∈ R, p.2.s = p.2.b.length) → crashR R ps = R
  | [], _, _ => rfl
  | (x, f) :: R, ps, h => by
    have h0 := h (x, f) (by simp)
    unfold crashR
    rw [if_neg (by dsimp only at h0; omega), crash_all_sure R ps (fun q hq => h q (by simp [hq]))]
theorem crash_nil : ∀ (R : DR), (∀ p ∈ R, p.2.s ≤ p.2.b.length) → crashR R [] = mapN (fun f => (⟨f.b.take f.s, f.s⟩ : DF)) R
  | [], _ => rfl
  | (x, f) :: R, h => by
    have h0 := h (x, f) (by simp)
    dsimp only at h0
    unfold crashR
    rw [show mapN (fun f => (⟨f.b.take f.s, f.s⟩ : DF)) ((x, f) :: R) = (x, ⟨f.b.take f.s, f.s⟩) :: mapN (fun f => (⟨f.b.take f.s, f.s⟩ : DF)) R from rfl]
    split
    · rw [List.tail_nil, crash_nil R (fun q hq => h q (by simp [hq]))]
      simp only [List.headD_nil, Int.zero_emod, Int.toNat_zero, Nat.add_zero, DF.first, DF.sync, List.length_take]
      rw [Nat.min_eq_left h0]
    · rename_i hn
      rw [crash_nil R (fun q hq => h q (by simp [hq]))]
      have e : f.s = f.b.length := by omega
      rw [e, List.take_length]
      have : f = ⟨f.b, f.b.length⟩ := by rw [← e]
      rw [← this]
/-- Go's remainder, lifted to 0 and more, two ways -/
theorem left_eq (n : Int) (m : Nat) : Int.tmod (Int.tmod n (m + 1) + (m + 1)) (m + 1) = n % ((m + 1 : Nat) : Int) := by
  have h1 : Int.tmod n (m + 1) + (m + 1) ≥ 0 := by
    have := Int.lt_tmod_of_pos n (show (0 : Int) < m + 1 by omega)
    omega
  rw [Int.tmod_eq_emod_of_nonneg h1, Int.add_emod_right]
  have h2 : Int.tmod n (m + 1) % (m + 1) = n % (m + 1) := by
    have h3 := Int.tmod_add_mul_tdiv n ((m : Int) + 1)
    have h4 : n % (m + 1) = (Int.tmod n (m + 1) + (m + 1) * Int.tdiv n (m + 1)) % (m + 1) := by rw [h3]
    rw [h4, Int.add_mul_emod_self_left]
  rw [h2]
  rfl
theorem place_eq (n : Int) (m : Nat) : (if Int.tmod n (m + 1) < 0 then Int.tmod n (m + 1) + (m + 1) else Int.tmod n (m + 1)) = n % ((m + 1 : Nat) : Int) := by
  have h3 := Int.tmod_add_mul_tdiv n ((m : Int) + 1)
  have h4 : n % (m + 1) = Int.tmod n (m + 1) % (m + 1) := by
    have h5 : n % (m + 1) = (Int.tmod n (m + 1) + (m + 1) * Int.tdiv n (m + 1)) % (m + 1) := by rw [h3]
    rw [h5, Int.add_mul_emod_self_left]
  have h1 := Int.lt_tmod_of_pos n (show (0 : Int) < m + 1 by omega)
  have h2 := Int.tmod_lt_of_pos n (show (0 : Int) < m + 1 by omega)
  show _ = n % ((m : Int) + 1)
  rw [h4]
  split
  · rename_i hlt
    rw [← Int.add_emod_right]
    exact (Int.emod_eq_of_lt (by omega) (by omega)).symm
  · exact (Int.emod_eq_of_lt (by omega) (by omega)).symm
end Go.Proofs.Ythnbnhlfiehihaa

