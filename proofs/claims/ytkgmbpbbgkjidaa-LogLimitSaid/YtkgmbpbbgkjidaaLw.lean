/- Records: plain facts of the few. -/
import Derived.Test.YtkgmbpbbgkjidaaLsc
import Derived.Test.YtkgmbpbbgkjidaaMatF
namespace Go.Proofs.Ytkgmbpbbgkjidaa
open Go.RowKit Go.Proofs.Ytkgmbpbbgkjidaa.Pl Go.Proofs.Ytkgmbpbbgkjidaa.Pc Go.Proofs.Ytkgmbpbbgkjidaa.Lg

theorem held_nat {n : Nat} (h : n ≤ 65536) : heldN (n : Int) = n := by unfold heldN; (repeat' split) <;> omega
theorem sizeN_rec {l : List UInt8} (h : l.length ≤ 65536) : sizeN (l.length : Int) = (rec1 l).length := by
  unfold sizeN
  rw [held_nat h, rec1_len]
theorem rec1_few {l : List UInt8} (h : l.length ≤ 200) : (rec1 l).length ≤ 214 := by
  have := enc_len l.length
  rw [rec1_len]; omega
theorem recs_few : ∀ (ls : List (List UInt8)), (∀ x ∈ ls, x.length ≤ 200) → (recs ls).length ≤ 214 * ls.length
  | [], _ => by simp [recs]
  | l :: ls, h => by
    have h1 := rec1_few (h l (by simp))
    have h2 := recs_few ls (fun x hx => h x (by simp [hx]))
    simp only [recs, List.length_append, List.length_cons]
    omega
theorem Few.put {ls : List (List UInt8)} (h : Few ls) : putR ls = (recs ls, 0) ∧ (recs ls).length ≤ 4280 := by
  refine ⟨?_, ?_⟩
  · unfold putR
    rw [if_pos]
    rw [List.all_eq_true]
    intro x hx
    have := h.2 x hx
    simp; omega
  · have := recs_few ls h.2
    have := h.1
    omega
theorem Few.get {ls : List (List UInt8)} (h : Few ls) (k : Nat) : (ls[k]?.getD []).length ≤ 200 := by
  cases hk : ls[k]? with
  | none => simp
  | some x => exact h.2 x (List.mem_of_getElem? hk)
theorem Few.take {ls : List (List UInt8)} (h : Few ls) (k : Nat) : Few (ls.take k) := ⟨by rw [List.length_take]; have := h.1; omega, fun x hx => h.2 x (List.mem_of_mem_take hx)⟩
theorem Few.mem {ls : List (List UInt8)} (h : Few ls) : ∀ p ∈ ls, p.length ≤ 65536 := fun p hp => by have := h.2 p hp; omega
theorem recs_take_len {ls : List (List UInt8)} {k : Nat} (hk : k < ls.length) : (recs (ls.take (k + 1))).length = (recs (ls.take k)).length + (rec1 (ls[k]?.getD [])).length := by
  rw [(recs_take hk).1, List.length_append]
end Go.Proofs.Ytkgmbpbbgkjidaa

