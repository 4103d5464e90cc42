/- Records: rows of rows cut short. -/
import Derived.Test.YtkgmbpbbgkjidaaLpo
import Derived.Test.YtkgmbpbbgkjidaaCrcC
import Derived.Test.YtkgmbpbbgkjidaaFrP
import Derived.Test.YtkgmbpbbgkjidaaAppC
namespace Go.Proofs.Ytkgmbpbbgkjidaa
open Go.RowKit Go.Proofs.Ytkgmbpbbgkjidaa.Pl Go.Proofs.Ytkgmbpbbgkjidaa.Pc Go.Proofs.Ytkgmbpbbgkjidaa.Lg

theorem Mat.tk {w : World} {A : Option Addr} {ls : List (List UInt8)} (h : Mat w A ls) (k : Nat) : Mat w A (ls.take k) := by
  obtain ⟨vs, h1, h2, h3⟩ := h
  refine ⟨vs.take k, h1.tk k, by simp [h2], fun i v hv => ?_⟩
  rw [List.getElem?_take] at hv ⊢
  split at hv
  · rename_i hi; rw [if_pos hi]; exact h3 i v hv
  · cases hv
theorem scan_recs_all {ls : List (List UInt8)} (h : ∀ p ∈ ls, p.length ≤ 65536) : Lg.scan (recs ls) = (ls, (recs ls).length) := by
  have := scan_back ls [] h
  simpa [scan_nil] using this
end Go.Proofs.Ytkgmbpbbgkjidaa

