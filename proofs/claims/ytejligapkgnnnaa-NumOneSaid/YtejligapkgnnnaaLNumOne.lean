/- 'NumOne' of the numbers: for every slice of bytes the law returns true and leaves it as it was. No condition. -/
import Derived.Test.YtejligapkgnnnaaWNumOne
namespace Go.Proofs.Ytejligapkgnnnaa.numOne
open Go.RowKit

theorem walk {H : Type} {enc : TypeId × Value → H} (W : World) (args : Array Value) (ds : List (DataW H)) (p : List MemPlace) (h : Args enc Try.f7 W args ds p) :
    Calls Try.prog 7 args W fun e W' => e = .returned (.bool true) ∧ Below W.heap.size W W' := by
  obtain ⟨base, vs, rfl, m0⟩ := h.many (ts := [35]) (by rw [Try.params7])
  obtain ⟨v0, vs, d0, ds, p0, q0, rfl, rfl, o0, m1⟩ := m0.cons
  obtain ⟨rfl, rfl⟩ := m1.nil
  obtain ⟨A, c, l, rfl, h1, h2, h3, _⟩ := o0.bytes
  exact NumOne_walk W A c l h1 h2 h3

set_option maxRecDepth 100000 in
theorem over : Rows.numOneRow.holds Try.pinned (OpenSpec.ofChange Rows.numOneSpec) :=
  OpenClaim.holds_of_wide 7 Try.f7 rfl rfl rfl rfl rfl rfl rfl ⟨rfl, rfl, rfl, rfl, rfl⟩ rfl rfl rfl rfl rfl (by kernel_rfl) Try.func7 (by kernel_rfl)
    (of_decide_eq_true (by kernel_rfl)) (by unfold Func.isWrapper; first | (rw [if_pos (by decide +kernel)]; kernel_rfl) | (rw [if_neg (by decide +kernel)]; exact ⟨rfl, rfl⟩))
    (fun os started H enc _ => lifted 7 Try.f7 Rows.numOneSpec Try.func7 (by kernel_rfl) rfl rfl
      (by rw [Try.params7]; intro t ht; simp only [List.mem_cons, List.not_mem_nil, or_false] at ht; rcases ht with rfl; exact ⟨by kernel_rfl, of_decide_eq_true (by kernel_rfl)⟩)
      (fun H ds hl => by rw [Try.params7] at hl; match ds, hl with | [d0], _ => rfl)
      os started H enc
      (ChangeSpec.witness6 (enc := enc) (C := Try.checked) false ⟨#[], #[.slice none 0 0], []⟩ 8 (by kernel_rfl) (by kernel_rfl) (by kernel_rfl) (by kernel_rfl))
      (fun W args ds p h => walk W args ds p h))

theorem proved : Rows.NumOneSaid := over
end Go.Proofs.Ytejligapkgnnnaa.numOne

