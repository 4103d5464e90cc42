/- 'FlagsTell': whatever comes in, the law returns true and leaves it as it was. No condition. -/
import Derived.Test.YtjijhmeagjhfoaaWFlagsTell
namespace Go.Proofs.Ytjijhmeagjhfoaa.flagsTell
open Go.RowKit

theorem walk {H : Type} {enc : TypeId × Value → H} (W : World) (args : Array Value) (ds : List (DataW H)) (p : List MemPlace) (h : Args enc Try.f6 W args ds p) :
    Calls Try.prog 6 args W fun e W' => e = .returned (.bool true) ∧ Below W.heap.size W W' := by
  obtain ⟨base, vs, rfl, m0⟩ := h.many (ts := [55]) (by rw [Try.params6])
  obtain ⟨v0, vs1, d0, ds1, p0, q0, rfl, rfl, o0, m1⟩ := m0.cons
  obtain ⟨rfl, rfl⟩ := m1.nil
  obtain ⟨A0, c0, l0, rfl, h0a, h0b, h0c, h0e, h0d⟩ := o0.u32s
  exact FlagsTell_walk W A0 c0 l0 h0a h0b h0c h0e

theorem types : ∀ t ∈ Try.f6.params.toList, Try.prog.readableRec t = true ∧ t < Try.prog.types.size := by
  rw [Try.params6]
  intro t ht
  simp only [List.mem_cons, List.not_mem_nil, or_false] at ht
  rcases ht with rfl
  all_goals exact ⟨by kernel_rfl, of_decide_eq_true (by kernel_rfl)⟩
theorem fits (H : Type) (ds : List (DataW H)) (hl : ds.length = Try.f6.params.toList.length) : Rows.flagsTellSpec.fn H (ds ++ []) = { results := [.lit (.bool true)], args := ds } := by
  rw [Try.params6] at hl
  match ds, hl with
  | [d0], _ => rfl

set_option maxRecDepth 100000 in
theorem over : Rows.flagsTellRow.holds Try.pinned (OpenSpec.ofChange Rows.flagsTellSpec) :=
  OpenClaim.holds_of_wide 6 Try.f6 rfl rfl rfl rfl rfl rfl rfl ⟨rfl, rfl, rfl, rfl, rfl⟩ rfl rfl rfl rfl rfl (by kernel_rfl) Try.func6 (by kernel_rfl)
    (of_decide_eq_true (by kernel_rfl)) (by unfold Func.isWrapper; first | (rw [if_pos (by decide +kernel)]; kernel_rfl) | (rw [if_neg (by decide +kernel)]; exact ⟨rfl, rfl⟩))
    (fun os started H enc _ => lifted 6 Try.f6 Rows.flagsTellSpec Try.func6 (by kernel_rfl) rfl rfl types fits os started H enc
      (ChangeSpec.witness6 (enc := enc) (C := Try.checked) false ⟨#[], #[.slice none 0 0], []⟩ 8 (by kernel_rfl) (by kernel_rfl) (by kernel_rfl) (by kernel_rfl))
      (fun W args ds p h => walk W args ds p h))

theorem proved : Rows.FlagsTellSaid := over
end Go.Proofs.Ytjijhmeagjhfoaa.flagsTell

