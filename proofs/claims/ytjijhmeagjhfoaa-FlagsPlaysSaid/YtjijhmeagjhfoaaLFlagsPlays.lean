/- 'FlagsPlays': whatever comes in, the law returns true and leaves it as it was. No condition. -/
import Derived.Test.YtjijhmeagjhfoaaWFlagsPlays
namespace Go.Proofs.Ytjijhmeagjhfoaa.flagsPlays
open Go.RowKit

theorem walk {H : Type} {enc : TypeId × Value → H} (W : World) (args : Array Value) (ds : List (DataW H)) (p : List MemPlace) (h : Args enc Try.f4 W args ds p) :
    Calls Try.prog 4 args W fun e W' => e = .returned (.bool true) ∧ Below W.heap.size W W' := by
  obtain ⟨base, vs, rfl, m0⟩ := h.many (ts := [40, 4]) (by rw [Try.params4])
  obtain ⟨v0, vs1, d0, ds1, p0, q0, rfl, rfl, o0, m1⟩ := m0.cons
  obtain ⟨v1, vs2, d1, ds2, p1, q1, rfl, rfl, o1, m2⟩ := m1.cons
  obtain ⟨rfl, rfl⟩ := m2.nil
  obtain ⟨A0, c0, l0, rfl, h0a, h0b, h0c, h0e⟩ := o0.fas
  obtain ⟨n1, rfl⟩ := o1.bool Try.underlying4
  exact FlagsPlays_walk W A0 c0 l0 h0a h0e n1

theorem types : ∀ t ∈ Try.f4.params.toList, Try.prog.readableRec t = true ∧ t < Try.prog.types.size := by
  rw [Try.params4]
  intro t ht
  simp only [List.mem_cons, List.not_mem_nil, or_false] at ht
  rcases ht with rfl | rfl
  all_goals exact ⟨by kernel_rfl, of_decide_eq_true (by kernel_rfl)⟩
theorem fits (H : Type) (ds : List (DataW H)) (hl : ds.length = Try.f4.params.toList.length) : Rows.flagsPlaysSpec.fn H (ds ++ []) = { results := [.lit (.bool true)], args := ds } := by
  rw [Try.params4] at hl
  match ds, hl with
  | [d0, d1], _ => rfl

set_option maxRecDepth 100000 in
theorem over : Rows.flagsPlaysRow.holds Try.pinned (OpenSpec.ofChange Rows.flagsPlaysSpec) :=
  OpenClaim.holds_of_wide 4 Try.f4 rfl rfl rfl rfl rfl rfl rfl ⟨rfl, rfl, rfl, rfl, rfl⟩ rfl rfl rfl rfl rfl (by kernel_rfl) Try.func4 (by kernel_rfl)
    (of_decide_eq_true (by kernel_rfl)) (by unfold Func.isWrapper; first | (rw [if_pos (by decide +kernel)]; kernel_rfl) | (rw [if_neg (by decide +kernel)]; exact ⟨rfl, rfl⟩))
    (fun os started H enc _ => lifted 4 Try.f4 Rows.flagsPlaysSpec Try.func4 (by kernel_rfl) rfl rfl types fits os started H enc
      (ChangeSpec.witness6 (enc := enc) (C := Try.checked) false ⟨#[], #[.slice none 0 0, .bool false], []⟩ 8 (by kernel_rfl) (by kernel_rfl) (by kernel_rfl) (by kernel_rfl))
      (fun W args ds p h => walk W args ds p h))

theorem proved : Rows.FlagsPlaysSaid := over
end Go.Proofs.Ytjijhmeagjhfoaa.flagsPlays

