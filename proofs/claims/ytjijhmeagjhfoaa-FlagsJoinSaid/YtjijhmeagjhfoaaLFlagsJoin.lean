/- 'FlagsJoin': whatever comes in, the law returns true and leaves it as it was. No condition. -/
import Derived.Test.YtjijhmeagjhfoaaWFlagsJoin
namespace Go.Proofs.Ytjijhmeagjhfoaa.flagsJoin
open Go.RowKit

theorem walk {H : Type} {enc : TypeId × Value → H} (W : World) (args : Array Value) (ds : List (DataW H)) (p : List MemPlace) (h : Args enc Try.f5 W args ds p) :
    Calls Try.prog 5 args W fun e W' => e = .returned (.bool true) ∧ Below W.heap.size W W' := by
  obtain ⟨base, vs, rfl, m0⟩ := h.many (ts := [55, 55, 55]) (by rw [Try.params5])
  obtain ⟨v0, vs1, d0, ds1, p0, q0, rfl, rfl, o0, m1⟩ := m0.cons
  obtain ⟨v1, vs2, d1, ds2, p1, q1, rfl, rfl, o1, m2⟩ := m1.cons
  obtain ⟨v2, vs3, d2, ds3, p2, q2, rfl, rfl, o2, m3⟩ := m2.cons
  obtain ⟨rfl, rfl⟩ := m3.nil
  obtain ⟨A0, c0, l0, rfl, h0a, h0b, h0c, h0e, h0d⟩ := o0.u32s
  obtain ⟨A1, c1, l1, rfl, h1a, h1b, h1c, h1e, h1d⟩ := o1.u32s
  obtain ⟨A2, c2, l2, rfl, h2a, h2b, h2c, h2e, h2d⟩ := o2.u32s
  exact FlagsJoin_walk W A0 c0 l0 h0a h0b h0c h0e A1 c1 l1 h1a h1b h1c h1e A2 c2 l2 h2a h2b h2c h2e

theorem types : ∀ t ∈ Try.f5.params.toList, Try.prog.readableRec t = true ∧ t < Try.prog.types.size := by
  rw [Try.params5]
  intro t ht
  simp only [List.mem_cons, List.not_mem_nil, or_false] at ht
  rcases ht with rfl | rfl | rfl
  all_goals exact ⟨by kernel_rfl, of_decide_eq_true (by kernel_rfl)⟩
theorem fits (H : Type) (ds : List (DataW H)) (hl : ds.length = Try.f5.params.toList.length) : Rows.flagsJoinSpec.fn H (ds ++ []) = { results := [.lit (.bool true)], args := ds } := by
  rw [Try.params5] at hl
  match ds, hl with
  | [d0, d1, d2], _ => rfl

set_option maxRecDepth 100000 in
theorem over : Rows.flagsJoinRow.holds Try.pinned (OpenSpec.ofChange Rows.flagsJoinSpec) :=
  OpenClaim.holds_of_wide 5 Try.f5 rfl rfl rfl rfl rfl rfl rfl ⟨rfl, rfl, rfl, rfl, rfl⟩ rfl rfl rfl rfl rfl (by kernel_rfl) Try.func5 (by kernel_rfl)
    (of_decide_eq_true (by kernel_rfl)) (by unfold Func.isWrapper; first | (rw [if_pos (by decide +kernel)]; kernel_rfl) | (rw [if_neg (by decide +kernel)]; exact ⟨rfl, rfl⟩))
    (fun os started H enc _ => lifted 5 Try.f5 Rows.flagsJoinSpec Try.func5 (by kernel_rfl) rfl rfl types fits os started H enc
      (ChangeSpec.witness6 (enc := enc) (C := Try.checked) false ⟨#[], #[.slice none 0 0, .slice none 0 0, .slice none 0 0], []⟩ 8 (by kernel_rfl) (by kernel_rfl) (by kernel_rfl) (by kernel_rfl))
      (fun W args ds p h => walk W args ds p h))

theorem proved : Rows.FlagsJoinSaid := over
end Go.Proofs.Ytjijhmeagjhfoaa.flagsJoin

