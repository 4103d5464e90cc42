/- 'SpanSets': whatever comes in, the law returns true and leaves it as it was. No condition. -/
import Derived.Test.YtdpkmabojlihmaaWSpanSets
namespace Go.Proofs.Ytdpkmabojlihmaa.spanSets
open Go.RowKit

theorem walk {H : Type} {enc : TypeId × Value → H} (W : World) (args : Array Value) (ds : List (DataW H)) (p : List MemPlace) (h : Args enc Try.f5 W args ds p) :
    Calls Try.prog 5 args W fun e W' => e = .returned (.bool true) ∧ Below W.heap.size W W' := by
  obtain ⟨base, vs, rfl, m0⟩ := h.many (ts := [39, 39, 4]) (by rw [Try.params5])
  obtain ⟨v0, vs1, d0, ds1, p0, q0, rfl, rfl, o0, m1⟩ := m0.cons
  obtain ⟨v1, vs2, d1, ds2, p1, q1, rfl, rfl, o1, m2⟩ := m1.cons
  obtain ⟨v2, vs3, d2, ds3, p2, q2, rfl, rfl, o2, m3⟩ := m2.cons
  obtain ⟨rfl, rfl⟩ := m3.nil
  obtain ⟨n0, rfl, h0a⟩ := o0.u64 Try.underlying39
  obtain ⟨n1, rfl, h1a⟩ := o1.u64 Try.underlying39
  obtain ⟨n2, rfl⟩ := o2.bool Try.underlying4
  exact SpanSets_walk W n0 h0a n1 h1a n2

theorem types : ∀ t ∈ Try.f5.params.toList, Try.prog.readableRec t = true ∧ t < Try.prog.types.size := by
  rw [Try.params5]
  intro t ht
  simp only [List.mem_cons, List.not_mem_nil, or_false] at ht
  rcases ht with rfl | rfl | rfl
  all_goals exact ⟨by kernel_rfl, of_decide_eq_true (by kernel_rfl)⟩
theorem fits (H : Type) (ds : List (DataW H)) (hl : ds.length = Try.f5.params.toList.length) : Rows.spanSetsSpec.fn H (ds ++ []) = { results := [.lit (.bool true)], args := ds } := by
  rw [Try.params5] at hl
  match ds, hl with
  | [d0, d1, d2], _ => rfl

set_option maxRecDepth 100000 in
theorem over : Rows.spanSetsRow.holds Try.pinned (OpenSpec.ofChange Rows.spanSetsSpec) :=
  OpenClaim.holds_of_wide 5 Try.f5 rfl rfl rfl rfl rfl rfl rfl ⟨rfl, rfl, rfl, rfl, rfl⟩ rfl rfl rfl rfl rfl (by kernel_rfl) Try.func5 (by kernel_rfl)
    (of_decide_eq_true (by kernel_rfl)) (by unfold Func.isWrapper; first | (rw [if_pos (by decide +kernel)]; kernel_rfl) | (rw [if_neg (by decide +kernel)]; exact ⟨rfl, rfl⟩))
    (fun os started H enc _ => lifted 5 Try.f5 Rows.spanSetsSpec Try.func5 (by kernel_rfl) rfl rfl types fits os started H enc
      (ChangeSpec.witness6 (enc := enc) (C := Try.checked) false ⟨#[], #[.int .u64 0, .int .u64 0, .bool false], []⟩ 8 (by kernel_rfl) (by kernel_rfl) (by kernel_rfl) (by kernel_rfl))
      (fun W args ds p h => walk W args ds p h))

theorem proved : Rows.SpanSetsSaid := over
end Go.Proofs.Ytdpkmabojlihmaa.spanSets

