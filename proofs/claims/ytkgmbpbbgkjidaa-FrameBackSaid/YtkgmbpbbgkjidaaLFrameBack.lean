/- 'FrameBack': whatever comes in, the law returns true and leaves it as it was. No condition. -/
import Derived.Test.YtkgmbpbbgkjidaaWFrameBack
namespace Go.Proofs.Ytkgmbpbbgkjidaa.frameBack
open Go.RowKit

theorem walk {H : Type} {enc : TypeId × Value → H} (W : World) (args : Array Value) (ds : List (DataW H)) (p : List MemPlace) (h : Args enc Try.f10 W args ds p) :
    Calls Try.prog 10 args W fun e W' => e = .returned (.bool true) ∧ Below W.heap.size W W' := by
  obtain ⟨base, vs, rfl, m0⟩ := h.many (ts := [5, 45, 25, 25]) (by rw [Try.params10])
  obtain ⟨v0, vs1, d0, ds1, p0, q0, rfl, rfl, o0, m1⟩ := m0.cons
  obtain ⟨v1, vs2, d1, ds2, p1, q1, rfl, rfl, o1, m2⟩ := m1.cons
  obtain ⟨v2, vs3, d2, ds3, p2, q2, rfl, rfl, o2, m3⟩ := m2.cons
  obtain ⟨v3, vs4, d3, ds4, p3, q3, rfl, rfl, o3, m4⟩ := m3.cons
  obtain ⟨rfl, rfl⟩ := m4.nil
  obtain ⟨n0, rfl, h0a⟩ := o0.u8 Try.underlying5
  obtain ⟨n1, rfl, h1a⟩ := o1.u32 Try.underlying45
  obtain ⟨A2, c2, l2, rfl, h2a, h2b, h2c, h2d⟩ := o2.bytes
  obtain ⟨A3, c3, l3, rfl, h3a, h3b, h3c, h3d⟩ := o3.bytes
  exact FrameBack_walk W n0 h0a n1 h1a A2 c2 l2 h2a h2b h2c A3 c3 l3 h3a h3b h3c

theorem types : ∀ t ∈ Try.f10.params.toList, Try.prog.readableRec t = true ∧ t < Try.prog.types.size := by
  rw [Try.params10]
  intro t ht
  simp only [List.mem_cons, List.not_mem_nil, or_false] at ht
  rcases ht with rfl | rfl | rfl | rfl
  all_goals exact ⟨by kernel_rfl, of_decide_eq_true (by kernel_rfl)⟩
theorem fits (H : Type) (ds : List (DataW H)) (hl : ds.length = Try.f10.params.toList.length) : Rows.frameBackSpec.fn H (ds ++ []) = { results := [.lit (.bool true)], args := ds } := by
  rw [Try.params10] at hl
  match ds, hl with
  | [d0, d1, d2, d3], _ => rfl

set_option maxRecDepth 100000 in
theorem over : Rows.frameBackRow.holds Try.pinned (OpenSpec.ofChange Rows.frameBackSpec) :=
  OpenClaim.holds_of_wide 10 Try.f10 rfl rfl rfl rfl rfl rfl rfl ⟨rfl, rfl, rfl, rfl, rfl⟩ rfl rfl rfl rfl rfl (by kernel_rfl) Try.func10 (by kernel_rfl)
    (of_decide_eq_true (by kernel_rfl)) (by unfold Func.isWrapper; first | (rw [if_pos (by decide +kernel)]; kernel_rfl) | (rw [if_neg (by decide +kernel)]; exact ⟨rfl, rfl⟩))
    (fun os started H enc _ => lifted 10 Try.f10 Rows.frameBackSpec Try.func10 (by kernel_rfl) rfl rfl types fits os started H enc
      (ChangeSpec.witness6 (enc := enc) (C := Try.checked) false ⟨#[], #[.int .u8 0, .int .u32 0, .slice none 0 0, .slice none 0 0], []⟩ 8 (by kernel_rfl) (by kernel_rfl) (by kernel_rfl) (by kernel_rfl))
      (fun W args ds p h => walk W args ds p h))

theorem proved : Rows.FrameBackSaid := over
end Go.Proofs.Ytkgmbpbbgkjidaa.frameBack

