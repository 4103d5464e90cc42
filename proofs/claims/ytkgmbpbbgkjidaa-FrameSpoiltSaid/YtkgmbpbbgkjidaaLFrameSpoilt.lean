/- 'FrameSpoilt': whatever comes in, the law returns true and leaves it as it was. No condition. -/
import Derived.Test.YtkgmbpbbgkjidaaWFrameSpoilt
namespace Go.Proofs.Ytkgmbpbbgkjidaa.frameSpoilt
open Go.RowKit

theorem walk {H : Type} {enc : TypeId × Value → H} (W : World) (args : Array Value) (ds : List (DataW H)) (p : List MemPlace) (h : Args enc Try.f12 W args ds p) :
    Calls Try.prog 12 args W fun e W' => e = .returned (.bool true) ∧ Below W.heap.size W W' := by
  obtain ⟨base, vs, rfl, m0⟩ := h.many (ts := [5, 45, 25, 3, 5]) (by rw [Try.params12])
  obtain ⟨v0, vs1, d0, ds1, p0, q0, rfl, rfl, o0, m1⟩ := m0.cons
  obtain ⟨v1, vs2, d1, ds2, p1, q1, rfl, rfl, o1, m2⟩ := m1.cons
  obtain ⟨v2, vs3, d2, ds3, p2, q2, rfl, rfl, o2, m3⟩ := m2.cons
  obtain ⟨v3, vs4, d3, ds4, p3, q3, rfl, rfl, o3, m4⟩ := m3.cons
  obtain ⟨v4, vs5, d4, ds5, p4, q4, rfl, rfl, o4, m5⟩ := m4.cons
  obtain ⟨rfl, rfl⟩ := m5.nil
  obtain ⟨n0, rfl, h0a⟩ := o0.u8 Try.underlying5
  obtain ⟨n1, rfl, h1a⟩ := o1.u32 Try.underlying45
  obtain ⟨A2, c2, l2, rfl, h2a, h2b, h2c, h2d⟩ := o2.bytes
  obtain ⟨n3, rfl, h3a⟩ := o3.i64 Try.underlying3
  obtain ⟨n4, rfl, h4a⟩ := o4.u8 Try.underlying5
  exact FrameSpoilt_walk W n0 h0a n1 h1a A2 c2 l2 h2a h2b h2c n3 h3a n4 h4a

theorem types : ∀ t ∈ Try.f12.params.toList, Try.prog.readableRec t = true ∧ t < Try.prog.types.size := by
  rw [Try.params12]
  intro t ht
  simp only [List.mem_cons, List.not_mem_nil, or_false] at ht
  rcases ht with rfl | rfl | rfl | rfl | rfl
  all_goals exact ⟨by kernel_rfl, of_decide_eq_true (by kernel_rfl)⟩
theorem fits (H : Type) (ds : List (DataW H)) (hl : ds.length = Try.f12.params.toList.length) : Rows.frameSpoiltSpec.fn H (ds ++ []) = { results := [.lit (.bool true)], args := ds } := by
  rw [Try.params12] at hl
  match ds, hl with
  | [d0, d1, d2, d3, d4], _ => rfl

set_option maxRecDepth 100000 in
theorem over : Rows.frameSpoiltRow.holds Try.pinned (OpenSpec.ofChange Rows.frameSpoiltSpec) :=
  OpenClaim.holds_of_wide 12 Try.f12 rfl rfl rfl rfl rfl rfl rfl ⟨rfl, rfl, rfl, rfl, rfl⟩ rfl rfl rfl rfl rfl (by kernel_rfl) Try.func12 (by kernel_rfl)
    (of_decide_eq_true (by kernel_rfl)) (by unfold Func.isWrapper; first | (rw [if_pos (by decide +kernel)]; kernel_rfl) | (rw [if_neg (by decide +kernel)]; exact ⟨rfl, rfl⟩))
    (fun os started H enc _ => lifted 12 Try.f12 Rows.frameSpoiltSpec Try.func12 (by kernel_rfl) rfl rfl types fits os started H enc
      (ChangeSpec.witness6 (enc := enc) (C := Try.checked) false ⟨#[], #[.int .u8 0, .int .u32 0, .slice none 0 0, .int .i64 0, .int .u8 0], []⟩ 8 (by kernel_rfl) (by kernel_rfl) (by kernel_rfl) (by kernel_rfl))
      (fun W args ds p h => walk W args ds p h))

theorem proved : Rows.FrameSpoiltSaid := over
end Go.Proofs.Ytkgmbpbbgkjidaa.frameSpoilt

