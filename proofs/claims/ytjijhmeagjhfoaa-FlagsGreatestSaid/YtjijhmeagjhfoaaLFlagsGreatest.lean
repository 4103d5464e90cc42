/- 'FlagsGreatest': whatever comes in, the law returns true and leaves it as it was. No condition. -/
import Derived.Test.YtjijhmeagjhfoaaWFlagsGreatest
namespace Go.Proofs.Ytjijhmeagjhfoaa.flagsGreatest
open Go.RowKit

theorem walk {H : Type} {enc : TypeId × Value → H} (W : World) (args : Array Value) (ds : List (DataW H)) (p : List MemPlace) (h : Args enc Try.f3 W args ds p) :
    Calls Try.prog 3 args W fun e W' => e = .returned (.bool true) ∧ Below W.heap.size W W' := by
  obtain ⟨base, vs, rfl, m0⟩ := h.many (ts := [22, 23, 5, 25]) (by rw [Try.params3])
  obtain ⟨v0, vs1, d0, ds1, p0, q0, rfl, rfl, o0, m1⟩ := m0.cons
  obtain ⟨v1, vs2, d1, ds2, p1, q1, rfl, rfl, o1, m2⟩ := m1.cons
  obtain ⟨v2, vs3, d2, ds3, p2, q2, rfl, rfl, o2, m3⟩ := m2.cons
  obtain ⟨v3, vs4, d3, ds4, p3, q3, rfl, rfl, o3, m4⟩ := m3.cons
  obtain ⟨rfl, rfl⟩ := m4.nil
  obtain ⟨A0, c0, l0, rfl, h0a, h0b, h0c, h0e⟩ := o0.stamps
  obtain ⟨n1, rfl, h1a⟩ := o1.u64 Try.underlying23
  obtain ⟨n2, rfl, h2a⟩ := o2.u8 Try.underlying5
  obtain ⟨l3, rfl, h3a⟩ := o3.id
  exact FlagsGreatest_walk W A0 c0 l0 h0a h0b h0c n1 h1a n2 h2a l3 h3a

theorem types : ∀ t ∈ Try.f3.params.toList, Try.prog.readableRec t = true ∧ t < Try.prog.types.size := by
  rw [Try.params3]
  intro t ht
  simp only [List.mem_cons, List.not_mem_nil, or_false] at ht
  rcases ht with rfl | rfl | rfl | rfl
  all_goals exact ⟨by kernel_rfl, of_decide_eq_true (by kernel_rfl)⟩
theorem fits (H : Type) (ds : List (DataW H)) (hl : ds.length = Try.f3.params.toList.length) : Rows.flagsGreatestSpec.fn H (ds ++ []) = { results := [.lit (.bool true)], args := ds } := by
  rw [Try.params3] at hl
  match ds, hl with
  | [d0, d1, d2, d3], _ => rfl

set_option maxRecDepth 100000 in
theorem over : Rows.flagsGreatestRow.holds Try.pinned (OpenSpec.ofChange Rows.flagsGreatestSpec) :=
  OpenClaim.holds_of_wide 3 Try.f3 rfl rfl rfl rfl rfl rfl rfl ⟨rfl, rfl, rfl, rfl, rfl⟩ rfl rfl rfl rfl rfl (by kernel_rfl) Try.func3 (by kernel_rfl)
    (of_decide_eq_true (by kernel_rfl)) (by unfold Func.isWrapper; first | (rw [if_pos (by decide +kernel)]; kernel_rfl) | (rw [if_neg (by decide +kernel)]; exact ⟨rfl, rfl⟩))
    (fun os started H enc _ => lifted 3 Try.f3 Rows.flagsGreatestSpec Try.func3 (by kernel_rfl) rfl rfl types fits os started H enc
      (ChangeSpec.witness6 (enc := enc) (C := Try.checked) false ⟨#[], #[.slice none 0 0, .int .u64 0, .int .u8 0, .agg #[.int .u8 0, .int .u8 0, .int .u8 0, .int .u8 0, .int .u8 0, .int .u8 0, .int .u8 0, .int .u8 0, .int .u8 0, .int .u8 0, .int .u8 0, .int .u8 0, .int .u8 0, .int .u8 0, .int .u8 0, .int .u8 0, .int .u8 0, .int .u8 0, .int .u8 0, .int .u8 0, .int .u8 0, .int .u8 0, .int .u8 0, .int .u8 0, .int .u8 0, .int .u8 0, .int .u8 0, .int .u8 0, .int .u8 0, .int .u8 0, .int .u8 0, .int .u8 0]], []⟩ 8 (by kernel_rfl) (by kernel_rfl) (by kernel_rfl) (by kernel_rfl))
      (fun W args ds p h => walk W args ds p h))

theorem proved : Rows.FlagsGreatestSaid := over
end Go.Proofs.Ytjijhmeagjhfoaa.flagsGreatest

