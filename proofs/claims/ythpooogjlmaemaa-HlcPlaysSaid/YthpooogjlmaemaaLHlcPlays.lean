/- 'HlcPlays': whatever comes in, the law returns true and leaves it as it was. No condition. -/
import Derived.Test.YthpooogjlmaemaaWHlcPlays
namespace Go.Proofs.Ythpooogjlmaemaa.hlcPlays
open Go.RowKit

theorem walk {H : Type} {enc : TypeId × Value → H} (W : World) (args : Array Value) (ds : List (DataW H)) (p : List MemPlace) (h : Args enc Try.f9 W args ds p) :
    Calls Try.prog 9 args W fun e W' => e = .returned (.bool true) ∧ Below W.heap.size W W' := by
  obtain ⟨base, vs, rfl, m0⟩ := h.many (ts := [3, 3, 2, 50, 4]) (by rw [Try.params9])
  obtain ⟨v0, vs1, d0, ds1, p0, q0, rfl, rfl, o0, m1⟩ := m0.cons
  obtain ⟨v1, vs2, d1, ds2, p1, q1, rfl, rfl, o1, m2⟩ := m1.cons
  obtain ⟨v2, vs3, d2, ds3, p2, q2, rfl, rfl, o2, m3⟩ := m2.cons
  obtain ⟨v3, vs4, d3, ds4, p3, q3, rfl, rfl, o3, m4⟩ := m3.cons
  obtain ⟨v4, vs5, d4, ds5, p4, q4, rfl, rfl, o4, m5⟩ := m4.cons
  obtain ⟨rfl, rfl⟩ := m5.nil
  obtain ⟨n0, rfl, h0a⟩ := o0.i64 Try.underlying3
  obtain ⟨n1, rfl, h1a⟩ := o1.i64 Try.underlying3
  obtain ⟨n2, rfl, h2a⟩ := o2.i64 Try.underlying2
  obtain ⟨A3, c3, l3, rfl, h3a, h3b, h3c, h3e⟩ := o3.acts
  obtain ⟨n4, rfl⟩ := o4.bool Try.underlying4
  exact HlcPlays_walk W n0 h0a n1 h1a n2 h2a A3 c3 l3 h3a h3b n4

theorem types : ∀ t ∈ Try.f9.params.toList, Try.prog.readableRec t = true ∧ t < Try.prog.types.size := by
  rw [Try.params9]
  intro t ht
  simp only [List.mem_cons, List.not_mem_nil, or_false] at ht
  rcases ht with rfl | rfl | rfl | rfl | rfl
  all_goals exact ⟨by kernel_rfl, of_decide_eq_true (by kernel_rfl)⟩
theorem fits (H : Type) (ds : List (DataW H)) (hl : ds.length = Try.f9.params.toList.length) : Rows.hlcPlaysSpec.fn H (ds ++ []) = { results := [.lit (.bool true)], args := ds } := by
  rw [Try.params9] at hl
  match ds, hl with
  | [d0, d1, d2, d3, d4], _ => rfl

set_option maxRecDepth 100000 in
theorem over : Rows.hlcPlaysRow.holds Try.pinned (OpenSpec.ofChange Rows.hlcPlaysSpec) :=
  OpenClaim.holds_of_wide 9 Try.f9 rfl rfl rfl rfl rfl rfl rfl ⟨rfl, rfl, rfl, rfl, rfl⟩ rfl rfl rfl rfl rfl (by kernel_rfl) Try.func9 (by kernel_rfl)
    (of_decide_eq_true (by kernel_rfl)) (by unfold Func.isWrapper; first | (rw [if_pos (by decide +kernel)]; kernel_rfl) | (rw [if_neg (by decide +kernel)]; exact ⟨rfl, rfl⟩))
    (fun os started H enc _ => lifted 9 Try.f9 Rows.hlcPlaysSpec Try.func9 (by kernel_rfl) rfl rfl types fits os started H enc
      (ChangeSpec.witness6 (enc := enc) (C := Try.checked) false ⟨#[], #[.int .i64 0, .int .i64 0, .int .i64 0, .slice none 0 0, .bool false], []⟩ 8 (by kernel_rfl) (by kernel_rfl) (by kernel_rfl) (by kernel_rfl))
      (fun W args ds p h => walk W args ds p h))

theorem proved : Rows.HlcPlaysSaid := over
end Go.Proofs.Ythpooogjlmaemaa.hlcPlays

