/- append behind a slice whose capacity is its length, whatever is appended. -/
import Derived.Test.YtkgmbpbbgkjidaaApp
import Derived.Deep.Upon
namespace Go.Proofs.Ytkgmbpbbgkjidaa
open Go.RowKit

theorem run_appC (w : World) (ty : TypeId) {B B' : Nat} {A A' : Option Addr} {n m c : Nat} {l k : List UInt8} (hs : Sl w B A (bv l)) (hn : n = l.length) (hr : Sl w B' A' (bv k)) (hm : m = k.length)
    (hnil : A = none → n = 0) (hmax : n ≤ maxLen) (hB : B ≤ w.heap.size) (hbytes : l.length + k.length ≤ 140737488355328) :
    ∃ A1 c1 w', (Builtin.append_ #[25, 25] ty #[.slice A n n, .slice A' m c]).run Try.prog w = .ok (.slice A1 (l ++ k).length c1) w' ∧ Sl w' w'.heap.size A1 (bv (l ++ k)) ∧ (l ++ k).length ≤ c1 ∧ c1 ≤ maxLen ∧ Below w.heap.size w w' := by
  rcases Nat.eq_zero_or_pos m with h0 | h0
  · have hk : k = [] := List.eq_nil_of_length_eq_zero (by omega)
    subst hk
    subst hn
    subst h0
    obtain ⟨i, hi, hz, hz1, hz2⟩ := info_parts u8info
    refine ⟨A, l.length, w, ?_, ?_, by simp, by simpa using hmax, Below.refl _ _⟩
    · rw [List.append_nil]
      cases A' with
      | none => exact Go.run_append_nothing w _ _ ty 5 i Try.underlying25 hi A l.length l.length (Nat.le_refl _) _ (Go.Src.ofNil w Try.underlying25 c)
      | some a => exact Go.run_append_nothing w _ _ ty 5 i Try.underlying25 hi A l.length l.length (Nat.le_refl _) _ (Go.Src.ofSlice w Try.underlying25 a 0 c [] (by simp) (by simp) (by simp))
    · rw [List.append_nil]
      exact hs.more hB
  · obtain ⟨v', w', hrun, hown, hg⟩ := run_appF w ty (c := c) hs hn hr hm (by omega) (fun h => ⟨hnil h, hnil h⟩) (Nat.le_refl _) hbytes
    obtain ⟨A1, c1, rfl, h1, h2, h3, _, _⟩ := hown.form
    exact ⟨A1, c1, w', hrun, h3, h1, h2, ⟨hg.os, hg.tape, hg.output, hg.size, fun k hk => hg.block k hk (fun e => by cases e)⟩⟩
section
variable {ops : Array Oper} {rest : List Oper} {o : Oper} {a : Act} {Q : Exit → Act → World → Prop} {w : World} {s x : Operand}
theorem wp_appC {K : Act → World → Prop} (ho : o.op = .call { callee := .builtin .append, args := #[s, x], argTypes := #[25, 25] })
    {B B' : Nat} {A A' : Option Addr} {n m c : Nat} {l k : List UInt8} (hsl : Sl w B A (bv l)) (hn : n = l.length) (hr : Sl w B' A' (bv k)) (hm : m = k.length)
    (hs : a.eval s = .slice A n n) (hx : a.eval x = .slice A' m c) (hnil : A = none → n = 0) (hmax : n ≤ maxLen) (hB : B ≤ w.heap.size) (hbytes : l.length + k.length ≤ 140737488355328)
    (h : ∀ A1 c1 w', Sl w' w'.heap.size A1 (bv (l ++ k)) → (l ++ k).length ≤ c1 → c1 ≤ maxLen → Below w.heap.size w w' → K (a.put o.dst (.slice A1 (l ++ k).length c1)) w') : o.wp Try.prog a w K Q := by
  obtain ⟨A1, c1, w', hrun, h2, h3, h4, h5⟩ := run_appC w o.type hsl hn hr (c := c) hm hnil hmax hB hbytes
  unfold Oper.wp execOp
  simp only [ho, resolve, invoke, builtin, Sem.run_bind, Sem.run_pure, Result.andThen_ok, List.map_toArray, List.map_cons, List.map_nil, hs, hx, hrun]
  exact h A1 c1 w' h2 h3 h4 h5
theorem appC (hgd : Region.wanted o (yielded ops a.tmps) = true) (ho : o.op = .call { callee := .builtin .append, args := #[s, x], argTypes := #[25, 25] })
    {B B' : Nat} {A A' : Option Addr} {n m c : Nat} {l k : List UInt8} (hsl : Sl w B A (bv l)) (hn : n = l.length) (hr : Sl w B' A' (bv k)) (hm : m = k.length)
    (hs : a.eval s = .slice A n n) (hx : a.eval x = .slice A' m c) (hnil : A = none → n = 0) (hmax : n ≤ maxLen) (hB : B ≤ w.heap.size) (hbytes : l.length + k.length ≤ 140737488355328)
    (h : ∀ A1 c1 w', Sl w' w'.heap.size A1 (bv (l ++ k)) → (l ++ k).length ≤ c1 → c1 ≤ maxLen → Below w.heap.size w w' → wpList Try.prog ops Q rest (a.put o.dst (.slice A1 (l ++ k).length c1)) w') : wpList Try.prog ops Q (o :: rest) a w :=
  BigFrame.wpList_want hgd fun _ hK => wp_appC ho hsl hn hr hm hs hx hnil hmax hB hbytes fun A1 c1 w' h2 h3 h4 h5 => hK _ _ (h A1 c1 w' h2 h3 h4 h5)
end
end Go.Proofs.Ytkgmbpbbgkjidaa

