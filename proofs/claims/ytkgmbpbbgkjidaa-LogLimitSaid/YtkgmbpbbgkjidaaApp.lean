/- append behind a slice that is full: a fresh row. -/
import Derived.Test.YtkgmbpbbgkjidaaPar
import Derived.ArgAppend
namespace Go.Proofs.Ytkgmbpbbgkjidaa
open Go.RowKit

theorem run_appF (w : World) (ty : TypeId) {B B' : Nat} {A A' : Option Addr} {n m c cap : Nat} {l k : List UInt8} (hs : Sl w B A (bv l)) (hn : n = l.length) (hr : Sl w B' A' (bv k)) (hm : m = k.length)
    (hfull : cap < n + m) (hnil : A = none → n = 0 ∧ cap = 0) (hle : n ≤ cap) (hbytes : l.length + k.length ≤ 140737488355328) :
    ∃ v' w', (Builtin.append_ #[25, 25] ty #[.slice A n cap, .slice A' m c]).run Try.prog w = .ok v' w' ∧ OwnB w' w.heap.size v' (l ++ k) ∧ w.grownBy w' none := by
  subst hn hm
  obtain ⟨i, hi, hz, hz1, hz2⟩ := info_parts u8info
  have hkpos : 0 < k.length := by
    rcases Nat.eq_zero_or_pos k.length with h | h
    · omega
    · exact h
  obtain ⟨b', o', e', _, _, hc'⟩ := hr.at_ (k := 0) (by simpa using hkpos)
  subst e'
  have hadd : ∀ (b o j : Nat), (⟨b, o, none⟩ : Addr).add j = ⟨b, o + j, none⟩ := by
    intro b o j
    unfold Addr.add
    split
    · rename_i h0; subst h0; rfl
    · rfl
  cases A with
  | none =>
    obtain ⟨h0, rfl⟩ := hnil rfl
    have hl : l = [] := List.eq_nil_of_length_eq_zero h0
    subst hl
    obtain ⟨v', w', h1, h2, h3, _⟩ := run_app w ty (OwnB.nil w w.heap.size) hr (c := c) rfl hbytes (Nat.le_refl _)
    exact ⟨v', w', h1, h2, h3⟩
  | some a =>
    have holds : ∀ j u, (bv l)[j]? = some u → w.cell? (a.add j) = some u := by
      intro j u hu
      rcases hs with h | ⟨b, o, e, _, _, hc⟩
      · rw [h] at hu; cases hu
      · cases e
        rw [hadd]
        exact hc j u hu
    obtain ⟨v', w', hrun, h2, h3⟩ := run_append_arg_grows (P := Try.prog) w 25 ty 5 i (.int .u8 0) 1 1 Try.underlying25 hi hz hz1 hz2 rfl (by omega) a l.length cap (bv l) (by simp) holds
      ⟨b', o', none⟩ k.length c (bv k) (by simp) (fun j u hu => by rw [hadd]; exact hc' j u hu) hfull (by simp only [maxLen]; omega) (by omega)
    exact ⟨v', w', hrun, by simpa [OwnB] using h2, h3⟩
section
variable {ops : Array Oper} {rest : List Oper} {o : Oper} {a : Act} {Q : Exit → Act → World → Prop} {w : World} {s x : Operand}
theorem wp_appF {K : Act → World → Prop} (ho : o.op = .call { callee := .builtin .append, args := #[s, x], argTypes := #[25, 25] })
    {B B' : Nat} {A A' : Option Addr} {n m c cap : Nat} {l k : List UInt8} (hsl : Sl w B A (bv l)) (hn : n = l.length) (hr : Sl w B' A' (bv k)) (hm : m = k.length)
    (hs : a.eval s = .slice A n cap) (hx : a.eval x = .slice A' m c) (hfull : cap < n + m) (hnil : A = none → n = 0 ∧ cap = 0) (hle : n ≤ cap) (hbytes : l.length + k.length ≤ 140737488355328)
    (h : ∀ v' w', OwnB w' w.heap.size v' (l ++ k) → w.grownBy w' none → K (a.put o.dst v') w') : o.wp Try.prog a w K Q := by
  obtain ⟨v', w', hrun, h2, h3⟩ := run_appF w o.type hsl hn hr (c := c) hm hfull hnil hle hbytes
  unfold Oper.wp execOp
  simp only [ho, resolve, invoke, builtin, Sem.run_bind, Sem.run_pure, Result.andThen_ok, List.map_toArray, List.map_cons, List.map_nil, hs, hx, hrun]
  exact h v' w' h2 h3
theorem appF (hgd : o.guard = none) (ho : o.op = .call { callee := .builtin .append, args := #[s, x], argTypes := #[25, 25] })
    {B B' : Nat} {A A' : Option Addr} {n m c cap : Nat} {l k : List UInt8} (hsl : Sl w B A (bv l)) (hn : n = l.length) (hr : Sl w B' A' (bv k)) (hm : m = k.length)
    (hs : a.eval s = .slice A n cap) (hx : a.eval x = .slice A' m c) (hfull : cap < n + m) (hnil : A = none → n = 0 ∧ cap = 0) (hle : n ≤ cap) (hbytes : l.length + k.length ≤ 140737488355328)
    (h : ∀ v' w', OwnB w' w.heap.size v' (l ++ k) → w.grownBy w' none → wpList Try.prog ops Q rest (a.put o.dst v') w') : wpList Try.prog ops Q (o :: rest) a w :=
  wpList_plain hgd fun _ hK => wp_appF ho hsl hn hr hm hs hx hfull hnil hle hbytes fun v' w' h2 h3 => hK _ _ (h v' w' h2 h3)
end
end Go.Proofs.Ytkgmbpbbgkjidaa

