/- A slice of u16. -/
import Derived.Test.YtpeecgphmcihaaaMem
namespace Go.Proofs.Ytpeecgphmcihaaa
open Go.RowKit

def wv (l : List Nat) : List Value := l.map (fun (n : Nat) => Value.int .u16 (n : Int))
theorem u16At {w : World} {B : Nat} {A : Option Addr} {x : List Nat} (h : Sl w B A (wv x)) {k : Nat} (hk : k < x.length) : ∃ b o, A = some ⟨b, o, none⟩ ∧ b < w.heap.size ∧ w.cell? ⟨b, o + k, none⟩ = some (.int .u16 ((x[k]?.getD 0 : Nat) : Int)) := by
  obtain ⟨b, o, e, _, h2, hc⟩ := h.at_ (k := k) (by simp [wv]; omega)
  exact ⟨b, o, e, h2, hc k _ (by simp [wv, List.getElem?_eq_getElem hk])⟩
theorem u16_lt {x : List Nat} (h : ∀ n ∈ x, n < 65536) (k : Nat) : x[k]?.getD 0 < 65536 := by
  rcases Nat.lt_or_ge k x.length with hk | hk
  · rw [List.getElem?_eq_getElem hk]; exact h _ (List.getElem_mem hk)
  · rw [List.getElem?_eq_none hk]; simp
end Go.Proofs.Ytpeecgphmcihaaa

