/- Dots: plain facts of the lists that the laws make. -/
import Derived.Test.YtpeecgphmcihaaaPDots
namespace Go.Proofs.Ytpeecgphmcihaaa.Dt
open Go.Proofs.Ytpeecgphmcihaaa.Pl

def mkA (n : Nat) : D2 := ⟨((n % 4 : Nat) : Int), ((n / 4 % 8 : Nat) : Int)⟩
def dkB (n : Nat) : D2 := ⟨((n % 64 : Nat) : Int), ((n / 64 + 1 : Nat) : Int)⟩
def turnAt (l : List D2) (k i : Nat) : D2 := l[l.length - 1 - (i + k) % l.length]?.getD ⟨0, 0⟩
def turnD (l : List D2) (k m : Nat) : List D2 := (List.range m).map (turnAt l k)
theorem turnD_succ (l : List D2) (k m : Nat) : turnD l k (m + 1) = turnD l k m ++ [turnAt l k m] := by simp [turnD, List.range_succ]
theorem turnD_len (l : List D2) (k m : Nat) : (turnD l k m).length = m := by simp [turnD]
theorem turn_mem (l : List D2) (k : Nat) (z : D2) : z ∈ turnD l k l.length ↔ z ∈ l := by
  rw [turnD, List.mem_map]
  constructor
  · rintro ⟨i, hi, rfl⟩
    have hi' := List.mem_range.1 hi
    have hlt : (i + k) % l.length < l.length := Nat.mod_lt _ (by omega)
    rw [turnAt, List.getElem?_eq_getElem (by omega)]
    exact List.getElem_mem _
  · intro hz
    obtain ⟨j, hj, rfl⟩ := List.mem_iff_getElem.1 hz
    have hk : k % l.length < l.length := Nat.mod_lt _ (by omega)
    refine ⟨(l.length - 1 - j + (l.length - k % l.length)) % l.length, List.mem_range.2 (Nat.mod_lt _ (by omega)), ?_⟩
    have e : ((l.length - 1 - j + (l.length - k % l.length)) % l.length + k) % l.length = l.length - 1 - j := by
      rw [Nat.mod_add_mod, ← Nat.add_mod_mod]
      rw [show l.length - 1 - j + (l.length - k % l.length) + k % l.length = (l.length - 1 - j) + l.length by omega, Nat.add_mod_right, Nat.mod_eq_of_lt (by omega)]
    rw [turnAt, e, show l.length - 1 - (l.length - 1 - j) = j by omega, List.getElem?_eq_getElem hj]; rfl
theorem turn_sort (l : List D2) (k : Nat) : sortD (turnD l k l.length) = sortD l := sortD_same (turn_mem l k)
theorem sort_sort (l : List D2) : sortD (sortD l) = sortD l := sortD_self (sortD_rise l)
theorem turn_sort2 (l : List D2) (k : Nat) : sortD (turnD l k l.length ++ sortD l) = sortD l := sortD_same fun z => by rw [List.mem_append, turn_mem, sortD_mem, or_self]
theorem dkB_right {n : Nat} (h : n < 65536) : (dkB n).right = true := right_iff.2 ⟨by simp [dkB]; omega, by simp [dkB]; omega, by simp [dkB]; omega, by simp [dkB]; omega⟩
theorem map_succ {α : Type} (f : Nat → α) (x : List Nat) (i : Nat) (hi : i < x.length) : (x.take (i + 1)).map f = (x.take i).map f ++ [f (x[i]?.getD 0)] := by
  rw [List.take_succ_eq_append_getElem hi, List.map_append, List.getElem?_eq_getElem hi]; rfl
end Go.Proofs.Ytpeecgphmcihaaa.Dt

