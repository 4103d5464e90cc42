/- Ranges: the lists of numbers of 'SpanOf'; an argument that is some int64. -/
import Derived.Test.YtdpkmabojlihmaaPSpan4
import Derived.Test.YtdpkmabojlihmaaRgO
namespace Go.Proofs.Ytdpkmabojlihmaa.Sp
open Go.Proofs.Ytdpkmabojlihmaa

def zturnAt (l : List Int) (k i : Nat) : Int := l[l.length - 1 - (i + k) % l.length]?.getD 0
def zturn (l : List Int) (k m : Nat) : List Int := (List.range m).map (zturnAt l k)
theorem zturn_succ (l : List Int) (k m : Nat) : zturn l k (m + 1) = zturn l k m ++ [zturnAt l k m] := by simp [zturn, List.range_succ]
theorem zturn_len (l : List Int) (k m : Nat) : (zturn l k m).length = m := by simp [zturn]
theorem zturn_mem (l : List Int) (k : Nat) (z : Int) : z ∈ zturn l k l.length ↔ z ∈ l := by
  rw [zturn, List.mem_map]
  constructor
  · rintro ⟨i, hi, rfl⟩
    have hi' := List.mem_range.1 hi
    have hlt : (i + k) % l.length < l.length := Nat.mod_lt _ (by omega)
    rw [zturnAt, List.getElem?_eq_getElem (by omega)]
    exact List.getElem_mem _
  · intro hz
    obtain ⟨j, hj, rfl⟩ := List.mem_iff_getElem.1 hz
    have hk : k % l.length < l.length := Nat.mod_lt _ (by omega)
    refine ⟨(l.length - 1 - j + (l.length - k % l.length)) % l.length, List.mem_range.2 (Nat.mod_lt _ (by omega)), ?_⟩
    have e : ((l.length - 1 - j + (l.length - k % l.length)) % l.length + k) % l.length = l.length - 1 - j := by
      rw [Nat.mod_add_mod, ← Nat.add_mod_mod]
      rw [show l.length - 1 - j + (l.length - k % l.length) + k % l.length = (l.length - 1 - j) + l.length by omega, Nat.add_mod_right, Nat.mod_eq_of_lt (by omega)]
    rw [zturnAt, e, show l.length - 1 - (l.length - 1 - j) = j by omega, List.getElem?_eq_getElem hj]; rfl
theorem ofS_turn (l : List Int) (k : Nat) : ofS (zturn l k l.length) = ofS l := ofS_same (zturn_mem l k)
def two (c : UInt8) : List Int := [(c.toNat : Int) % 40, 1099511627775 - (c.toNat : Int) / 40]
def exL (l : List Int) (x : List UInt8) (k : Nat) : List Int := l ++ (x.take k).flatMap two
theorem exL_succ (l : List Int) {x : List UInt8} {k : Nat} (hk : k < x.length) : exL l x (k + 1) = exL l x k ++ two (x[k]?.getD 0) := by
  unfold exL
  rw [List.take_succ_eq_append_getElem hk, List.flatMap_append, List.getElem?_eq_getElem hk, List.append_assoc]
  simp
theorem exL_len (l : List Int) (x : List UInt8) : ∀ k, (exL l x k).length ≤ l.length + 2 * k
  | 0 => by simp [exL]
  | k + 1 => by
    by_cases hk : k < x.length
    · have := exL_len l x k
      rw [exL_succ l hk, List.length_append]
      simp [two]; omega
    · have h := exL_len l x k
      have e : exL l x (k + 1) = exL l x k := by unfold exL; rw [List.take_of_length_le (by omega), List.take_of_length_le (by omega)]
      rw [e]; omega
theorem of_has (l : List Int) {i : Nat} (hi : i < l.length) : hasS (ofS l) (l[i]?.getD 0) = (decide (1 ≤ l[i]?.getD 0) && decide (l[i]?.getD 0 ≤ 1099511627775)) := by
  rw [hasS, ofS_right, ofS_has, List.getElem?_eq_getElem hi, Option.getD_some, numOk, List.contains_iff_mem.2 (List.getElem_mem hi), Bool.true_and, Bool.and_true]
  unfold mx
  rw [Bool.eq_iff_iff]; simp
end Go.Proofs.Ytdpkmabojlihmaa.Sp
namespace Go.Proofs.Ytdpkmabojlihmaa
open Go.RowKit Go.Proofs.Ytdpkmabojlihmaa.Sp
section
open Go.Joins Go.ChangeShapes Go.WideShapes Go.ChangeAt Go.RowKit Go.Deep
variable {H : Type} {enc : TypeId × Value → H} {W : World} {base : Nat} {v : Value} {d : DataW H} {p : List MemPlace}
theorem One.i64s (h : One enc W base 35 v d p) : ∃ (A : Option Addr) (c : Nat) (l : List Int), v = .slice A l.length c ∧ Sl W W.heap.size A (zv l) ∧ l.length ≤ c ∧ c ≤ maxLen := by
  obtain ⟨A, c, zs, e, h1, h2, h3, _⟩ := h.ints (m := 8) Try.underlying35 Try.underlying2 (by kernel_rfl) (by kernel_rfl)
  exact ⟨A, c, zs, e, h1, h2, h3⟩
end
end Go.Proofs.Ytdpkmabojlihmaa

