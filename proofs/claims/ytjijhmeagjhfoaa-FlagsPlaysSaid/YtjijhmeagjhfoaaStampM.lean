/- Stamps: the greatest of some. -/
import Derived.Test.YtjijhmeagjhfoaaStamp
namespace Go.Proofs.Ytjijhmeagjhfoaa
open Go.RowKit Go.Proofs.Ytjijhmeagjhfoaa.Pl

def S3.cells (s : S3) : List Value := [.int .i64 s.p, .int .i64 s.l, .int .i64 s.r]
def sv (ls : List S3) : List Value := ls.flatMap S3.cells
theorem sv_get : ∀ (ls : List S3) (k j : Nat) (s : S3), ls[k]? = some s → j < 3 → (sv ls)[k * 3 + j]? = s.cells[j]?
  | [], k, j, s, h, _ => by simp at h
  | x :: ls, 0, j, s, h, hj => by
    simp at h; subst h
    show (x.cells ++ sv ls)[0 * 3 + j]? = _
    rw [List.getElem?_append_left (by simp [S3.cells]; omega)]; congr 1; omega
  | x :: ls, k + 1, j, s, h, hj => by
    show (x.cells ++ sv ls)[(k + 1) * 3 + j]? = _
    rw [List.getElem?_append_right (by simp [S3.cells]; omega), show (k + 1) * 3 + j - x.cells.length = k * 3 + j by simp [S3.cells]; omega]
    exact sv_get ls k j s (by simpa using h) hj
theorem sv_len (ls : List S3) : (sv ls).length = ls.length * 3 := by
  induction ls with
  | nil => rfl
  | cons x t ih => simp [sv, S3.cells] at *; omega
theorem stampAt {w : World} {B : Nat} {A : Option Addr} {ls : List S3} (h : Sl w B A (sv ls)) {k : Nat} (hk : k < ls.length) :
    ∃ b o, A = some ⟨b, o, none⟩ ∧ b < B ∧ b < w.heap.size ∧ w.cell? ⟨b, o + k * 3, none⟩ = some (.int .i64 (ls[k]?.getD ⟨0, 0, 0⟩).p) ∧ w.cell? ⟨b, o + k * 3 + 1, none⟩ = some (.int .i64 (ls[k]?.getD ⟨0, 0, 0⟩).l) ∧ w.cell? ⟨b, o + k * 3 + 2, none⟩ = some (.int .i64 (ls[k]?.getD ⟨0, 0, 0⟩).r) := by
  obtain ⟨b, o, e, h1, h2, hc⟩ := h.at_ (k := k * 3) (by rw [sv_len]; omega)
  have hs : ls[k]? = some (ls[k]'hk) := List.getElem?_eq_getElem hk
  rw [hs]
  exact ⟨b, o, e, h1, h2, hc (k * 3 + 0) _ (sv_get ls k 0 _ hs (by omega)), hc (k * 3 + 1) _ (sv_get ls k 1 _ hs (by omega)), hc (k * 3 + 2) _ (sv_get ls k 2 _ hs (by omega))⟩
def mxF (m : Option S3) (s : S3) : Option S3 := match m with
  | none => some s
  | some m => some (if m.lt s = true then s else m)
def mxS (ls : List S3) : S3 := (ls.foldl mxF none).getD ⟨0, 0, 0⟩
theorem mx_succ (ls : List S3) (k : Nat) (hk : k < ls.length) : mxS (ls.take (k + 1)) = if k = 0 then ls[k]?.getD ⟨0, 0, 0⟩ else if (mxS (ls.take k)).lt (ls[k]?.getD ⟨0, 0, 0⟩) = true then ls[k]?.getD ⟨0, 0, 0⟩ else mxS (ls.take k) := by
  have hs : ls[k]? = some (ls[k]'hk) := List.getElem?_eq_getElem hk
  rw [hs, List.take_succ_eq_append_getElem hk]
  unfold mxS
  rw [List.foldl_append]
  have hne : k ≠ 0 → ∃ m, (ls.take k).foldl mxF none = some m := by
    intro h0
    have : ∀ (l : List S3) (m : S3), ∃ m', l.foldl mxF (some m) = some m' := by
      intro l
      induction l with
      | nil => exact fun m => ⟨m, rfl⟩
      | cons x t ih => exact fun m => ih _
    match ls, k, h0, hk with
    | x :: t, k + 1, _, _ => exact this _ _
  by_cases h0 : k = 0
  · subst h0; simp [mxF]
  · obtain ⟨m, hm⟩ := hne h0
    rw [hm, if_neg h0]
    simp [mxF]
def MaxRel (w : World) (ls : List S3) (x8 : Value) (wr : World) : Prop := ∃ k : Nat, k ≤ ls.length ∧ x8 = .int .i64 (k : Int) ∧ Below w.heap.size w wr ∧ Stands wr w.heap.size ⟨0, 0, 0⟩ ∧ Stands wr (w.heap.size + 1) (mxS (ls.take k))
end Go.Proofs.Ytjijhmeagjhfoaa

