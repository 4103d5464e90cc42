/- Dots: an argument that is a range, or some. -/
import Derived.Test.YtdpkmabojlihmaaRg
import Derived.Test.YtdpkmabojlihmaaRows9
import Derived.Lib.SmallJoins
import Derived.Deep.Slices
import Derived.Deep.Fields
import Derived.ChangeSame
namespace Go.Proofs.Ytdpkmabojlihmaa
open Go.RowKit Go.Proofs.Ytdpkmabojlihmaa.Sp
section
open Go.Joins Go.ChangeShapes Go.WideShapes Go.ChangeAt Go.RowKit Go.Deep
variable {H : Type} {enc : TypeId × Value → H} {W : World} {base : Nat} {t : TypeId} {v : Value} {d : DataW H} {p : List MemPlace}
theorem One.rg (h : One enc W base 24 v d p) : ∃ s : Rg, v = s.v ∧ s.wfR := by
  obtain ⟨ok, rd, fits⟩ := h
  obtain ⟨v0, v1, y0, y1, n, rfl, _, _, h0, h1⟩ := open_agg2 Try.underlying24 (by kernel_rfl) (by kernel_rfl) ok rd
  obtain ⟨a0, e0, _, w0⟩ := DataW.trod_int (k := .i64) Try.underlying2 h0
  obtain ⟨a1, e1, _, w1⟩ := DataW.trod_int (k := .i64) Try.underlying2 h1
  cases e0; cases e1
  exact ⟨⟨a0, a1⟩, rfl, wf_i64' a0 w0, wf_i64' a1 w1⟩
theorem rg_of_trod (n : Nat) (cs' : List Value) (y : DataW H × List MemPlace) (h : DataW.trod enc Try.prog W 0 (fun _ => true) true n 24 cs' = some y) : ∃ s : Rg, cs' = s.cells ∧ s.wfR := by
  obtain ⟨y0, y1, n', hx, hlen, h0, h1⟩ := trod_struct2 Try.underlying24 h
  have hC : Try.prog.cellsOf 24 = 2 := by kernel_rfl
  have k0 : Try.prog.cellsOf 2 = 1 := by kernel_rfl
  have k1 : Try.prog.cellsOf 2 = 1 := by kernel_rfl
  rw [hC] at hlen
  match cs', hlen with
  | [c0, c1], _ =>
    simp only [k0, List.drop, List.take] at h0 h1
    obtain ⟨a0, e0, _, w0⟩ := DataW.trod_int (k := .i64) Try.underlying2 h0
    obtain ⟨a1, e1, _, w1⟩ := DataW.trod_int (k := .i64) Try.underlying2 h1
    cases e0; cases e1
    exact ⟨⟨a0, a1⟩, rfl, wf_i64' a0 w0, wf_i64' a1 w1⟩
theorem One.rgs (h : One enc W base 22 v d p) : ∃ (A : Option Addr) (c : Nat) (ls : List Rg), v = .slice A ls.length c ∧ Sl W W.heap.size A (rv ls) ∧ ls.length ≤ c ∧ c ≤ maxLen ∧ ∀ s ∈ ls, s.wfR :=
  One.rows Rg.cells 2 (by omega) (fun _ => rfl) Rg.wfR ⟨0, 0⟩ Try.underlying22 (by kernel_rfl) rg_of_trod h
end
end Go.Proofs.Ytdpkmabojlihmaa

