/- Stamps: two of them compared; an argument that is a stamp, or some. -/
import Derived.Test.YtjijhmeagjhfoaaStampM
import Derived.Test.YtjijhmeagjhfoaaFrame
import Derived.Lib.SmallJoins
import Derived.Deep.Slices
import Derived.Deep.Fields
import Derived.ChangeSame
namespace Go.Proofs.Ytjijhmeagjhfoaa
open Go.RowKit Go.Proofs.Ytjijhmeagjhfoaa.Pl
set_option maxRecDepth 100000

theorem sl_of_cells (W : World) (a : Addr) (xs : List Value) (h : ∀ (j : Nat) (u : Value), xs[j]? = some u → W.cell? (a.add j) = some u) : Sl W W.heap.size (some a) xs := by
  cases xs with
  | nil => exact .inl rfl
  | cons x t =>
    obtain ⟨b, o, spot⟩ := a
    have hc0 := h 0 x rfl
    have hspot : spot = none := by simpa [Addr.add] using World.cell?_spot hc0
    subst hspot
    have hbl : b < W.heap.size := by
      have := World.block_lt_of_cell? W _ hc0
      simpa [Addr.add] using this
    refine .inr ⟨b, o, rfl, hbl, hbl, fun j u hu => ?_⟩
    have := h j u hu
    have e1 : (⟨b, o, none⟩ : Addr).add j = ⟨b, o + j, none⟩ := by
      unfold Addr.add
      split
      · rename_i h0; subst h0; rfl
      · rfl
    rw [e1] at this
    exact this
theorem wf_i64' (a : Int) (h : (Lit.int .i64 a).wf = true) : i64ok a := by
  have : -9223372036854775808 ≤ a ∧ a ≤ 9223372036854775807 := by simpa [Lit.wf, IntKind.min, IntKind.max, IntKind.signed, IntKind.bits] using h
  exact this
section
open Go.Joins Go.ChangeShapes Go.WideShapes Go.ChangeAt Go.RowKit Go.Deep
variable {H : Type} {enc : TypeId × Value → H} {W : World} {base : Nat} {t : TypeId} {v : Value} {d : DataW H} {p : List MemPlace}
theorem One.stamp (h : One enc W base 30 v d p) : ∃ s : S3, v = s.v ∧ s.ok := by
  have ok := h.ok
  have rd := h.rd
  obtain ⟨v0, v1, v2, y0, y1, y2, n, rfl, _, _, h0, h1, h2⟩ := open_agg3 Try.underlying30 (by kernel_rfl) (by kernel_rfl) ok rd
  obtain ⟨a0, e0, _, w0⟩ := DataW.trod_int (k := .i64) Try.underlying2 h0
  obtain ⟨a1, e1, _, w1⟩ := DataW.trod_int (k := .i64) Try.underlying3 h1
  obtain ⟨a2, e2, _, w2⟩ := DataW.trod_int (k := .i64) Try.underlying3 h2
  cases e0; cases e1; cases e2
  exact ⟨⟨a0, a1, a2⟩, rfl, wf_i64' a0 w0, wf_i64' a1 w1, wf_i64' a2 w2⟩
/-- the cells of some things, one behind another -/
theorem flat_get {α : Type} (cells : α → List Value) (C : Nat) (h0 : 0 < C) (hl : ∀ x, (cells x).length = C) : ∀ (ls : List α) (j : Nat), (ls.flatMap cells)[j]? = (ls[j / C]?).bind fun x => (cells x)[j % C]?
  | [], j => by simp
  | x :: ls, j => by
    rw [List.flatMap_cons]
    by_cases h : j < C
    · rw [List.getElem?_append_left (by rw [hl]; exact h), Nat.div_eq_of_lt h, Nat.mod_eq_of_lt h]; rfl
    · rw [List.getElem?_append_right (by rw [hl]; omega), hl, flat_get cells C h0 hl ls (j - C)]
      have h1 : j / C = (j - C) / C + 1 := by
        rw [← Nat.add_div_right _ h0]; congr 1; omega
      have h2 : j % C = (j - C) % C := (Nat.mod_eq_sub_mod (by omega))
      rw [h1, h2]; rfl
theorem One.rows {α : Type} (cells : α → List Value) (C : Nat) (h0 : 0 < C) (hl : ∀ x, (cells x).length = C) (ok : α → Prop) (d0 : α) {e : TypeId} (ht : Try.prog.underlying t = some (.slice e)) (hC : Try.prog.cellsOf e = C)
    (hE : ∀ n cs' y, DataW.trod enc Try.prog W 0 (fun _ => true) true n e cs' = some y → ∃ x, cs' = cells x ∧ ok x) (h : One enc W base t v d p) :
    ∃ (A : Option Addr) (c : Nat) (ls : List α), v = .slice A ls.length c ∧ Sl W W.heap.size A (ls.flatMap cells) ∧ ls.length ≤ c ∧ c ≤ maxLen ∧ ∀ x ∈ ls, ok x := by
  have hok := h.ok
  have rd := h.rd
  have fits := h.fits
  obtain ⟨A, len, cap, rfl⟩ := okWide_slice ht hok
  obtain ⟨fuel, hf⟩ := rd
  rcases open_slice ht hf with ⟨hcs, _⟩ | ⟨a, len', cap', m, n, D, Pl, hcs, _, hle, hm, hmm, _, hr⟩
  · simp [Value.cells] at hcs
    obtain ⟨rfl, rfl, rfl⟩ := hcs
    exact ⟨none, 0, [], rfl, Sl.nil, by simp, by simp [maxLen], by simp⟩
  · simp [Value.cells] at hcs
    obtain ⟨rfl, rfl, rfl⟩ := hcs
    have hmm' : m = cap := by simpa using hmm
    subst hmm'
    have hx : ∀ i, ∃ x : α, i < m → ok x ∧ ∀ k, k < C → W.cell? (a.add (i * C + k)) = (cells x)[k]? := by
      intro i
      by_cases hi : i < m
      · obtain ⟨cs', h1, h2⟩ := hr i hi
        obtain ⟨x, rfl, hx⟩ := hE _ _ _ h2
        rw [hC] at h1
        obtain ⟨_, _, h3⟩ := World.cells?_some h1
        exact ⟨x, fun _ => ⟨hx, fun k hk => by rw [← Go.Deep.add_add]; exact h3 k hk⟩⟩
      · exact ⟨d0, fun h => absurd h hi⟩
    obtain ⟨f, hf'⟩ := Classical.axiomOfChoice hx
    refine ⟨some a, m, (List.range len).map f, by simp, sl_of_cells W a _ fun j u hu => ?_, by simpa using hle, hm, ?_⟩
    · rw [flat_get cells C h0 hl, List.getElem?_map] at hu
      by_cases hj : j / C < len
      · rw [List.getElem?_range hj] at hu
        have hk := (hf' (j / C) (by omega)).2 (j % C) (Nat.mod_lt _ h0)
        rw [Nat.div_add_mod' j C] at hk
        rw [hk]
        exact hu
      · rw [List.getElem?_eq_none (by simpa using hj)] at hu
        cases hu
    · intro x hx
      obtain ⟨i, hi, rfl⟩ := List.mem_map.1 hx
      exact (hf' i (by have := List.mem_range.1 hi; omega)).1
theorem stamp_of_trod (n : Nat) (cs' : List Value) (y : DataW H × List MemPlace) (h : DataW.trod enc Try.prog W 0 (fun _ => true) true n 30 cs' = some y) : ∃ s : S3, cs' = s.cells ∧ s.ok := by
  obtain ⟨y0, y1, y2, n', hx, hlen, h0, h1, h2⟩ := trod_struct3 Try.underlying30 h
  have hC : Try.prog.cellsOf 30 = 3 := by kernel_rfl
  have k0 : Try.prog.cellsOf 2 = 1 := by kernel_rfl
  have k1 : Try.prog.cellsOf 3 = 1 := by kernel_rfl
  rw [hC] at hlen
  match cs', hlen with
  | [c0, c1, c2], _ =>
    simp only [k0, k1, List.drop, List.take] at h0 h1 h2
    obtain ⟨a0, e0, _, w0⟩ := DataW.trod_int (k := .i64) Try.underlying2 h0
    obtain ⟨a1, e1, _, w1⟩ := DataW.trod_int (k := .i64) Try.underlying3 h1
    obtain ⟨a2, e2, _, w2⟩ := DataW.trod_int (k := .i64) Try.underlying3 h2
    cases e0; cases e1; cases e2
    exact ⟨⟨a0, a1, a2⟩, rfl, wf_i64' a0 w0, wf_i64' a1 w1, wf_i64' a2 w2⟩
theorem One.stamps (h : One enc W base 22 v d p) : ∃ (A : Option Addr) (c : Nat) (ls : List S3), v = .slice A ls.length c ∧ Sl W W.heap.size A (sv ls) ∧ ls.length ≤ c ∧ c ≤ maxLen ∧ ∀ s ∈ ls, s.ok :=
  One.rows S3.cells 3 (by omega) (fun _ => rfl) S3.ok ⟨0, 0, 0⟩ Try.underlying22 (by kernel_rfl) stamp_of_trod h
end
end Go.Proofs.Ytjijhmeagjhfoaa

