/- An argument that is a slice of slices of bytes. -/
import Derived.Test.YtjbelkpmbbkhgaaDoorMat
import Derived.Test.YtjbelkpmbbkhgaaDoorFrame
import Derived.Deep.Matrix
namespace Go.Proofs.YtjbelkpmbbkhgaaDoor
open Go.ChangeShapes Go.WideShapes Go.ChangeAt Go.RowKit Go.Deep

theorem sl_of_cells (W : World) (a : Addr) (xs : List Value) (h : ∀ (j : Nat) (u : Value), xs[j]? = some u → W.cell? (a.add j) = some u) : Sl W W.heap.size (some a) xs := by
  cases xs with
  | nil => exact .inl rfl
  | cons x t =>
    obtain ⟨b, o, spot⟩ := a
    have hc0 := h 0 x rfl
    have hspot : spot = none := by simpa [Addr.add] using World.cell?_spot hc0
    subst hspot
    have hbl : b < W.heap.size := by
      have := World.block_lt_of_cell? W _ hc0
      simpa [Addr.add] using this
    refine .inr ⟨b, o, rfl, hbl, hbl, fun j u hu => ?_⟩
    have := h j u hu
    have e1 : (⟨b, o, none⟩ : Addr).add j = ⟨b, o + j, none⟩ := by
      unfold Addr.add
      split
      · rename_i h0; subst h0; rfl
      · rfl
    rw [e1] at this
    exact this
def bytesOf (zs : List Int) : List UInt8 := zs.map (fun z => UInt8.ofNat z.toNat)
theorem bv_bytesOf (zs : List Int) (h : ∀ z ∈ zs, (Lit.int .u8 z).wf = true) : bv (bytesOf zs) = zs.map (Value.int .u8) := by
  simp only [bv, bytesOf, List.map_map]
  refine List.map_congr_left fun z hz => ?_
  have hx : 0 ≤ z ∧ z ≤ 255 := by simpa [Lit.wf, IntKind.min, IntKind.max, IntKind.signed, IntKind.bits] using h z hz
  simp only [Function.comp, u8v, UInt8.toNat_ofNat']
  congr 1
  omega
section
variable {H : Type} {enc : TypeId × Value → H} {W : World} {base : Nat} {v : Value} {d : DataW H} {p : List MemPlace}
theorem One.mats (h : One enc W base 22 v d p) : ∃ (A : Option Addr) (c : Nat) (ls : List (List UInt8)), v = .slice A ls.length c ∧ Mat W A ls ∧ ls.length ≤ c ∧ c ≤ maxLen := by
  obtain ⟨ok, rd, fits⟩ := h
  obtain ⟨A, len, cap, rfl⟩ := okWide_slice Tryd.underlying22 ok
  obtain ⟨fuel, hf⟩ := rd
  rcases open_int_rows Tryd.underlying22 Tryd.underlying24 Tryd.underlying5 (by kernel_rfl) (by kernel_rfl) hf with ⟨hcs, _⟩ | ⟨a, len', cap', A', L, C, Z, hcs, _, hl, hm, _, hr⟩
  · simp [Value.cells] at hcs
    obtain ⟨rfl, rfl, rfl⟩ := hcs
    exact ⟨none, 0, [], rfl, Mat.nil _ _, by simp, by simp [maxLen]⟩
  · simp [Value.cells] at hcs
    obtain ⟨rfl, rfl, rfl⟩ := hcs
    refine ⟨some a, cap, (List.range len).map fun r => bytesOf ((Z r).take (L r)), by simp, ⟨(List.range len).map fun r => .slice (A' r) (L r) (C r), sl_of_cells W a _ fun j u hu => ?_, by simp, fun i v hv => ?_⟩, by simpa using hl, hm⟩
    · rw [List.getElem?_map] at hu
      by_cases hj : j < len
      · rw [List.getElem?_range hj] at hu
        cases hu
        exact (hr j (by omega)).1
      · rw [List.getElem?_eq_none (by simpa using hj)] at hu
        cases hu
    · rw [List.getElem?_map] at hv
      by_cases hj : i < len
      · rw [List.getElem?_range hj] at hv
        cases hv
        obtain ⟨_, h1, h2, h3, h4, h5, h6⟩ := hr i (by omega)
        rw [List.getElem?_map, List.getElem?_range hj]
        have hln : (bytesOf ((Z i).take (L i))).length = L i := by simp only [bytesOf, List.length_map, List.length_take]; omega
        have hbv : bv (bytesOf ((Z i).take (L i))) = ((Z i).take (L i)).map (Value.int .u8) := bv_bytesOf _ fun z hz => h4 z (List.mem_of_mem_take hz)
        show SlcIs W _ (bytesOf ((Z i).take (L i)))
        refine ⟨A' i, C i, by rw [hln], ?_, by rw [hln]; exact h1, h2⟩
        rw [hbv]
        rcases hA : A' i with _ | a'
        · have := h5 hA
          have h0 : L i = 0 := by omega
          rw [h0]
          exact Sl.nil
        · refine sl_of_cells W a' _ fun j u hu => ?_
          obtain ⟨_, h7⟩ := h6 a' hA
          rw [List.getElem?_map, List.getElem?_take] at hu
          by_cases hjl : j < L i
          · rw [if_pos hjl, List.getElem?_eq_getElem (by omega)] at hu
            cases hu
            rw [h7 j (by omega)]
            simp [List.getD, List.getElem?_eq_getElem (show j < (Z i).length by omega)]
          · rw [if_neg hjl] at hu
            cases hu
      · rw [List.getElem?_eq_none (by simpa using hj)] at hv
        cases hv
end
end Go.Proofs.YtjbelkpmbbkhgaaDoor

