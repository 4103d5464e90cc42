/- Openers: an Id, a string. -/
import Derived.Test.YtjbelkpmbbkhgaaFrame
namespace Go.Proofs.Ytjbelkpmbbkhgaa
open Go.ChangeShapes Go.WideShapes Go.ChangeAt Go.RowKit

section
variable {H : Type} {enc : TypeId × Value → H} {W : World} {base : Nat} {t : TypeId} {v : Value} {d : DataW H} {p : List MemPlace}
theorem One.str (h : One enc W base 9 v d p) : ∃ l : List UInt8, v = .string ⟨l.toArray⟩ ∧ l.length ≤ 140737488351232 ∧ l.length < Rows.uptoBulk d := by
  obtain ⟨ok, ⟨fuel, rd⟩, fits⟩ := h
  have hu : Try.prog.underlying 9 = some .string := Try.underlying9
  obtain ⟨s, rfl⟩ := okWide_string hu ok
  obtain ⟨s', hs, hx, _⟩ := DataW.trod_string hu rd
  simp only [Value.cells] at hs
  have hs2 : s = s' := by simpa using hs
  subst hs2
  simp only [Prod.mk.injEq] at hx
  obtain ⟨rfl, _⟩ := hx
  refine ⟨s.data.toList, by simp, ?_, by simp [Rows.uptoBulk]⟩
  have := fits s.data.toList.length (by simp [DataW.weights])
  simp only [reachBytes] at this
  omega
def u8of : Value → UInt8
  | .int _ z => UInt8.ofNat z.toNat
  | _ => 0
theorem One.id (h : One enc W base 23 v d p) : ∃ l : List UInt8, v = .agg (bv l).toArray ∧ l.length = 32 := by
  obtain ⟨ok, ⟨fuel, rd⟩, fits⟩ := h
  have hu : Try.prog.underlying 23 = some (.array 32 5) := by kernel_rfl
  have hC : Try.prog.cellsOf 23 = 32 := by kernel_rfl
  have hc1 : Try.prog.cellsOf 5 = 1 := by kernel_rfl
  simp only [Value.okWide, hu] at ok
  obtain ⟨cs, rfl, hsz, _⟩ := ok
  rw [hC] at hsz
  obtain ⟨xs, m, _, _, _, hxl, hel⟩ := DataW.trod_array hu rd
  rw [hc1] at hel
  have hcell : ∀ i, i < 32 → ∃ b : UInt8, cs.toList[i]? = some (u8v b) := by
    intro i hi
    have hti := hel i hi
    have hil : i < xs.length := by omega
    rw [List.getElem?_eq_getElem hil, Nat.mul_one] at hti
    obtain ⟨a, e0, _, w0⟩ := DataW.trod_int (k := .u8) Try.underlying5 hti
    have hil2 : i < cs.toList.length := by simpa [hsz] using hi
    have hd : (Value.cells (.agg cs)).toList = cs.toList := rfl
    rw [hd, List.drop_eq_getElem_cons hil2, List.take_succ_cons, List.take_zero] at e0
    have hx : 0 ≤ a ∧ a ≤ 255 := by simpa [Lit.wf, IntKind.min, IntKind.max, IntKind.signed, IntKind.bits] using w0
    refine ⟨UInt8.ofNat a.toNat, ?_⟩
    rw [List.getElem?_eq_getElem hil2]
    injection e0 with e0
    rw [e0]
    simp only [u8v, UInt8.toNat_ofNat']
    congr 2
    omega
  refine ⟨cs.toList.map u8of, ?_, by simp [hsz]⟩
  congr 1
  apply Array.ext'
  apply List.ext_getElem?
  intro i
  by_cases hi : i < 32
  · obtain ⟨b, hb⟩ := hcell i hi
    simp only [bv, List.getElem?_map, hb, Option.map_some, u8v, u8of]
    simp
  · rw [List.getElem?_eq_none (by simp [hsz]; omega), List.getElem?_eq_none (by simp [bv, hsz]; omega)]
end
end Go.Proofs.Ytjbelkpmbbkhgaa

