/- An argument that is a frame; bytes inside of what is handed in. -/
import Derived.Test.YtkgmbpbbgkjidaaFrame
import Derived.Test.YtkgmbpbbgkjidaaFr
import Derived.Lib.SmallJoins
import Derived.Deep.Slices
import Derived.Deep.Fields
import Derived.ChangeSame
namespace Go.Proofs.Ytkgmbpbbgkjidaa
open Go.RowKit
section
open Go.Joins Go.ChangeShapes Go.WideShapes Go.ChangeAt Go.RowKit Go.Deep
variable {H : Type} {enc : TypeId × Value → H} {W : World} {base : Nat} {t : TypeId} {v : Value} {d : DataW H} {p : List MemPlace}
theorem bv_ofInts (zs : List Int) (h : ∀ z ∈ zs, (Lit.int .u8 z).wf = true) : bv (zs.map (fun z => UInt8.ofNat z.toNat)) = zs.map (Value.int .u8) := by
  simp only [bv, List.map_map]
  refine List.map_congr_left fun z hz => ?_
  have hx : 0 ≤ z ∧ z ≤ 255 := by simpa [Lit.wf, IntKind.min, IntKind.max, IntKind.signed, IntKind.bits] using h z hz
  simp only [Function.comp, u8v, UInt8.toNat_ofNat']
  congr 1
  omega
theorem bytes_of_trod (n : Nat) (cs' : List Value) (y : DataW H × List MemPlace) (h : DataW.trod enc Try.prog W 0 (fun _ => true) true n 25 cs' = some y) :
    ∃ (A : Option Addr) (c : Nat) (l : List UInt8), cs' = [.slice A l.length c] ∧ Sl W W.heap.size A (bv l) ∧ l.length ≤ c ∧ c ≤ maxLen := by
  rcases open_ints Try.underlying25 Try.underlying5 (by kernel_rfl) h with ⟨hcs, hx⟩ | ⟨x, l, c, zs, hcs, _, hl, hm', hz, hx, hcell, hwz⟩
  · exact ⟨none, 0, [], by rw [hcs]; rfl, Sl.nil, by simp, by simp [maxLen]⟩
  · simp only [if_true] at hz
    have hlen : (zs.take l).length = l := by rw [List.length_take]; omega
    have hw : ∀ z ∈ zs.take l, (Lit.int .u8 z).wf = true := fun z hz' => hwz z (List.mem_of_mem_take hz')
    refine ⟨some x, c, (zs.take l).map (fun z => UInt8.ofNat z.toNat), by rw [hcs, List.length_map, hlen], ?_, by rw [List.length_map]; omega, hm'⟩
    rw [bv_ofInts _ hw]
    by_cases h0 : l = 0
    · subst h0; simp [Sl]
    · obtain ⟨b, o, spot⟩ := x
      have hc0 := hcell 0 (by omega)
      have hspot : spot = none := by simpa [Addr.add] using World.cell?_spot hc0
      subst hspot
      have hbl : b < W.heap.size := by
        have := World.block_lt_of_cell? W _ hc0
        simpa [Addr.add] using this
      refine .inr ⟨b, o, rfl, hbl, hbl, fun j u hu => ?_⟩
      have hj : j < l := by
        have := (List.getElem?_eq_some_iff.1 hu).1
        rw [List.length_map, hlen] at this; exact this
      have := hcell j (by omega)
      have e1 : (⟨b, o, none⟩ : Addr).add j = ⟨b, o + j, none⟩ := by
        unfold Addr.add
        split
        · rename_i h0; subst h0; rfl
        · rfl
      rw [e1] at this
      rw [this]
      rw [List.getElem?_map, List.getElem?_take, if_pos hj] at hu
      rw [← hu]
      simp [List.getD, List.getElem?_eq_getElem (show j < zs.length by omega)]
theorem array5 {α : Type} {cs : Array α} (h : cs.size = 5) : ∃ c0 c1 c2 c3 c4, cs = #[c0, c1, c2, c3, c4] := by
  obtain ⟨l⟩ := cs
  match l, h with
  | [c0, c1, c2, c3, c4], _ => exact ⟨c0, c1, c2, c3, c4, rfl⟩
theorem trod_struct5 {P : Program} {w : World} {base : Nat} {spare : Nat → Bool} {held : Bool} {f0 f1 f2 f3 f4 : Field} {fuel : Nat} {cs : List Value} {x : DataW H × List MemPlace} (ht : P.underlying t = some (.struct #[f0, f1, f2, f3, f4])) (h : DataW.trod enc P w base spare held fuel t cs = some x) :
    ∃ y0 y1 y2 y3 y4 n, cs.length = P.cellsOf t ∧ DataW.trod enc P w base spare held n f0.type ((cs.drop f0.offset).take (P.cellsOf f0.type)) = some y0 ∧
      DataW.trod enc P w base spare held n f1.type ((cs.drop f1.offset).take (P.cellsOf f1.type)) = some y1 ∧ DataW.trod enc P w base spare held n f2.type ((cs.drop f2.offset).take (P.cellsOf f2.type)) = some y2 ∧
      DataW.trod enc P w base spare held n f3.type ((cs.drop f3.offset).take (P.cellsOf f3.type)) = some y3 ∧ DataW.trod enc P w base spare held n f4.type ((cs.drop f4.offset).take (P.cellsOf f4.type)) = some y4 := by
  obtain ⟨xs, n, _, rfl, hl, hlen, hf⟩ := DataW.trod_struct ht h
  match xs, hlen with
  | [y0, y1, y2, y3, y4], _ => exact ⟨y0, y1, y2, y3, y4, n, hl, by simpa using hf 0 f0 rfl, by simpa using hf 1 f1 rfl, by simpa using hf 2 f2 rfl, by simpa using hf 3 f3 rfl, by simpa using hf 4 f4 rfl⟩
def Fr.ok (x : Fr) : Prop := (-9223372036854775808 ≤ x.k ∧ x.k ≤ 9223372036854775807) ∧ x.g < 4294967296 ∧ (-9223372036854775808 ≤ x.f ∧ x.f ≤ 9223372036854775807) ∧ (-9223372036854775808 ≤ x.t ∧ x.t ≤ 9223372036854775807)
theorem wf64 (a : Int) (h : (Lit.int .i64 a).wf = true) : -9223372036854775808 ≤ a ∧ a ≤ 9223372036854775807 := by
  simpa [Lit.wf, IntKind.min, IntKind.max, IntKind.signed, IntKind.bits] using h
theorem One.frame (h : One enc W base 47 v d p) : ∃ (x : Fr) (A : Option Addr) (c : Nat), v = x.v A c ∧ Sl W W.heap.size A (bv x.p) ∧ x.p.length ≤ c ∧ c ≤ maxLen ∧ x.ok := by
  obtain ⟨ok, rd, fits⟩ := h
  obtain ⟨cs, rfl, hsz⟩ := okWide_struct Try.underlying47 ok
  obtain ⟨c0, c1, c2, c3, c4, rfl⟩ := array5 (hsz.trans (by kernel_rfl))
  obtain ⟨fuel, hf⟩ := rd
  obtain ⟨y0, y1, y2, y3, y4, n, _, h0, h1, h2, h3, h4⟩ := trod_struct5 Try.underlying47 hf
  have k0 : Try.prog.cellsOf 3 = 1 := by kernel_rfl
  have k1 : Try.prog.cellsOf 45 = 1 := by kernel_rfl
  have k2 : Try.prog.cellsOf 25 = 1 := by kernel_rfl
  simp only [Value.cells, k0, k1, k2, List.drop, List.take] at h0 h1 h2 h3 h4
  obtain ⟨a0, e0, _, w0⟩ := DataW.trod_int (k := .i64) Try.underlying3 h0
  obtain ⟨a1, e1, _, w1⟩ := DataW.trod_int (k := .u32) Try.underlying45 h1
  obtain ⟨a2, e2, _, w2⟩ := DataW.trod_int (k := .i64) Try.underlying3 h2
  obtain ⟨a3, e3, _, w3⟩ := DataW.trod_int (k := .i64) Try.underlying3 h3
  obtain ⟨A, c, l, e4, hs, hc, hm⟩ := bytes_of_trod _ _ _ h4
  cases e0; cases e1; cases e2; cases e3
  injection e4 with e4 _
  subst e4
  obtain ⟨q1, q2⟩ := wf_u32' a1 w1
  refine ⟨⟨a0, a1.toNat, a2, a3, l⟩, A, c, ?_, hs, hc, hm, wf64 a0 w0, ?_, wf64 a2 w2, wf64 a3 w3⟩
  · unfold Fr.v
    simp only
    rw [Int.toNat_of_nonneg q1]
  · simp only; omega
end
end Go.Proofs.Ytkgmbpbbgkjidaa

