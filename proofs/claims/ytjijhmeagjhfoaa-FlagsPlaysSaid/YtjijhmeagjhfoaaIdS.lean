/- Ids: rows of them, sorted. -/
import Derived.Test.YtjijhmeagjhfoaaFlO
import Derived.Test.YtjijhmeagjhfoaaIdE
import Derived.Shelf.SlSortCmp.WholeK
import Derived.Shelf.SlSortCmp.NoneTotal
import Derived.Shelf.Lay
import Derived.Ground.SlsfProg
import Derived.Ground.NamesProg
namespace Go.Proofs
open Go.Shelf Go.RowKit Go.Lib Go.Sort
shelf_lay_g SlLaysF0.n6 Slsf 6 at Try 39 as Try.sortIds
end Go.Proofs
namespace Go.Proofs.Ytjijhmeagjhfoaa
open Go.RowKit
open Go.Sort hiding Below
set_option maxRecDepth 20000

theorem ltOf_cmp (x y : ID) : ltOf cmpID x y = x.lt y := by
  unfold ltOf cmpID
  by_cases e : x = y
  · subst e; rw [if_pos rfl, ID.irrefl]; rfl
  · rw [if_neg e]
    cases x.lt y <;> rfl
theorem swo_cmp : Sort.SWO (ltOf cmpID) where
  irrefl x := by rw [ltOf_cmp]; exact ID.irrefl x
  trans x y z h1 h2 := by rw [ltOf_cmp] at *; exact ID.trans h1 h2
  ntrans x y z h1 h2 := by
    rw [ltOf_cmp] at *
    cases h : x.lt z
    · rfl
    · cases h3 : y.lt x
      · have := ID.total h1 h3
        subst this
        rw [h] at h2; cases h2
      · have := ID.trans h3 h
        rw [this] at h2; cases h2
theorem cmpLays (blk off size : Nat) (w : World) : CmpLays Try.prog 32 #[] ID.cells 32 cmpID blk off size w :=
  fun _ _ _ _ x y => (order_any _ x y).mono fun _ _ ⟨h1, q, os', h2⟩ => ⟨h1, q, os', h2⟩
theorem getB (l : List ID) (i : Nat) (h : i < l.length) : l.toArray[i]! = l[i] := by
  rw [List.getElem!_toArray, List.getElem!_eq_getElem?_getD, List.getElem?_eq_getElem h]; rfl
theorem flat_eq (l : List ID) (t : Nat) (h : t < l.length * 32) : (EI.dv l)[t]? = some (flatK ID.cells 32 l.toArray)[t]! := by
  rw [get_flatK ID.cells 32 l.toArray t (by simpa using h)]
  have hk : t / 32 < l.length := by omega
  have e := EI.dv_get l (t / 32) (t % 32) (l[t / 32]) (List.getElem?_eq_getElem hk) (Nat.mod_lt _ (by omega))
  have e2 : t / 32 * EI.n + t % 32 = t := by show t / 32 * 32 + t % 32 = t; omega
  rw [e2] at e
  rw [e, getB l _ hk]
  have hlt : t % 32 < (ID.cells l[t / 32]).length := by rw [ID.cells, bv_len, (l[t / 32]).h]; exact Nat.mod_lt _ (by omega)
  show (ID.cells l[t / 32])[t % 32]? = _
  rw [List.getElem?_eq_getElem hlt]
  congr 1
  rw [List.getElem!_eq_getElem?_getD, List.getElem?_eq_getElem hlt]; rfl
theorem row_holds {w : World} {g : Nat} {l : List ID} (h : EI.Row w g l) : HoldsK ID.cells 32 w g 0 l.toArray := by
  intro j hj
  rw [size_flatK] at hj
  have hj' : j < l.length * 32 := by simpa using hj
  have := h.2 j _ (flat_eq l j hj')
  rw [Nat.zero_add]
  exact this
theorem holds_row {w : World} {g : Nat} {l : List ID} (h : HoldsK ID.cells 32 w g 0 l.toArray) (hg : g < w.heap.size) : EI.Row w g l := by
  refine ⟨hg, fun j u hu => ?_⟩
  have hlt : j < l.length * 32 := by have := (List.getElem?_eq_some_iff.1 hu).1; rw [EI.dv_len] at this; exact this
  rw [flat_eq l j hlt] at hu
  have h0 := h j (by rw [size_flatK]; simpa using hlt)
  rw [Nat.zero_add] at h0
  rw [← Option.some.inj hu]
  exact h0
theorem below_sorted {w : World} {g n B : Nat} {os : Array Obj} (d : Array ID) (hB : B ≤ g) (hb : B ≤ w.heap.size) : Below B w (sortWorldK ID.cells 32 w g 0 n d os) := by
  refine ⟨rfl, rfl, rfl, size_sortWorldK_c _ _ _ _ _ _ _ _, fun k hk => ?_⟩
  unfold sortWorldK putRowK
  rw [heap_grow_old _ _ (by simp [putRow, mapBlock, Sort.ahead]; omega)]
  have : g ≠ k := by omega
  simp [putRow, mapBlock, Sort.ahead, Array.getElem?_modify, this]
def SortedI (l l' : List ID) : Prop := l'.Perm l ∧ l'.Pairwise fun a b => b.lt a = false
theorem sorted_of {l l' : List ID} (hp : PermIn 0 l.toArray.size l.toArray l'.toArray) (hs : SortedIn (ltOf cmpID) 0 l.toArray.size l'.toArray) : SortedI l l' := by
  obtain ⟨h1, _, h3⟩ := hp
  have hl : l'.length = l.length := by simpa using h1
  have h3' : l'.Perm l := by
    simp only [List.size_toArray, List.extract_toArray, List.extract_eq_take_drop, List.drop_zero, Nat.sub_zero, List.take_length] at h3
    rwa [List.take_of_length_le (by omega)] at h3
  refine ⟨h3', ?_⟩
  rw [List.pairwise_iff_getElem]
  intro i j hi hj hij
  have := hs i j (Nat.zero_le _) hij (by simp; omega)
  rw [ltOf_cmp, getB l' j hj, getB l' i hi] at this
  exact this
set_option maxHeartbeats 1000000 in
theorem SortFunc_any (w : World) (base : Nat) (v : Value) (l : List ID) (hown : EI.Own w base v l) (hb : base ≤ w.heap.size) (hl : l.length < 4611686018427387904) :
    Calls Try.prog 39 #[v, .func (.func 32) #[] #[]] w fun e w' => e = .returned (.tuple #[]) ∧ ∃ l', SortedI l l' ∧ (l = [] ∧ (∃ A c, v = .slice A 0 c) ∨ ∃ g c, v = .slice (some ⟨g, 0, none⟩) l.length c ∧ base ≤ g ∧ EI.Row w' g l') ∧ Below base w w' := by
  rcases Nat.eq_zero_or_pos l.length with h0 | hpos
  · have := List.eq_nil_of_length_eq_zero h0
    subst this
    obtain ⟨A, c, rfl, _⟩ := hown.form
    refine (AnyF.slices_SortFunc_none (P := Try.prog) (ρ := Try.sortIds_ren) Try.sortIds A c (.func (.func 32) #[] #[]) w).mono ?_
    rintro e w' ⟨rfl, rfl⟩
    exact ⟨rfl, [], ⟨List.Perm.nil, List.Pairwise.nil⟩, .inl ⟨rfl, A, c, rfl⟩, Below.refl _ _⟩
  · obtain ⟨g, cap, rfl, hg, hgw, hc, hcm⟩ := hown.head hpos
    have hrow := hown.row
    have eg : ∀ args w, (callFunc 32 args).run Try.prog w = .ok (.enter 32 args) w := enters_of Try.func32 (by kernel_rfl) rfl
    have hcon := AnyQ.slices_SortFunc Try.sortIds 32 agg32 size32 ID.cells (fun x => by rw [ID.cells, bv_len, x.h]) (fun x => bv_one x.l) cmpID swo_cmp 32 #[] g 0 cap l.toArray w eg (cmpLays g 0 l.toArray.size w) (row_holds hrow) hgw (by simpa using hl)
    rw [List.size_toArray] at hcon
    refine Calls.mono hcon ?_
    rintro e w' ⟨rfl, d', n, os, hp, hs, rfl⟩
    obtain ⟨l', rfl⟩ : ∃ l' : List ID, d' = l'.toArray := ⟨d'.toList, by simp⟩
    have hso := sorted_of (by simpa using hp) (by simpa using hs)
    have hsize : l'.toArray.size = l.toArray.size := by simpa using hso.1.length_eq
    exact ⟨rfl, l', hso, .inr ⟨g, cap, rfl, hg, holds_row (holdsK_sortWorldK ID.cells 32 w g 0 n l.toArray l'.toArray os hgw (row_holds hrow) hsize) (lt_sortWorldK ID.cells 32 w g 0 n l'.toArray os hgw)⟩, below_sorted l'.toArray hg hb⟩
end Go.Proofs.Ytjijhmeagjhfoaa

