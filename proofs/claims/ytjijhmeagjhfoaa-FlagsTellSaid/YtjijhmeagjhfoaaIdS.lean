/- Ids: rows of them, sorted. -/
import Derived.Test.YtjijhmeagjhfoaaFlO
import Derived.Test.YtjijhmeagjhfoaaIdE
import Derived.Shelf.SlSortCmp.WholeK
import Derived.Shelf.SlSortCmp.NoneTotal
import Derived.Shelf.Abstract
import Derived.Ground.SlsfProg
import Derived.Ground.NamesProg
namespace Go.Proofs
open Go.Shelf Go.RowKit Go.Lib Go.Sort
def Try.sortIds_ren : Go.Shelf.Ren := ⟨fun | 6 => 39 | 15 => 46 | 14 => 45 | 28 => 56 | 29 => 57 | 20 => 48 | 21 => 49 | 22 => 50 | 23 => 51 | 24 => 52 | 25 => 53 | 26 => 54 | 27 => 55 | 46 => 59 | 47 => 60 | 48 => 61 | 49 => 62 | 50 => 63 | 57 => 64 | n => n, fun | 22 => 62 | 24 => 25 | 25 => 80 | 3 => 3 | 39 => 59 | 0 => 0 | 53 => 58 | 55 => 23 | 4 => 4 | 46 => 99 | 45 => 98 | 50 => 74 | 5 => 5 | 9 => 9 | 66 => 106 | 70 => 110 | 76 => 112 | 77 => 113 | n => n, fun | n => n⟩
theorem Try.sortIds : Go.Proofs.SlLaysF0.n6 Try.prog Try.sortIds_ren := {
  mixed := by kernel_rfl
  f6 := ⟨Try.f39.name, by decide, Try.func39.trans (congrArg some (by kernel_rfl))⟩
  f14 := ⟨Try.f45.name, by decide, Try.func45.trans (congrArg some (by kernel_rfl))⟩
  f15 := Try.func46.trans (congrArg some (by kernel_rfl))
  f20 := ⟨Try.f48.name, by decide, Try.func48.trans (congrArg some (by kernel_rfl))⟩
  f21 := ⟨Try.f49.name, by decide, Try.func49.trans (congrArg some (by kernel_rfl))⟩
  f22 := ⟨Try.f50.name, by decide, Try.func50.trans (congrArg some (by kernel_rfl))⟩
  f23 := ⟨Try.f51.name, by decide, Try.func51.trans (congrArg some (by kernel_rfl))⟩
  f24 := ⟨Try.f52.name, by decide, Try.func52.trans (congrArg some (by kernel_rfl))⟩
  f25 := ⟨Try.f53.name, by decide, Try.func53.trans (congrArg some (by kernel_rfl))⟩
  f26 := ⟨Try.f54.name, by decide, Try.func54.trans (congrArg some (by kernel_rfl))⟩
  f27 := ⟨Try.f55.name, by decide, Try.func55.trans (congrArg some (by kernel_rfl))⟩
  f28 := Try.func56.trans (congrArg some (by kernel_rfl))
  f29 := Try.func57.trans (congrArg some (by kernel_rfl))
  f46 := ⟨Try.f59.name, by decide, Try.func59.trans (congrArg some (by kernel_rfl))⟩
  f47 := Try.func60.trans (congrArg some (by kernel_rfl))
  f48 := Try.func61.trans (congrArg some (by kernel_rfl))
  f49 := ⟨Try.f62.name, by decide, Try.func62.trans (congrArg some (by kernel_rfl))⟩
  f50 := ⟨Try.f63.name, by decide, Try.func63.trans (congrArg some (by kernel_rfl))⟩
  f57 := ⟨Try.f64.name, by decide, Try.func64.trans (congrArg some (by kernel_rfl))⟩
  t0 := Try.underlying0
  a0 := Try.isAgg0
  z0 := Try.sizeOf0
  v0 := Try.zeroValue0
  t3 := Try.underlying3
  a3 := Try.isAgg3
  z3 := Try.sizeOf3
  v3 := Try.zeroValue3
  t4 := Try.underlying4
  a4 := Try.isAgg4
  z4 := Try.sizeOf4
  v4 := Try.zeroValue4
  t5 := Try.underlying5
  a5 := Try.isAgg5
  z5 := Try.sizeOf5
  v5 := Try.zeroValue5
  t9 := Try.underlying9
  a9 := Try.isAgg9
  z9 := Try.sizeOf9
  v9 := Try.zeroValue9
  t22 := Try.underlying62
  a22 := Try.isAgg62
  z22 := Try.sizeOf62
  v22 := Try.zeroValue62
  t25 := Try.underlying80
  a25 := Try.isAgg80
  z25 := Try.sizeOf80
  v25 := Try.zeroValue80
  t39 := Try.underlying59
  a39 := Try.isAgg59
  z39 := Try.sizeOf59
  v39 := Try.zeroValue59
  t45 := Try.underlying98
  a45 := Try.isAgg98
  z45 := Try.sizeOf98
  v45 := Try.zeroValue98
  t46 := Try.underlying99
  a46 := Try.isAgg99
  z46 := Try.sizeOf99
  v46 := Try.zeroValue99
  t50 := Try.underlying74
  a50 := Try.isAgg74
  z50 := Try.sizeOf74
  v50 := Try.zeroValue74
  t53 := Try.underlying58
  a53 := Try.isAgg58
  z53 := Try.sizeOf58
  v53 := Try.zeroValue58
  t55 := Try.underlying23
  a55 := Try.isAgg23
  z55 := Try.sizeOf23
  v55 := Try.zeroValue23
  t66 := Try.underlying106
  a66 := Try.isAgg106
  z66 := Try.sizeOf106
  v66 := Try.zeroValue106
  t70 := Try.underlying110
  a70 := Try.isAgg110
  z70 := Try.sizeOf110
  v70 := Try.zeroValue110
  t76 := Try.underlying112
  a76 := Try.isAgg112
  z76 := Try.sizeOf112
  v76 := Try.zeroValue112
  t77 := Try.underlying113
  a77 := Try.isAgg113
  z77 := Try.sizeOf113
  v77 := Try.zeroValue113 }
end Go.Proofs
namespace Go.Proofs.Ytjijhmeagjhfoaa
open Go.RowKit
open Go.Sort hiding Below
set_option maxRecDepth 20000

theorem ltOf_cmp (x y : ID) : ltOf cmpID x y = x.lt y := by
  unfold ltOf cmpID
  by_cases e : x = y
  · subst e; rw [if_pos rfl, ID.irrefl]; rfl
  · rw [if_neg e]
    cases x.lt y <;> rfl
theorem swo_cmp : Sort.SWO (ltOf cmpID) := {
  irrefl x := by rw [ltOf_cmp]; exact ID.irrefl x
  trans x y z h1 h2 := by rw [ltOf_cmp] at *; exact ID.trans h1 h2
  ntrans x y z h1 h2 := by
    rw [ltOf_cmp] at *
    cases h : x.lt z
    · rfl
    · cases h3 : y.lt x
      · have := ID.total h1 h3
        subst this
        rw [h] at h2; cases h2
      · have := ID.trans h3 h
        rw [this] at h2; cases h2 }
theorem cmpLays (blk off size : Nat) (w : World) : CmpLays Try.prog 32 #[] ID.cells 32 cmpID blk off size w :=
  fun _ _ _ _ x y => (order_any _ x y).mono fun _ _ ⟨h1, q, os', h2⟩ => ⟨h1, q, os', h2⟩
theorem getB (l : List ID) (i : Nat) (h : i < l.length) : l.toArray[i]! = l[i] := by
  rw [List.getElem!_toArray, List.getElem!_eq_getElem?_getD, List.getElem?_eq_getElem h]; rfl
theorem flat_eq (l : List ID) (t : Nat) (h : t < l.length * 32) : (EI.dv l)[t]? = some (flatK ID.cells 32 l.toArray)[t]! := by
  rw [get_flatK ID.cells 32 l.toArray t (by simpa using h)]
  have hk : t / 32 < l.length := by omega
  have e := EI.dv_get l (t / 32) (t % 32) (l[t / 32]) (List.getElem?_eq_getElem hk) (Nat.mod_lt _ (by omega))
  have e2 : t / 32 * EI.n + t % 32 = t := by show t / 32 * 32 + t % 32 = t; omega
  rw [e2] at e
  rw [e, getB l _ hk]
  have hlt : t % 32 < (ID.cells l[t / 32]).length := by rw [ID.cells, bv_len, (l[t / 32]).h]; exact Nat.mod_lt _ (by omega)
  show (ID.cells l[t / 32])[t % 32]? = _
  rw [List.getElem?_eq_getElem hlt]
  congr 1
  rw [List.getElem!_eq_getElem?_getD, List.getElem?_eq_getElem hlt]; rfl
theorem row_holds {w : World} {g : Nat} {l : List ID} (h : EI.Row w g l) : HoldsK ID.cells 32 w g 0 l.toArray := by
  intro j hj
  rw [size_flatK] at hj
  have hj' : j < l.length * 32 := by simpa using hj
  have := h.2 j _ (flat_eq l j hj')
  rw [Nat.zero_add]
  exact this
theorem holds_row {w : World} {g : Nat} {l : List ID} (h : HoldsK ID.cells 32 w g 0 l.toArray) (hg : g < w.heap.size) : EI.Row w g l := by
  refine ⟨hg, fun j u hu => ?_⟩
  have hlt : j < l.length * 32 := by have := (List.getElem?_eq_some_iff.1 hu).1; rw [EI.dv_len] at this; exact this
  rw [flat_eq l j hlt] at hu
  have h0 := h j (by rw [size_flatK]; simpa using hlt)
  rw [Nat.zero_add] at h0
  rw [← Option.some.inj hu]
  exact h0
theorem below_sorted {w : World} {g n B : Nat} {os : Array Obj} (d : Array ID) (hB : B ≤ g) (hb : B ≤ w.heap.size) : Below B w (sortWorldK ID.cells 32 w g 0 n d os) := by
  refine ⟨rfl, rfl, rfl, size_sortWorldK_c _ _ _ _ _ _ _ _, fun k hk => ?_⟩
  unfold sortWorldK putRowK
  rw [heap_grow_old _ _ (by simp [putRow, mapBlock, Sort.ahead]; omega)]
  have : g ≠ k := by omega
  simp [putRow, mapBlock, Sort.ahead, Array.getElem?_modify, this]
def SortedI (l l' : List ID) : Prop := l'.Perm l ∧ l'.Pairwise fun a b => b.lt a = false
theorem sorted_of {l l' : List ID} (hp : PermIn 0 l.toArray.size l.toArray l'.toArray) (hs : SortedIn (ltOf cmpID) 0 l.toArray.size l'.toArray) : SortedI l l' := by
  obtain ⟨h1, _, h3⟩ := hp
  have hl : l'.length = l.length := by simpa using h1
  have h3' : l'.Perm l := by
    simp only [List.size_toArray, List.extract_toArray, List.extract_eq_take_drop, List.drop_zero, Nat.sub_zero, List.take_length] at h3
    rwa [List.take_of_length_le (by omega)] at h3
  refine ⟨h3', ?_⟩
  rw [List.pairwise_iff_getElem]
  intro i j hi hj hij
  have := hs i j (Nat.zero_le _) hij (by simp; omega)
  rw [ltOf_cmp, getB l' j hj, getB l' i hi] at this
  exact this
set_option maxHeartbeats 1000000 in
theorem SortFunc_any (w : World) (base : Nat) (v : Value) (l : List ID) (hown : EI.Own w base v l) (hb : base ≤ w.heap.size) (hl : l.length < 4611686018427387904) :
    Calls Try.prog 39 #[v, .func (.func 32) #[] #[]] w fun e w' => e = .returned (.tuple #[]) ∧ ∃ l', SortedI l l' ∧ (l = [] ∧ (∃ A c, v = .slice A 0 c) ∨ ∃ g c, v = .slice (some ⟨g, 0, none⟩) l.length c ∧ base ≤ g ∧ EI.Row w' g l') ∧ Below base w w' := by
  rcases Nat.eq_zero_or_pos l.length with h0 | hpos
  · have := List.eq_nil_of_length_eq_zero h0
    subst this
    obtain ⟨A, c, rfl, _⟩ := hown.form
    refine (AnyF.slices_SortFunc_none (P := Try.prog) (ρ := Try.sortIds_ren) Try.sortIds A c (.func (.func 32) #[] #[]) w).mono ?_
    rintro e w' ⟨rfl, rfl⟩
    exact ⟨rfl, [], ⟨List.Perm.nil, List.Pairwise.nil⟩, .inl ⟨rfl, A, c, rfl⟩, Below.refl _ _⟩
  · obtain ⟨g, cap, rfl, hg, hgw, hc, hcm⟩ := hown.head hpos
    have hrow := hown.row
    have eg : ∀ args w, (callFunc 32 args).run Try.prog w = .ok (.enter 32 args) w := enters_of Try.func32 (by kernel_rfl) rfl
    have hcon := AnyQ.slices_SortFunc Try.sortIds 32 agg32 size32 ID.cells (fun x => by rw [ID.cells, bv_len, x.h]) (fun x => bv_one x.l) cmpID swo_cmp 32 #[] g 0 cap l.toArray w eg (cmpLays g 0 l.toArray.size w) (row_holds hrow) hgw (by simpa using hl)
    rw [List.size_toArray] at hcon
    refine Calls.mono hcon ?_
    rintro e w' ⟨rfl, d', n, os, hp, hs, rfl⟩
    obtain ⟨l', rfl⟩ : ∃ l' : List ID, d' = l'.toArray := ⟨d'.toList, by simp⟩
    have hso := sorted_of (by simpa using hp) (by simpa using hs)
    have hsize : l'.toArray.size = l.toArray.size := by simpa using hso.1.length_eq
    exact ⟨rfl, l', hso, .inr ⟨g, cap, rfl, hg, holds_row (holdsK_sortWorldK ID.cells 32 w g 0 n l.toArray l'.toArray os hgw (row_holds hrow) hsize) (lt_sortWorldK ID.cells 32 w g 0 n l'.toArray os hgw)⟩, below_sorted l'.toArray hg hb⟩
end Go.Proofs.Ytjijhmeagjhfoaa

