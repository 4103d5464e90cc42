/- Dots: Clone and SortFunc of rows of them. -/
import Derived.Test.YtdpkmabojlihmaaRgA
import Derived.Test.YtdpkmabojlihmaaCmp
import Derived.Shelf.SlSortCmp.WholeK
import Derived.Shelf.SlSortCmp.NoneTotal
import Derived.Shelf.Abstract
import Derived.Ground.SlsfProg
import Derived.Ground.NamesProg
namespace Go.Proofs
open Go.Shelf Go.RowKit Go.Lib Go.Sort
def Try.sortRgs_ren : Go.Shelf.Ren := ⟨fun | 6 => 32 | 15 => 37 | 14 => 36 | 28 => 47 | 29 => 48 | 20 => 39 | 21 => 40 | 22 => 41 | 23 => 42 | 24 => 43 | 25 => 44 | 26 => 45 | 27 => 46 | 46 => 49 | 47 => 50 | 48 => 51 | 49 => 52 | 50 => 53 | 57 => 54 | n => n, fun | 22 => 22 | 24 => 24 | 25 => 51 | 3 => 3 | 39 => 54 | 0 => 0 | 53 => 65 | 55 => 39 | 4 => 4 | 46 => 58 | 45 => 57 | 50 => 62 | 5 => 5 | 9 => 9 | 66 => 67 | 70 => 71 | 76 => 73 | 77 => 74 | n => n, fun | n => n⟩
theorem Try.sortRgs : Go.Proofs.SlLaysF0.n6 Try.prog Try.sortRgs_ren := {
  mixed := by kernel_rfl
  f6 := ⟨Try.f32.name, by decide, Try.func32.trans (congrArg some (by kernel_rfl))⟩
  f14 := ⟨Try.f36.name, by decide, Try.func36.trans (congrArg some (by kernel_rfl))⟩
  f15 := Try.func37.trans (congrArg some (by kernel_rfl))
  f20 := ⟨Try.f39.name, by decide, Try.func39.trans (congrArg some (by kernel_rfl))⟩
  f21 := ⟨Try.f40.name, by decide, Try.func40.trans (congrArg some (by kernel_rfl))⟩
  f22 := ⟨Try.f41.name, by decide, Try.func41.trans (congrArg some (by kernel_rfl))⟩
  f23 := ⟨Try.f42.name, by decide, Try.func42.trans (congrArg some (by kernel_rfl))⟩
  f24 := ⟨Try.f43.name, by decide, Try.func43.trans (congrArg some (by kernel_rfl))⟩
  f25 := ⟨Try.f44.name, by decide, Try.func44.trans (congrArg some (by kernel_rfl))⟩
  f26 := ⟨Try.f45.name, by decide, Try.func45.trans (congrArg some (by kernel_rfl))⟩
  f27 := ⟨Try.f46.name, by decide, Try.func46.trans (congrArg some (by kernel_rfl))⟩
  f28 := Try.func47.trans (congrArg some (by kernel_rfl))
  f29 := Try.func48.trans (congrArg some (by kernel_rfl))
  f46 := ⟨Try.f49.name, by decide, Try.func49.trans (congrArg some (by kernel_rfl))⟩
  f47 := Try.func50.trans (congrArg some (by kernel_rfl))
  f48 := Try.func51.trans (congrArg some (by kernel_rfl))
  f49 := ⟨Try.f52.name, by decide, Try.func52.trans (congrArg some (by kernel_rfl))⟩
  f50 := ⟨Try.f53.name, by decide, Try.func53.trans (congrArg some (by kernel_rfl))⟩
  f57 := ⟨Try.f54.name, by decide, Try.func54.trans (congrArg some (by kernel_rfl))⟩
  t0 := Try.underlying0
  a0 := Try.isAgg0
  z0 := Try.sizeOf0
  v0 := Try.zeroValue0
  t3 := Try.underlying3
  a3 := Try.isAgg3
  z3 := Try.sizeOf3
  v3 := Try.zeroValue3
  t4 := Try.underlying4
  a4 := Try.isAgg4
  z4 := Try.sizeOf4
  v4 := Try.zeroValue4
  t5 := Try.underlying5
  a5 := Try.isAgg5
  z5 := Try.sizeOf5
  v5 := Try.zeroValue5
  t9 := Try.underlying9
  a9 := Try.isAgg9
  z9 := Try.sizeOf9
  v9 := Try.zeroValue9
  t22 := Try.underlying22
  a22 := Try.isAgg22
  z22 := Try.sizeOf22
  v22 := Try.zeroValue22
  t25 := Try.underlying51
  a25 := Try.isAgg51
  z25 := Try.sizeOf51
  v25 := Try.zeroValue51
  t39 := Try.underlying54
  a39 := Try.isAgg54
  z39 := Try.sizeOf54
  v39 := Try.zeroValue54
  t45 := Try.underlying57
  a45 := Try.isAgg57
  z45 := Try.sizeOf57
  v45 := Try.zeroValue57
  t46 := Try.underlying58
  a46 := Try.isAgg58
  z46 := Try.sizeOf58
  v46 := Try.zeroValue58
  t50 := Try.underlying62
  a50 := Try.isAgg62
  z50 := Try.sizeOf62
  v50 := Try.zeroValue62
  t53 := Try.underlying65
  a53 := Try.isAgg65
  z53 := Try.sizeOf65
  v53 := Try.zeroValue65
  t55 := Try.underlying39
  a55 := Try.isAgg39
  z55 := Try.sizeOf39
  v55 := Try.zeroValue39
  t66 := Try.underlying67
  a66 := Try.isAgg67
  z66 := Try.sizeOf67
  v66 := Try.zeroValue67
  t70 := Try.underlying71
  a70 := Try.isAgg71
  z70 := Try.sizeOf71
  v70 := Try.zeroValue71
  t76 := Try.underlying73
  a76 := Try.isAgg73
  z76 := Try.sizeOf73
  v76 := Try.zeroValue73
  t77 := Try.underlying74
  a77 := Try.isAgg74
  z77 := Try.sizeOf74
  v77 := Try.zeroValue74 }
end Go.Proofs
namespace Go.Proofs.Ytdpkmabojlihmaa
open Go.RowKit Go.Proofs.Ytdpkmabojlihmaa.Pl Go.Proofs.Ytdpkmabojlihmaa.Sp
open Go.Sort hiding Below

def cmpRg (x y : Rg) : Int := cmp3 x.a y.a
set_option maxRecDepth 100000 in
theorem cmpR_any (w : World) (s t : Rg) :
    Calls Try.prog 33 #[s.v, t.v] w fun e w' => e = .returned (.int .i64 (cmpRg s t)) ∧ Grew w w' ∧ Below w.heap.size w w' := by
  unfold Rg.v cmpRg
  obtain ⟨r, q⟩ := s
  obtain ⟨r', q'⟩ := t
  have hg : Grew w ((w.alloc (.cells #[.int .i64 r, .int .i64 q] 24)).alloc (.cells #[.int .i64 r', .int .i64 q'] 24)) := ⟨0, _, by
    rw [alloc_eq_grow, alloc_eq_grow, grow_grow]; rfl⟩
  have hb := balloc (balloc (Below.refl w.heap.size w) (.cells #[.int .i64 r, .int .i64 q] 24)) (.cells #[.int .i64 r', .int .i64 q'] 24)
  go_enter Try.func33, Try.ntmps33
  go_wp2_with (go_at_call 34; refine (Compare_int64 _ _ _).mono ?_; rintro e w' ⟨rfl, rfl⟩)
  go_ret
  exact ⟨rfl, hg, hb⟩
theorem ltOf_cmpR (x y : Rg) : ltOf cmpRg x y = decide (x.a < y.a) := by
  unfold ltOf cmpRg cmp3
  rw [decide_eq_decide]
  (repeat' split) <;> omega
theorem swo_cmpR : Sort.SWO (ltOf cmpRg) := {
  irrefl x := by rw [ltOf_cmpR, decide_eq_false_iff_not]; omega
  trans x y z h1 h2 := by rw [ltOf_cmpR, decide_eq_true_eq] at *; omega
  ntrans x y z h1 h2 := by rw [ltOf_cmpR, decide_eq_false_iff_not] at *; omega }
theorem cmpLaysR (blk off size : Nat) (w : World) : CmpLays Try.prog 33 #[] Rg.cells 2 cmpRg blk off size w :=
  fun _ _ _ _ x y => (cmpR_any _ x y).mono fun _ _ ⟨h1, ⟨q, os', h2⟩, _⟩ => ⟨h1, q, os', h2⟩
theorem rgAgg (w : World) : (isAgg 24).run Try.prog w = .ok true w := by first | exact Try.isAgg24 w | go_simp
theorem rgSize (w : World) : (Go.sizeOf 24).run Try.prog w = .ok 2 w := by first | exact Try.sizeOf24 w | go_simp
theorem flat_get2R (l : List Rg) (t : Nat) (h : t < l.length * 2) : (flatK Rg.cells 2 l.toArray)[t]! = (if t % 2 = 0 then Value.int .i64 (l[t / 2]?.getD ⟨0, 0⟩).a else Value.int .i64 (l[t / 2]?.getD ⟨0, 0⟩).b) := by
  rw [get_flatK Rg.cells 2 l.toArray t (by simpa using h)]
  have hk : t / 2 < l.length := by omega
  have e : (l.toArray)[t / 2]! = l[t / 2]?.getD ⟨0, 0⟩ := by
    rw [List.getElem!_toArray, List.getElem!_eq_getElem?_getD]; rfl
  rw [e]
  generalize l[t / 2]?.getD ⟨0, 0⟩ = x
  rcases (by omega : t % 2 = 0 ∨ t % 2 = 1) with e | e
  · rw [e, if_pos rfl]; rfl
  · rw [e, if_neg (by omega)]; rfl
theorem row_holdsR {w : World} {g : Nat} {l : List Rg} (h : RowR w g l) : HoldsK Rg.cells 2 w g 0 l.toArray := by
  intro j hj
  rw [size_flatK] at hj
  have hj' : j < l.length * 2 := by simpa using hj
  obtain ⟨h1, h2, h3, h4⟩ := h.2 (j / 2) (by omega)
  show w.cell? ⟨g, 0 + j, none⟩ = some (flatK Rg.cells 2 l.toArray)[j]! ∧ _
  rw [flat_get2R l j hj', Nat.zero_add]
  rcases (by omega : j % 2 = 0 ∨ j % 2 = 1) with e | e
  · rw [if_pos e, show j = j / 2 * 2 by omega]
    rw [show j / 2 * 2 / 2 = j / 2 by omega]
    exact ⟨h1, h3⟩
  · rw [if_neg (by omega)]
    have e' : j / 2 * 2 + 1 = j := by omega
    rw [e'] at h2 h4
    exact ⟨h2, h4⟩
theorem holds_rowR {w : World} {g : Nat} {l : List Rg} (h : HoldsK Rg.cells 2 w g 0 l.toArray) (hg : g < w.heap.size) : RowR w g l := by
  refine ⟨hg, fun k hk => ?_⟩
  have h0 := h (k * 2) (by rw [size_flatK]; simp; omega)
  have h1 := h (k * 2 + 1) (by rw [size_flatK]; simp; omega)
  rw [Nat.zero_add] at h0 h1
  have f0 := flat_get2R l (k * 2) (by omega)
  have f1 := flat_get2R l (k * 2 + 1) (by omega)
  rw [if_pos (by omega), show k * 2 / 2 = k by omega] at f0
  rw [if_neg (by omega), show (k * 2 + 1) / 2 = k by omega] at f1
  exact ⟨h0.1.trans (congrArg some f0), h1.1.trans (congrArg some f1), h0.2, h1.2⟩
theorem below_sortedR {w : World} {g n B : Nat} {os : Array Obj} (d : Array Rg) (hB : B ≤ g) (hb : B ≤ w.heap.size) : Below B w (sortWorldK Rg.cells 2 w g 0 n d os) := by
  · refine ⟨rfl, rfl, rfl, size_sortWorldK_c _ _ _ _ _ _ _ _, fun k hk => ?_⟩
    unfold sortWorldK putRowK
    rw [heap_grow_old _ _ (by simp [putRow, mapBlock, Sort.ahead]; omega)]
    have : g ≠ k := by omega
    simp [putRow, mapBlock, Sort.ahead, Array.getElem?_modify, this]
def SortedR (l l' : List Rg) : Prop := l'.length = l.length ∧ (∀ z, z ∈ l' ↔ z ∈ l) ∧ l'.Pairwise fun a b => a.a ≤ b.a
theorem get_bangR (l : List Rg) (i : Nat) (h : i < l.length) : l.toArray[i]! = l[i] := by
  rw [List.getElem!_toArray, List.getElem!_eq_getElem?_getD, List.getElem?_eq_getElem h]; rfl
theorem sorted_ofR {l l' : List Rg} (hp : PermIn 0 l.toArray.size l.toArray l'.toArray) (hs : SortedIn (ltOf cmpRg) 0 l.toArray.size l'.toArray) : SortedR l l' := by
  obtain ⟨h1, _, h3⟩ := hp
  have hl : l'.length = l.length := by simpa using h1
  have h3' : l'.Perm l := by
    simp only [List.size_toArray, List.extract_toArray, List.extract_eq_take_drop, List.drop_zero, Nat.sub_zero, List.take_length] at h3
    rwa [List.take_of_length_le (by omega)] at h3
  refine ⟨hl, fun z => h3'.mem_iff, ?_⟩
  rw [List.pairwise_iff_getElem]
  intro i j hi hj hij
  have := hs i j (Nat.zero_le _) hij (by simp; omega)
  rw [ltOf_cmpR, get_bangR l' j hj, get_bangR l' i hi] at this
  rw [decide_eq_false_iff_not] at this
  omega
set_option maxHeartbeats 1000000 in
theorem SortFuncR_any (w : World) (base : Nat) (v : Value) (l : List Rg) (hown : OwnR w base v l) (hb : base ≤ w.heap.size) (hl : l.length < 4611686018427387904) :
    Calls Try.prog 32 #[v, .func (.func 33) #[] #[]] w fun e w' => e = .returned (.tuple #[]) ∧ ∃ l', SortedR l l' ∧ (l = [] ∨ ∃ g c, v = .slice (some ⟨g, 0, none⟩) l.length c ∧ base ≤ g ∧ RowR w' g l') ∧ Below base w w' := by
  rcases Nat.eq_zero_or_pos l.length with h0 | hpos
  · have := List.eq_nil_of_length_eq_zero h0
    subst this
    obtain ⟨A, c, rfl, _⟩ := hown.form
    refine (AnyF.slices_SortFunc_none (P := Try.prog) (ρ := Try.sortRgs_ren) Try.sortRgs A c (.func (.func 33) #[] #[]) w).mono ?_
    rintro e w' ⟨rfl, rfl⟩
    exact ⟨rfl, [], ⟨rfl, fun _ => Iff.rfl, List.Pairwise.nil⟩, .inl rfl, Below.refl _ _⟩
  · obtain ⟨g, cap, rfl, hg, hgw, hc, hcm⟩ := hown.head hpos
    have hrow := hown.row2
    have eg : ∀ args w, (callFunc 33 args).run Try.prog w = .ok (.enter 33 args) w := enters_of Try.func33 (by kernel_rfl) rfl
    have hcon := AnyQ.slices_SortFunc Try.sortRgs 2 rgAgg rgSize Rg.cells (fun _ => rfl) (fun x v hv => by simp [Rg.cells] at hv; rcases hv with rfl | rfl <;> rfl) cmpRg swo_cmpR 33 #[] g 0 cap l.toArray w eg (cmpLaysR g 0 l.toArray.size w) (row_holdsR hrow) hgw (by simpa using hl)
    rw [List.size_toArray] at hcon
    refine Calls.mono hcon ?_
    rintro e w' ⟨rfl, d', n, os, hp, hs, rfl⟩
    obtain ⟨l', rfl⟩ : ∃ l' : List Rg, d' = l'.toArray := ⟨d'.toList, by simp⟩
    have hso := sorted_ofR (by simpa using hp) (by simpa using hs)
    have hsize : l'.toArray.size = l.toArray.size := by simpa using hso.1
    exact ⟨rfl, l', hso, .inr ⟨g, cap, rfl, hg, holds_rowR (holdsK_sortWorldK Rg.cells 2 w g 0 n l.toArray l'.toArray os hgw (row_holdsR hrow) hsize) (lt_sortWorldK Rg.cells 2 w g 0 n l'.toArray os hgw)⟩, below_sortedR l'.toArray hg hb⟩
end Go.Proofs.Ytdpkmabojlihmaa

