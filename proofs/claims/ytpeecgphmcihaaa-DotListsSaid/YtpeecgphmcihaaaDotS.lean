/- Dots: Clone and SortFunc of rows of them. -/
import Derived.Test.YtpeecgphmcihaaaDotA
import Derived.Shelf.SlSortCmp.WholeK
import Derived.Shelf.SlSortCmp.NoneTotal
import Derived.Shelf.Abstract
import Derived.Ground.SlsfProg
import Derived.Ground.NamesProg
namespace Go.Proofs
open Go.Shelf Go.RowKit Go.Lib Go.Sort
def Try.sortDots_ren : Go.Shelf.Ren := ⟨fun | 6 => 28 | 15 => 40 | 14 => 39 | 28 => 52 | 29 => 53 | 20 => 44 | 21 => 45 | 22 => 46 | 23 => 47 | 24 => 48 | 25 => 49 | 26 => 50 | 27 => 51 | 46 => 54 | 47 => 55 | 48 => 56 | 49 => 57 | 50 => 58 | 57 => 59 | n => n, fun | 22 => 25 | 24 => 23 | 25 => 54 | 3 => 3 | 39 => 59 | 0 => 0 | 53 => 83 | 55 => 38 | 4 => 4 | 46 => 76 | 45 => 75 | 50 => 80 | 5 => 5 | 9 => 9 | 66 => 85 | 70 => 89 | 76 => 91 | 77 => 92 | n => n, fun | n => n⟩
theorem Try.sortDots : Go.Proofs.SlLaysF0.n6 Try.prog Try.sortDots_ren := {
  mixed := by kernel_rfl
  f6 := ⟨Try.f28.name, by decide, Try.func28.trans (congrArg some (by kernel_rfl))⟩
  f14 := ⟨Try.f39.name, by decide, Try.func39.trans (congrArg some (by kernel_rfl))⟩
  f15 := Try.func40.trans (congrArg some (by kernel_rfl))
  f20 := ⟨Try.f44.name, by decide, Try.func44.trans (congrArg some (by kernel_rfl))⟩
  f21 := ⟨Try.f45.name, by decide, Try.func45.trans (congrArg some (by kernel_rfl))⟩
  f22 := ⟨Try.f46.name, by decide, Try.func46.trans (congrArg some (by kernel_rfl))⟩
  f23 := ⟨Try.f47.name, by decide, Try.func47.trans (congrArg some (by kernel_rfl))⟩
  f24 := ⟨Try.f48.name, by decide, Try.func48.trans (congrArg some (by kernel_rfl))⟩
  f25 := ⟨Try.f49.name, by decide, Try.func49.trans (congrArg some (by kernel_rfl))⟩
  f26 := ⟨Try.f50.name, by decide, Try.func50.trans (congrArg some (by kernel_rfl))⟩
  f27 := ⟨Try.f51.name, by decide, Try.func51.trans (congrArg some (by kernel_rfl))⟩
  f28 := Try.func52.trans (congrArg some (by kernel_rfl))
  f29 := Try.func53.trans (congrArg some (by kernel_rfl))
  f46 := ⟨Try.f54.name, by decide, Try.func54.trans (congrArg some (by kernel_rfl))⟩
  f47 := Try.func55.trans (congrArg some (by kernel_rfl))
  f48 := Try.func56.trans (congrArg some (by kernel_rfl))
  f49 := ⟨Try.f57.name, by decide, Try.func57.trans (congrArg some (by kernel_rfl))⟩
  f50 := ⟨Try.f58.name, by decide, Try.func58.trans (congrArg some (by kernel_rfl))⟩
  f57 := ⟨Try.f59.name, by decide, Try.func59.trans (congrArg some (by kernel_rfl))⟩
  t0 := Try.underlying0
  a0 := Try.isAgg0
  z0 := Try.sizeOf0
  v0 := Try.zeroValue0
  t3 := Try.underlying3
  a3 := Try.isAgg3
  z3 := Try.sizeOf3
  v3 := Try.zeroValue3
  t4 := Try.underlying4
  a4 := Try.isAgg4
  z4 := Try.sizeOf4
  v4 := Try.zeroValue4
  t5 := Try.underlying5
  a5 := Try.isAgg5
  z5 := Try.sizeOf5
  v5 := Try.zeroValue5
  t9 := Try.underlying9
  a9 := Try.isAgg9
  z9 := Try.sizeOf9
  v9 := Try.zeroValue9
  t22 := Try.underlying25
  a22 := Try.isAgg25
  z22 := Try.sizeOf25
  v22 := Try.zeroValue25
  t25 := Try.underlying54
  a25 := Try.isAgg54
  z25 := Try.sizeOf54
  v25 := Try.zeroValue54
  t39 := Try.underlying59
  a39 := Try.isAgg59
  z39 := Try.sizeOf59
  v39 := Try.zeroValue59
  t45 := Try.underlying75
  a45 := Try.isAgg75
  z45 := Try.sizeOf75
  v45 := Try.zeroValue75
  t46 := Try.underlying76
  a46 := Try.isAgg76
  z46 := Try.sizeOf76
  v46 := Try.zeroValue76
  t50 := Try.underlying80
  a50 := Try.isAgg80
  z50 := Try.sizeOf80
  v50 := Try.zeroValue80
  t53 := Try.underlying83
  a53 := Try.isAgg83
  z53 := Try.sizeOf83
  v53 := Try.zeroValue83
  t55 := Try.underlying38
  a55 := Try.isAgg38
  z55 := Try.sizeOf38
  v55 := Try.zeroValue38
  t66 := Try.underlying85
  a66 := Try.isAgg85
  z66 := Try.sizeOf85
  v66 := Try.zeroValue85
  t70 := Try.underlying89
  a70 := Try.isAgg89
  z70 := Try.sizeOf89
  v70 := Try.zeroValue89
  t76 := Try.underlying91
  a76 := Try.isAgg91
  z76 := Try.sizeOf91
  v76 := Try.zeroValue91
  t77 := Try.underlying92
  a77 := Try.isAgg92
  z77 := Try.sizeOf92
  v77 := Try.zeroValue92 }
end Go.Proofs
namespace Go.Proofs.Ytpeecgphmcihaaa
open Go.RowKit Go.Proofs.Ytpeecgphmcihaaa.Pl Go.Proofs.Ytpeecgphmcihaaa.Dt
open Go.Sort hiding Below

theorem ltOf_cmp (x y : D2) : ltOf cmpD2 x y = x.lt y := by
  unfold ltOf
  exact cmpD2_lt x y
theorem swo_cmp : Sort.SWO (ltOf cmpD2) := {
  irrefl x := by rw [ltOf_cmp]; exact lt_irrefl x
  trans x y z h1 h2 := by rw [ltOf_cmp] at *; exact lt_trans h1 h2
  ntrans x y z h1 h2 := by
    rw [ltOf_cmp] at *
    rw [lt_false] at *
    omega }
theorem cmpLays (blk off size : Nat) (w : World) : CmpLays Try.prog 26 #[] D2.cells 2 cmpD2 blk off size w :=
  fun _ _ _ _ x y => (order_any _ x y).mono fun _ _ ⟨h1, ⟨q, os', h2⟩, _⟩ => ⟨h1, q, os', h2⟩
theorem dotAgg (w : World) : (isAgg 23).run Try.prog w = .ok true w := by first | exact Try.isAgg23 w | go_simp
theorem dotSize (w : World) : (Go.sizeOf 23).run Try.prog w = .ok 2 w := by first | exact Try.sizeOf23 w | go_simp
theorem flat_get2 (l : List D2) (t : Nat) (h : t < l.length * 2) : (flatK D2.cells 2 l.toArray)[t]! = (if t % 2 = 0 then Value.int .i64 (l[t / 2]?.getD ⟨0, 0⟩).r else Value.int .i64 (l[t / 2]?.getD ⟨0, 0⟩).q) := by
  rw [get_flatK D2.cells 2 l.toArray t (by simpa using h)]
  have hk : t / 2 < l.length := by omega
  have e : (l.toArray)[t / 2]! = l[t / 2]?.getD ⟨0, 0⟩ := by
    rw [List.getElem!_toArray, List.getElem!_eq_getElem?_getD]; rfl
  rw [e]
  generalize l[t / 2]?.getD ⟨0, 0⟩ = x
  rcases (by omega : t % 2 = 0 ∨ t % 2 = 1) with e | e
  · rw [e, if_pos rfl]; rfl
  · rw [e, if_neg (by omega)]; rfl
theorem row_holds {w : World} {g : Nat} {l : List D2} (h : Row2 w g l) : HoldsK D2.cells 2 w g 0 l.toArray := by
  intro j hj
  rw [size_flatK] at hj
  have hj' : j < l.length * 2 := by simpa using hj
  obtain ⟨h1, h2, h3, h4⟩ := h.2 (j / 2) (by omega)
  show w.cell? ⟨g, 0 + j, none⟩ = some (flatK D2.cells 2 l.toArray)[j]! ∧ _
  rw [flat_get2 l j hj', Nat.zero_add]
  rcases (by omega : j % 2 = 0 ∨ j % 2 = 1) with e | e
  · rw [if_pos e, show j = j / 2 * 2 by omega]
    rw [show j / 2 * 2 / 2 = j / 2 by omega]
    exact ⟨h1, h3⟩
  · rw [if_neg (by omega)]
    have e' : j / 2 * 2 + 1 = j := by omega
    rw [e'] at h2 h4
    exact ⟨h2, h4⟩
theorem holds_row {w : World} {g : Nat} {l : List D2} (h : HoldsK D2.cells 2 w g 0 l.toArray) (hg : g < w.heap.size) : Row2 w g l := by
  refine ⟨hg, fun k hk => ?_⟩
  have h0 := h (k * 2) (by rw [size_flatK]; simp; omega)
  have h1 := h (k * 2 + 1) (by rw [size_flatK]; simp; omega)
  rw [Nat.zero_add] at h0 h1
  have f0 := flat_get2 l (k * 2) (by omega)
  have f1 := flat_get2 l (k * 2 + 1) (by omega)
  rw [if_pos (by omega), show k * 2 / 2 = k by omega] at f0
  rw [if_neg (by omega), show (k * 2 + 1) / 2 = k by omega] at f1
  exact ⟨h0.1.trans (congrArg some f0), h1.1.trans (congrArg some f1), h0.2, h1.2⟩
theorem below_sorted {w : World} {g n B : Nat} {os : Array Obj} (d : Array D2) (hB : B ≤ g) (hb : B ≤ w.heap.size) : Below B w (sortWorldK D2.cells 2 w g 0 n d os) := by
  · refine ⟨rfl, rfl, rfl, size_sortWorldK_c _ _ _ _ _ _ _ _, fun k hk => ?_⟩
    unfold sortWorldK putRowK
    rw [heap_grow_old _ _ (by simp [putRow, mapBlock, Sort.ahead]; omega)]
    have : g ≠ k := by omega
    simp [putRow, mapBlock, Sort.ahead, Array.getElem?_modify, this]
def Sorted (l l' : List D2) : Prop := l'.length = l.length ∧ (∀ z, z ∈ l' ↔ z ∈ l) ∧ l'.Pairwise fun a b => b.lt a = false
theorem get_bang (l : List D2) (i : Nat) (h : i < l.length) : l.toArray[i]! = l[i] := by
  rw [List.getElem!_toArray, List.getElem!_eq_getElem?_getD, List.getElem?_eq_getElem h]; rfl
theorem sorted_of {l l' : List D2} (hp : PermIn 0 l.toArray.size l.toArray l'.toArray) (hs : SortedIn (ltOf cmpD2) 0 l.toArray.size l'.toArray) : Sorted l l' := by
  obtain ⟨h1, _, h3⟩ := hp
  have hl : l'.length = l.length := by simpa using h1
  have h3' : l'.Perm l := by
    simp only [List.size_toArray, List.extract_toArray, List.extract_eq_take_drop, List.drop_zero, Nat.sub_zero, List.take_length] at h3
    rwa [List.take_of_length_le (by omega)] at h3
  refine ⟨hl, fun z => h3'.mem_iff, ?_⟩
  rw [List.pairwise_iff_getElem]
  intro i j hi hj hij
  have := hs i j (Nat.zero_le _) hij (by simp; omega)
  rw [ltOf_cmp, get_bang l' j hj, get_bang l' i hi] at this
  exact this
set_option maxHeartbeats 1000000 in
theorem SortFunc_any (w : World) (base : Nat) (v : Value) (l : List D2) (hown : OwnD w base v l) (hb : base ≤ w.heap.size) (hl : l.length < 4611686018427387904) :
    Calls Try.prog 28 #[v, .func (.func 26) #[] #[]] w fun e w' => e = .returned (.tuple #[]) ∧ ∃ l', Sorted l l' ∧ (l = [] ∨ ∃ g c, v = .slice (some ⟨g, 0, none⟩) l.length c ∧ base ≤ g ∧ Row2 w' g l') ∧ Below base w w' := by
  rcases Nat.eq_zero_or_pos l.length with h0 | hpos
  · have := List.eq_nil_of_length_eq_zero h0
    subst this
    obtain ⟨A, c, rfl, _⟩ := hown.form
    refine (AnyF.slices_SortFunc_none (P := Try.prog) (ρ := Try.sortDots_ren) Try.sortDots A c (.func (.func 26) #[] #[]) w).mono ?_
    rintro e w' ⟨rfl, rfl⟩
    exact ⟨rfl, [], ⟨rfl, fun _ => Iff.rfl, List.Pairwise.nil⟩, .inl rfl, Below.refl _ _⟩
  · obtain ⟨g, cap, rfl, hg, hgw, hc, hcm⟩ := hown.head hpos
    have hrow := hown.row2
    have eg : ∀ args w, (callFunc 26 args).run Try.prog w = .ok (.enter 26 args) w := enters_of Try.func26 (by kernel_rfl) rfl
    have hcon := AnyQ.slices_SortFunc Try.sortDots 2 dotAgg dotSize D2.cells (fun _ => rfl) (fun x v hv => by simp [D2.cells] at hv; rcases hv with rfl | rfl <;> rfl) cmpD2 swo_cmp 26 #[] g 0 cap l.toArray w eg (cmpLays g 0 l.toArray.size w) (row_holds hrow) hgw (by simpa using hl)
    rw [List.size_toArray] at hcon
    refine Calls.mono hcon ?_
    rintro e w' ⟨rfl, d', n, os, hp, hs, rfl⟩
    obtain ⟨l', rfl⟩ : ∃ l' : List D2, d' = l'.toArray := ⟨d'.toList, by simp⟩
    have hso := sorted_of (by simpa using hp) (by simpa using hs)
    have hsize : l'.toArray.size = l.toArray.size := by simpa using hso.1
    exact ⟨rfl, l', hso, .inr ⟨g, cap, rfl, hg, holds_row (holdsK_sortWorldK D2.cells 2 w g 0 n l.toArray l'.toArray os hgw (row_holds hrow) hsize) (lt_sortWorldK D2.cells 2 w g 0 n l'.toArray os hgw)⟩, below_sorted l'.toArray hg hb⟩
set_option maxRecDepth 100000 in
set_option maxHeartbeats 800000 in
theorem Clone_any (w : World) (A : Option Addr) (n c : Nat) (l : List D2) (hb : Sl w w.heap.size A (dv l)) (h0 : n = l.length) (hl : l.length ≤ 1000000000) :
    Calls Try.prog 27 #[.slice A n c] w fun e w' => ∃ v, e = .returned v ∧ OwnD w' w.heap.size v l ∧ Below w.heap.size w w' := by
  subst h0
  rcases A with _ | ad
  · have hk : l = [] := by
      rcases hb with h | ⟨b, o, h, _⟩
      · have := dv_len l
        rw [h] at this
        exact List.eq_nil_of_length_eq_zero (by simp at this; omega)
      · cases h
    subst hk
    have heq := Lib.run_eql_slice_nil (P := Try.prog) w 25 23 none 0 c 0 0 Try.underlying25
    simp only [Option.isNone_none, List.length_nil] at heq ⊢
    go_enter Try.func27, Try.ntmps27
    go_wp2_with fail
    go_ret
    exact ⟨_, rfl, OwnD.nil _ _, Below.refl _ _⟩
  · have hown : OwnD (w.alloc (.cells #[] 23)) w.heap.size (.slice (some ⟨w.heap.size, 0, none⟩) 0 0) [] := by
      have := World.ownsRow_lit (base := w.heap.size) (e := 23) (size := 2) w #[] 0 (Nat.le_refl _) (by simp [maxLen]) rfl
      exact this
    have hba := balloc (Below.refl w.heap.size w) (.cells #[] 23)
    have hb2 := (hb.below hba).more hba.size
    have heq := Lib.run_eql_slice_nil (P := Try.prog) w 25 23 (some ad) l.length c 0 0 Try.underlying25
    simp only [Option.isNone_some] at heq
    go_enter Try.func27, Try.ntmps27
    go_wp2_with (at_builtin; go_loud (refine appDG (by rfl) rfl hown hb2 rfl rfl rfl (by simp; omega) hba.size ?_); intro v3 w3 hown3 hg3 hat3)
    rw [List.nil_append] at hown3
    go_ret
    exact ⟨_, rfl, hown3, own_belowD hba hba.size hown hg3⟩
end Go.Proofs.Ytpeecgphmcihaaa

