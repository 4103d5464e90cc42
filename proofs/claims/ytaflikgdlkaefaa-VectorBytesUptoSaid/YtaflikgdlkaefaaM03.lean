/- Dots: Clone and SortFunc of rows of them. -/
import Derived.Shelf.SlSortCmp.WholeK
import Derived.Shelf.SlSortCmp.NoneTotal
import Derived.Shelf.Abstract
import Derived.Ground.SlsfProg
import Derived.Ground.NamesProg
import Derived.Laws.CopyRow
import Derived.Test.YtaflikgdlkaefaaM02
namespace Go.Proofs
open Go.Shelf Go.RowKit Go.Lib Go.Sort
set_option maxRecDepth 20000
def Try.sortRgs_ren : Go.Shelf.Ren := ⟨fun | 6 => 69 | 15 => 79 | 14 => 78 | 28 => 92 | 29 => 93 | 20 => 84 | 21 => 85 | 22 => 86 | 23 => 87 | 24 => 88 | 25 => 89 | 26 => 90 | 27 => 91 | 46 => 103 | 47 => 104 | 48 => 105 | 49 => 106 | 50 => 107 | 57 => 112 | n => n, fun | 22 => 40 | 24 => 44 | 25 => 103 | 3 => 3 | 39 => 30 | 0 => 0 | 53 => 122 | 55 => 71 | 4 => 4 | 46 => 115 | 45 => 114 | 50 => 119 | 5 => 5 | 9 => 9 | 66 => 130 | 70 => 133 | 76 => 137 | 77 => 138 | n => n, fun | n => n⟩
theorem Try.sortRgs : Go.Proofs.SlLaysF0.n6 Try.prog Try.sortRgs_ren := {
  mixed := by kernel_rfl
  f6 := ⟨Try.f69.name, by decide, Try.func69.trans (congrArg some (by kernel_rfl))⟩
  f14 := ⟨Try.f78.name, by decide, Try.func78.trans (congrArg some (by kernel_rfl))⟩
  f15 := Try.func79.trans (congrArg some (by kernel_rfl))
  f20 := ⟨Try.f84.name, by decide, Try.func84.trans (congrArg some (by kernel_rfl))⟩
  f21 := ⟨Try.f85.name, by decide, Try.func85.trans (congrArg some (by kernel_rfl))⟩
  f22 := ⟨Try.f86.name, by decide, Try.func86.trans (congrArg some (by kernel_rfl))⟩
  f23 := ⟨Try.f87.name, by decide, Try.func87.trans (congrArg some (by kernel_rfl))⟩
  f24 := ⟨Try.f88.name, by decide, Try.func88.trans (congrArg some (by kernel_rfl))⟩
  f25 := ⟨Try.f89.name, by decide, Try.func89.trans (congrArg some (by kernel_rfl))⟩
  f26 := ⟨Try.f90.name, by decide, Try.func90.trans (congrArg some (by kernel_rfl))⟩
  f27 := ⟨Try.f91.name, by decide, Try.func91.trans (congrArg some (by kernel_rfl))⟩
  f28 := Try.func92.trans (congrArg some (by kernel_rfl))
  f29 := Try.func93.trans (congrArg some (by kernel_rfl))
  f46 := ⟨Try.f103.name, by decide, Try.func103.trans (congrArg some (by kernel_rfl))⟩
  f47 := Try.func104.trans (congrArg some (by kernel_rfl))
  f48 := Try.func105.trans (congrArg some (by kernel_rfl))
  f49 := ⟨Try.f106.name, by decide, Try.func106.trans (congrArg some (by kernel_rfl))⟩
  f50 := ⟨Try.f107.name, by decide, Try.func107.trans (congrArg some (by kernel_rfl))⟩
  f57 := ⟨Try.f112.name, by decide, Try.func112.trans (congrArg some (by kernel_rfl))⟩
  t0 := Try.underlying0
  a0 := Try.isAgg0
  z0 := Try.sizeOf0
  v0 := Try.zeroValue0
  t3 := Try.underlying3
  a3 := Try.isAgg3
  z3 := Try.sizeOf3
  v3 := Try.zeroValue3
  t4 := Try.underlying4
  a4 := Try.isAgg4
  z4 := Try.sizeOf4
  v4 := Try.zeroValue4
  t5 := Try.underlying5
  a5 := Try.isAgg5
  z5 := Try.sizeOf5
  v5 := Try.zeroValue5
  t9 := Try.underlying9
  a9 := Try.isAgg9
  z9 := Try.sizeOf9
  v9 := Try.zeroValue9
  t22 := Try.underlying40
  a22 := Try.isAgg40
  z22 := Try.sizeOf40
  v22 := Try.zeroValue40
  t25 := Try.underlying103
  a25 := Try.isAgg103
  z25 := Try.sizeOf103
  v25 := Try.zeroValue103
  t39 := Try.underlying30
  a39 := Try.isAgg30
  z39 := Try.sizeOf30
  v39 := Try.zeroValue30
  t45 := Try.underlying114
  a45 := Try.isAgg114
  z45 := Try.sizeOf114
  v45 := Try.zeroValue114
  t46 := Try.underlying115
  a46 := Try.isAgg115
  z46 := Try.sizeOf115
  v46 := Try.zeroValue115
  t50 := Try.underlying119
  a50 := Try.isAgg119
  z50 := Try.sizeOf119
  v50 := Try.zeroValue119
  t53 := Try.underlying122
  a53 := Try.isAgg122
  z53 := Try.sizeOf122
  v53 := Try.zeroValue122
  t55 := Try.underlying71
  a55 := Try.isAgg71
  z55 := Try.sizeOf71
  v55 := Try.zeroValue71
  t66 := Try.underlying130
  a66 := Try.isAgg130
  z66 := Try.sizeOf130
  v66 := Try.zeroValue130
  t70 := Try.underlying133
  a70 := Try.isAgg133
  z70 := Try.sizeOf133
  v70 := Try.zeroValue133
  t76 := Try.underlying137
  a76 := Try.isAgg137
  z76 := Try.sizeOf137
  v76 := Try.zeroValue137
  t77 := Try.underlying138
  a77 := Try.isAgg138
  z77 := Try.sizeOf138
  v77 := Try.zeroValue138 }
end Go.Proofs
namespace Go.Proofs.Ytaflikgdlkaefaa
open Go.RowKit Go.Proofs.Ytaflikgdlkaefaa.Pl Go.Proofs.Ytaflikgdlkaefaa.Sp
open Go.Sort hiding Below

def cmpRg (x y : Rg) : Int := cmp3 x.a y.a
set_option maxRecDepth 100000 in
theorem cmpR_any (w : World) (s t : Rg) :
    Calls Try.prog 70 #[s.v, t.v] w fun e w' => e = .returned (.int .i64 (cmpRg s t)) ∧ Grew w w' ∧ Below w.heap.size w w' := by
  unfold Rg.v cmpRg
  obtain ⟨r, q⟩ := s
  obtain ⟨r', q'⟩ := t
  have hg : Grew w ((w.alloc (.cells #[.int .i64 r, .int .i64 q] 44)).alloc (.cells #[.int .i64 r', .int .i64 q'] 44)) := ⟨0, _, by
    rw [alloc_eq_grow, alloc_eq_grow, grow_grow]; rfl⟩
  have hb := balloc (balloc (Below.refl w.heap.size w) (.cells #[.int .i64 r, .int .i64 q] 44)) (.cells #[.int .i64 r', .int .i64 q'] 44)
  go_enter Try.func70, Try.ntmps70
  go_wp2_with (go_at_call 71; refine (Compare_int64 _ _ _).mono ?_; rintro e w' ⟨rfl, rfl⟩)
  go_ret
  exact ⟨rfl, hg, hb⟩
theorem ltOf_cmpR (x y : Rg) : ltOf cmpRg x y = decide (x.a < y.a) := by
  unfold ltOf cmpRg cmp3
  rw [decide_eq_decide]
  (repeat' split) <;> omega
theorem swo_cmpR : Sort.SWO (ltOf cmpRg) := {
  irrefl x := by rw [ltOf_cmpR, decide_eq_false_iff_not]; omega
  trans x y z h1 h2 := by rw [ltOf_cmpR, decide_eq_true_eq] at *; omega
  ntrans x y z h1 h2 := by rw [ltOf_cmpR, decide_eq_false_iff_not] at *; omega }
theorem cmpLaysR (blk off size : Nat) (w : World) : CmpLays Try.prog 70 #[] Rg.cells 2 cmpRg blk off size w :=
  fun _ _ _ _ x y => (cmpR_any _ x y).mono fun _ _ ⟨h1, ⟨q, os', h2⟩, _⟩ => ⟨h1, q, os', h2⟩
theorem rgAgg (w : World) : (isAgg 44).run Try.prog w = .ok true w := by first | exact Try.isAgg44 w | go_simp
theorem rgSize (w : World) : (Go.sizeOf 44).run Try.prog w = .ok 2 w := by first | exact Try.sizeOf44 w | go_simp
theorem flat_get2R (l : List Rg) (t : Nat) (h : t < l.length * 2) : (flatK Rg.cells 2 l.toArray)[t]! = (if t % 2 = 0 then Value.int .i64 (l[t / 2]?.getD ⟨0, 0⟩).a else Value.int .i64 (l[t / 2]?.getD ⟨0, 0⟩).b) := by
  rw [get_flatK Rg.cells 2 l.toArray t (by simpa using h)]
  have hk : t / 2 < l.length := by omega
  have e : (l.toArray)[t / 2]! = l[t / 2]?.getD ⟨0, 0⟩ := by
    rw [List.getElem!_toArray, List.getElem!_eq_getElem?_getD]; rfl
  rw [e]
  generalize l[t / 2]?.getD ⟨0, 0⟩ = x
  rcases (by omega : t % 2 = 0 ∨ t % 2 = 1) with e | e
  · rw [e, if_pos rfl]; rfl
  · rw [e, if_neg (by omega)]; rfl
theorem row_holdsR {w : World} {g : Nat} {l : List Rg} (h : RowR w g l) : HoldsK Rg.cells 2 w g 0 l.toArray := by
  intro j hj
  rw [size_flatK] at hj
  have hj' : j < l.length * 2 := by simpa using hj
  obtain ⟨h1, h2, h3, h4⟩ := h.2 (j / 2) (by omega)
  show w.cell? ⟨g, 0 + j, none⟩ = some (flatK Rg.cells 2 l.toArray)[j]! ∧ _
  rw [flat_get2R l j hj', Nat.zero_add]
  rcases (by omega : j % 2 = 0 ∨ j % 2 = 1) with e | e
  · rw [if_pos e, show j = j / 2 * 2 by omega]
    rw [show j / 2 * 2 / 2 = j / 2 by omega]
    exact ⟨h1, h3⟩
  · rw [if_neg (by omega)]
    have e' : j / 2 * 2 + 1 = j := by omega
    rw [e'] at h2 h4
    exact ⟨h2, h4⟩
theorem holds_rowR {w : World} {g : Nat} {l : List Rg} (h : HoldsK Rg.cells 2 w g 0 l.toArray) (hg : g < w.heap.size) : RowR w g l := by
  refine ⟨hg, fun k hk => ?_⟩
  have h0 := h (k * 2) (by rw [size_flatK]; simp; omega)
  have h1 := h (k * 2 + 1) (by rw [size_flatK]; simp; omega)
  rw [Nat.zero_add] at h0 h1
  have f0 := flat_get2R l (k * 2) (by omega)
  have f1 := flat_get2R l (k * 2 + 1) (by omega)
  rw [if_pos (by omega), show k * 2 / 2 = k by omega] at f0
  rw [if_neg (by omega), show (k * 2 + 1) / 2 = k by omega] at f1
  exact ⟨h0.1.trans (congrArg some f0), h1.1.trans (congrArg some f1), h0.2, h1.2⟩
theorem below_sortedR {w : World} {g n B : Nat} {os : Array Obj} (d : Array Rg) (hB : B ≤ g) (hb : B ≤ w.heap.size) : Below B w (sortWorldK Rg.cells 2 w g 0 n d os) := by
  · refine ⟨rfl, rfl, rfl, size_sortWorldK_c _ _ _ _ _ _ _ _, fun k hk => ?_⟩
    unfold sortWorldK putRowK
    rw [heap_grow_old _ _ (by simp [putRow, mapBlock, Sort.ahead]; omega)]
    have : g ≠ k := by omega
    simp [putRow, mapBlock, Sort.ahead, Array.getElem?_modify, this]
def SortedR (l l' : List Rg) : Prop := l'.length = l.length ∧ (∀ z, z ∈ l' ↔ z ∈ l) ∧ l'.Pairwise fun a b => a.a ≤ b.a
theorem get_bangR (l : List Rg) (i : Nat) (h : i < l.length) : l.toArray[i]! = l[i] := by
  rw [List.getElem!_toArray, List.getElem!_eq_getElem?_getD, List.getElem?_eq_getElem h]; rfl
theorem sorted_ofR {l l' : List Rg} (hp : PermIn 0 l.toArray.size l.toArray l'.toArray) (hs : SortedIn (ltOf cmpRg) 0 l.toArray.size l'.toArray) : SortedR l l' := by
  obtain ⟨h1, _, h3⟩ := hp
  have hl : l'.length = l.length := by simpa using h1
  have h3' : l'.Perm l := by
    simp only [List.size_toArray, List.extract_toArray, List.extract_eq_take_drop, List.drop_zero, Nat.sub_zero, List.take_length] at h3
    rwa [List.take_of_length_le (by omega)] at h3
  refine ⟨hl, fun z => h3'.mem_iff, ?_⟩
  rw [List.pairwise_iff_getElem]
  intro i j hi hj hij
  have := hs i j (Nat.zero_le _) hij (by simp; omega)
  rw [ltOf_cmpR, get_bangR l' j hj, get_bangR l' i hi] at this
  rw [decide_eq_false_iff_not] at this
  omega
set_option maxHeartbeats 1000000 in
theorem SortFuncR_any (w : World) (base : Nat) (v : Value) (l : List Rg) (hown : OwnR w base v l) (hb : base ≤ w.heap.size) (hl : l.length < 4611686018427387904) :
    Calls Try.prog 69 #[v, .func (.func 70) #[] #[]] w fun e w' => e = .returned (.tuple #[]) ∧ ∃ l', SortedR l l' ∧ (l = [] ∨ ∃ g c, v = .slice (some ⟨g, 0, none⟩) l.length c ∧ base ≤ g ∧ RowR w' g l') ∧ Below base w w' := by
  rcases Nat.eq_zero_or_pos l.length with h0 | hpos
  · have := List.eq_nil_of_length_eq_zero h0
    subst this
    obtain ⟨A, c, rfl, _⟩ := hown.form
    refine (AnyF.slices_SortFunc_none (P := Try.prog) (ρ := Try.sortRgs_ren) Try.sortRgs A c (.func (.func 70) #[] #[]) w).mono ?_
    rintro e w' ⟨rfl, rfl⟩
    exact ⟨rfl, [], ⟨rfl, fun _ => Iff.rfl, List.Pairwise.nil⟩, .inl rfl, Below.refl _ _⟩
  · obtain ⟨g, cap, rfl, hg, hgw, hc, hcm⟩ := hown.head hpos
    have hrow := hown.row2
    have eg : ∀ args w, (callFunc 70 args).run Try.prog w = .ok (.enter 70 args) w := enters_of Try.func70 (by kernel_rfl) rfl
    have hcon := AnyQ.slices_SortFunc Try.sortRgs 2 rgAgg rgSize Rg.cells (fun _ => rfl) (fun x v hv => by simp [Rg.cells] at hv; rcases hv with rfl | rfl <;> rfl) cmpRg swo_cmpR 70 #[] g 0 cap l.toArray w eg (cmpLaysR g 0 l.toArray.size w) (row_holdsR hrow) hgw (by simpa using hl)
    rw [List.size_toArray] at hcon
    refine Calls.mono hcon ?_
    rintro e w' ⟨rfl, d', n, os, hp, hs, rfl⟩
    obtain ⟨l', rfl⟩ : ∃ l' : List Rg, d' = l'.toArray := ⟨d'.toList, by simp⟩
    have hso := sorted_ofR (by simpa using hp) (by simpa using hs)
    have hsize : l'.toArray.size = l.toArray.size := by simpa using hso.1
    exact ⟨rfl, l', hso, .inr ⟨g, cap, rfl, hg, holds_rowR (holdsK_sortWorldK Rg.cells 2 w g 0 n l.toArray l'.toArray os hgw (row_holdsR hrow) hsize) (lt_sortWorldK Rg.cells 2 w g 0 n l'.toArray os hgw)⟩, below_sortedR l'.toArray hg hb⟩
end Go.Proofs.Ytaflikgdlkaefaa
/- Ranges: all, one list of ranges out of whatever ranges. -/
namespace Go.Proofs.Ytaflikgdlkaefaa
open Go.RowKit Go.Proofs.Ytaflikgdlkaefaa.Pl Go.Proofs.Ytaflikgdlkaefaa.Sp
set_option maxRecDepth 20000

theorem putR_len (o : List Rg) (r : Rg) : (putR o r).length ≤ o.length + 1 := by
  unfold putR
  split
  · simp
  · rename_i x h
    have : o.length ≠ 0 := by intro e; rw [List.eq_nil_of_length_eq_zero e] at h; cases h
    split
    · rw [List.length_append, List.length_dropLast, List.length_singleton]; omega
    · simp
theorem fold_len : ∀ (l o : List Rg), (l.foldl putR o).length ≤ o.length + l.length
  | [], o => by simp
  | r :: l, o => by
    have h1 := fold_len l (putR o r)
    have h2 := putR_len o r
    rw [List.foldl_cons, List.length_cons]
    omega
theorem last_okR {o : List Rg} (h : right o = true) : ∀ x, o.getLast? = some x → 1 ≤ x.b ∧ x.b ≤ 1099511627775 := by
  intro x hx
  have h1 := ok_iff.1 (right_ok h x (List.mem_of_getLast? hx))
  unfold mx at h1
  omega
theorem fold_take_ok {l : List Rg} (hok : ∀ r ∈ l, r.ok = true) (hp : l.Pairwise fun r s => r.a ≤ s.a) (k : Nat) : right ((l.take k).foldl putR []) = true :=
  (fold_put (o := []) rfl (fun r hr => hok r (List.mem_of_mem_take hr)) (hp.sublist (List.take_sublist k l)) (fun x hx => by cases hx)).1
theorem fold_take_succ {l : List Rg} {k : Nat} (hk : k < l.length) : (l.take (k + 1)).foldl putR [] = putR ((l.take k).foldl putR []) (l[k]?.getD ⟨0, 0⟩) := by
  rw [List.take_succ_eq_append_getElem hk, List.foldl_append, List.getElem?_eq_getElem hk]
  rfl
/-- a row of ranges of the call's own is answered -/
def OwnAns (w : World) (q : List Rg) (e : Ending) (w' : World) : Prop := ∃ v, e = .returned v ∧ OwnR w' w.heap.size v q ∧ Below w.heap.size w w'
set_option maxRecDepth 100000 in
set_option maxHeartbeats 3200000 in
theorem All_any (w : World) (base : Nat) (v : Value) (l : List Rg) (hown : OwnR w base v l) (hb : base ≤ w.heap.size) (hok : ∀ r ∈ l, r.ok = true) (hl : l.length ≤ 100000000) :
    Calls Try.prog 56 #[v] w fun e w' => ∃ l' v', e = .returned v' ∧ SortedR l l' ∧ OwnR w' w.heap.size v' (l'.foldl putR []) ∧ Below base w w' := by
  obtain ⟨A, c, rfl, hA1, hA2, _⟩ := hown.form
  have HS := Lib.hid (SortFuncR_any w base _ l hown hb (by omega))
  obtain ⟨n, hn⟩ : ∃ n, l.length = n := ⟨_, rfl⟩
  rw [hn] at HS hl
  rw [hn]
  clear hA1 hA2 hown
  have HN := Lib.hid hn
  clear hn
  go_enter Try.func56, Try.ntmps56
  go_wp2_with fail
  refine HS.out.mono ?_
  rintro e w2 ⟨rfl, l', hs, hv, h2⟩
  have hsl : Sl w2 w2.heap.size A (rv l') := by
    rcases hv with rfl | ⟨g, c', e, hg, hr⟩
    · have : l' = [] := List.eq_nil_of_length_eq_zero hs.1
      subst this; exact .inl rfl
    · injection e with e1 e2 e3; subst e1; exact hr.sl
  have HOK := Lib.hid (And.intro (fun r hr => hok r ((hs.2.1 r).1 hr)) (And.intro hs (hs.1.trans HN.out)) : (∀ r ∈ l', r.ok = true) ∧ SortedR l l' ∧ l'.length = n)
  clear hs hv hok HS
  go_wp2_with fail
  go_loopw [3, 10] (fun x3 x10 wr => ∃ (k : Nat) (x : Value), k ≤ n ∧ x10 = .int .i64 (k : Int) ∧ x = x3 ∧ OwnR wr w2.heap.size x ((l'.take k).foldl putR []) ∧ Below w2.heap.size w2 wr) (fun _ x10 _ => n - (intOf x10).toNat)
  case atStart => exact ⟨0, _, by omega, rfl, rfl, OwnR.nil _ _, Below.refl _ _⟩
  case round =>
    obtain ⟨k, x3, hk, rfl, rfl, hown, hbel⟩ := hrel
    by_cases hlt : k < n
    · have hkl : k < l'.length := by have := HOK.out.2.2; omega
      obtain ⟨b, o, rfl, _, hbW, c0, c1⟩ := rgAt hsl hkl
      replace c0 := (hbel.cell hbW).trans c0
      replace c1 := (hbel.cell hbW).trans c1
      have hstep := fold_take_succ hkl
      have hlen := fold_len (l'.take k) []
      rw [List.length_take] at hlen
      have hlast := last_okR (fold_take_ok HOK.out.1 HOK.out.2.1.2.2 k)
      generalize l'[k]?.getD ⟨0, 0⟩ = x at *
      generalize (l'.take k).foldl putR [] = q at *
      have hd1 : decide ((k : Int) < (n : Int)) = true := by rw [decide_eq_true_eq]; omega
      have hn0 : (0 : Int) ≤ (k : Int) := by omega
      have hn1 : (k : Int) < (n : Int) := by omega
      have hbx := hbel.alloc hbel.size (.cells #[.int .i64 x.a, .int .i64 x.b] 44)
      have HP := Lib.hid (RgPut_any w2 _ x3 q x (hown.below (boxR wr x)) hbx hlast (by simp at hlen; omega))
      have HT := Lib.hid hstep
      unfold Rg.v at HP
      clear hlast hlen hstep hbx hown hkl
      go_wp2_with fail
      refine HP.out.mono ?_
      rintro e w3 ⟨v3, rfl, hown3, h3⟩
      go_wp2_with fail
      go_roundw
      case rel => exact ⟨k + 1, _, by omega, by go_num, rfl, by rw [HT.out]; exact hown3, h3⟩
      case measure => simp [intOf]; omega
    · obtain rfl : k = n := by omega
      have hd1 : decide ((k : Int) < (k : Int)) = false := by rw [decide_eq_false_iff_not]; omega
      rw [List.take_of_length_le (by have := HOK.out.2.2; omega)] at hown
      go_wp2_with fail
      go_ret
      exact ⟨l', _, rfl, HOK.out.2.1, hown.lower h2.size, h2.trans (hbel.mono (Nat.le_trans hb h2.size))⟩
end Go.Proofs.Ytaflikgdlkaefaa
/- Ranges: make and copy at rows of the call's own. -/
namespace Go.Proofs.Ytaflikgdlkaefaa
open Go.RowKit Go.Proofs.Ytaflikgdlkaefaa.Pl Go.Proofs.Ytaflikgdlkaefaa.Sp
set_option maxRecDepth 20000

theorem rv_inj_len {l m : List Rg} (h : rv l = rv m) : l.length = m.length := by
  have := congrArg List.length h
  rw [rv_len, rv_len] at this
  omega
theorem OwnR.lenEq {w : World} {base g n cap : Nat} {l : List Rg} (h : OwnR w base (.slice (some ⟨g, 0, none⟩) n cap) l) : n = l.length := by
  rcases h.2 with ⟨h', _⟩ | ⟨_, _, _, h', _⟩
  · simp at h'
  · simp only [Value.slice.injEq] at h'; exact h'.2.1
theorem run_copyR (w : World) (ty : TypeId) {base g L cap : Nat} {l k : List Rg} (hown : OwnR w base (.slice (some ⟨g, 0, none⟩) L cap) l) (o : Nat) {D A : Option Addr} {dLen dCap m c B : Nat}
    (hr : Sl w B A (rv k)) (hm : m = k.length) (hD : 0 < m → D = some ⟨g, o * 2, none⟩) (hle : m ≤ dLen) (hfit : o + m ≤ l.length) :
    ∃ w', (Builtin.copy_ #[40, 40] ty #[.slice D dLen dCap, .slice A m c]).run Try.prog w = .ok (.int .i64 (m : Int)) w' ∧ OwnR w' base (.slice (some ⟨g, 0, none⟩) L cap) (l.take o ++ k ++ l.drop (o + m)) ∧ w.grownBy w' (some g) := by
  obtain ⟨i, hi, hz, hz1, hz2⟩ := info_parts rginfo
  have hmin : Nat.min m dLen = m := Nat.min_eq_left hle
  have hl0 : ∀ (x : Addr), (loadCells x 0).run Try.prog w = .ok #[] w := fun x => by simpa using run_loadCells_list (P := Try.prog) w x [] (by simp)
  rcases Nat.eq_zero_or_pos m with h0 | hpos
  · subst h0
    have hk : k = [] := List.eq_nil_of_length_eq_zero hm.symm
    subst hk
    refine ⟨w, ?_, by simpa using hown, World.grownBy.refl w _⟩
    cases D <;> cases A <;> simp [Builtin.copy_, run_underlying Try.underlying40, Builtin.lenOf, Builtin.firstCells, sizeOf, typeInfo, hi, storeCells, hl0, goInt]
  · have hL := hown.lenEq
    obtain ⟨b', o', e', _, _, hc'⟩ := hr.at_ (k := 0) (by rw [rv_len]; omega)
    subst e'
    rw [hD hpos]
    rcases hown.2 with ⟨h', _⟩ | ⟨g', cap', cur, hv, hbg, hg, hncap, hcm, hcs, ht⟩
    · simp at h'
    · simp only [Value.slice.injEq, Option.some.injEq, Addr.mk.injEq] at hv
      obtain ⟨⟨rfl, _⟩, _, rfl⟩ := hv
      have hrl : (rv k).length = m * 2 := by rw [rv_len, hm]
      have hload := run_loadCells_list (P := Try.prog) w ⟨b', o', none⟩ (rv k) (fun j u hu => by
        have : (⟨b', o', none⟩ : Addr).add j = ⟨b', o' + j, none⟩ := by
          unfold Addr.add
          split
          · rename_i h0; subst h0; rfl
          · rfl
        rw [this]; exact hc' j u hu)
      rw [hrl] at hload
      have hst := run_storeCells_at (P := Try.prog) g (o * 2) 44 (rv k) 0 cur w hg (by rw [hrl, hcs]; omega) (rv_one k)
      simp only [Nat.add_zero] at hst
      refine ⟨w.setRow g (cur.toList.take (o * 2) ++ rv k ++ cur.toList.drop (o * 2 + (rv k).length)).toArray, ?_, ?_, ⟨rfl, rfl, rfl, by simp, fun k' _ hk => setRow_other w g k' _ (fun e => hk (by rw [e]))⟩⟩
      · simp [Builtin.copy_, run_underlying Try.underlying40, Builtin.lenOf, Builtin.firstCells, sizeOf, typeInfo, hi, hz1, hmin, hload, hst, goInt]
      · have hlen : (l.take o ++ k ++ l.drop (o + m)).length = l.length := by simp [← hm]; omega
        have hll : cur.toList.length = cap * 2 := by simpa using hcs
        refine ⟨by rw [rv_len], .inr ⟨g, cap, _, by rw [hlen, hL], hbg, setRow_heap w g cur _ _ _ hg, by rw [hlen, ← hL]; omega, hcm, ?_, ?_⟩⟩
        · simp [hrl]; omega
        · rw [hlen, rv_append, rv_append, ← rv_take, ← rv_drop, ← ht, ← hL]
          simp only
          apply List.ext_getElem?
          intro j
          simp only [List.getElem?_take, List.getElem?_append, List.length_append, List.length_take, List.getElem?_drop, hrl, hll]
          have hLc : L ≤ cap := by omega
          (repeat' split) <;> first | rfl | omega | (congr 1; omega) | (exfalso; omega)
section
variable {ops : Array Oper} {rest : List Oper} {o : Oper} {a : Act} {Q : Exit → Act → World → Prop} {w : World} {s x : Operand}
theorem copyR (hgd : o.guard = none) (ho : o.op = .call { callee := .builtin .copy, args := #[s, x], argTypes := #[40, 40] })
    {base g L cap : Nat} {l k : List Rg} (hown : OwnR w base (.slice (some ⟨g, 0, none⟩) L cap) l) (at' : Nat) {D A : Option Addr} {dLen dCap m c B : Nat} (hr : Sl w B A (rv k)) (hm : m = k.length)
    (hs : a.eval s = .slice D dLen dCap) (hx : a.eval x = .slice A m c) (hD : 0 < m → D = some ⟨g, at' * 2, none⟩) (hle : m ≤ dLen) (hfit : at' + m ≤ l.length)
    (h : ∀ w', OwnR w' base (.slice (some ⟨g, 0, none⟩) L cap) (l.take at' ++ k ++ l.drop (at' + m)) → w.grownBy w' (some g) → wpList Try.prog ops Q rest (a.put o.dst (.int .i64 (m : Int))) w') : wpList Try.prog ops Q (o :: rest) a w := by
  refine wpList_plain hgd fun K hK => ?_
  obtain ⟨w', hrun, h2, h3⟩ := run_copyR w o.type hown at' hr (c := c) (dCap := dCap) hm hD hle hfit
  unfold Oper.wp execOp
  simp only [ho, resolve, invoke, builtin, Sem.run_bind, Sem.run_pure, Result.andThen_ok, List.map_toArray, List.map_cons, List.map_nil, hs, hx, hrun]
  exact hK _ _ (h w' h2 h3)
theorem made2 (n : Nat) : (madeCells (Value.agg #[.int .i64 0, .int .i64 0]).cells (n * 2)).toList = rv (List.replicate n ⟨0, 0⟩) := by
  apply List.ext_getElem?
  intro j
  have e1 : (madeCells (Value.agg #[.int .i64 0, .int .i64 0]).cells (n * 2)).toList[j]? = if j < n * 2 then some (.int .i64 0) else none := by
    simp only [madeCells, Value.cells, List.size_toArray, List.length_cons, List.length_nil, Array.toList_map, Array.toList_range, List.getElem?_map]
    by_cases hj : j < n * 2
    · rw [List.getElem?_range hj, if_pos hj]
      rcases (by omega : j % 2 = 0 ∨ j % 2 = 1) with e | e <;> simp [e]
    · rw [List.getElem?_eq_none (by simp; omega), if_neg hj]; rfl
  rw [e1]
  by_cases hj : j < n * 2
  · rw [if_pos hj]
    have := rv_get (List.replicate n ⟨0, 0⟩) (j / 2) (j % 2) ⟨0, 0⟩ (by rw [List.getElem?_replicate, if_pos (by omega)]) (by omega)
    rw [show j / 2 * 2 + j % 2 = j by omega] at this
    rw [this]
    rcases (by omega : j % 2 = 0 ∨ j % 2 = 1) with e | e <;> rw [e] <;> rfl
  · rw [if_neg hj, List.getElem?_eq_none (by rw [rv_len]; simp; omega)]
/-- make([]Range, n) -/
theorem mkR {lo co : Operand} (hgd : o.guard = none) (ho : o.op = Op.makeSlice 40 lo co) {kl kc : IntKind} {L C : Int} {n : Nat} (hl : a.eval lo = .int kl L) (hc : a.eval co = .int kc C) (hL : L = (n : Int)) (hC : C = (n : Int)) (h1 : n ≤ 1000000000000)
    (h : ∀ w', OwnR w' w.heap.size (.slice (some ⟨w.heap.size, 0, none⟩) n n) (List.replicate n ⟨0, 0⟩) → w.grownBy w' none → wpList Try.prog ops Q rest (a.put o.dst (.slice (some ⟨w.heap.size, 0, none⟩) n n)) w') : wpList Try.prog ops Q (o :: rest) a w := by
  obtain ⟨i, hi, hz, hz1, hz2⟩ := info_parts rginfo
  refine wpList_make_full w hgd lo co _ ho w.heap.size 44 i (.agg #[.int .i64 0, .int .i64 0]) 2 Try.underlying40 hi hz hz1 kl kc L C n hl hc hL hC (by rw [hz2]; omega) (by simp only [maxLen]; omega) (Nat.le_refl _) fun w' h1 h2 => h w' ?_ h2
  rw [made2] at h1
  rw [OwnR, List.length_replicate]
  exact h1
end
end Go.Proofs.Ytaflikgdlkaefaa
/- Ranges: span.Right. -/
namespace Go.Proofs.Ytaflikgdlkaefaa
open Go.RowKit Go.Proofs.Ytaflikgdlkaefaa.Pl Go.Proofs.Ytaflikgdlkaefaa.Sp
set_option maxRecDepth 20000

theorem okR_drop {l : List Rg} {k : Nat} (hk : k < l.length) (lo : Int) : okR lo (l.drop k) = (decide (lo ≤ (l[k]?.getD ⟨0, 0⟩).a) && (l[k]?.getD ⟨0, 0⟩).ok && okR ((l[k]?.getD ⟨0, 0⟩).b + 2) (l.drop (k + 1))) := by
  rw [List.drop_eq_getElem_cons hk, List.getElem?_eq_getElem hk, Option.getD_some, okR]
set_option maxRecDepth 100000 in
set_option maxHeartbeats 6400000 in
theorem RRight_any (w : World) (A : Option Addr) (n c : Nat) (l : List Rg) (hb : Sl w w.heap.size A (rv l)) (h0 : n = l.length) (hl : n ≤ 1000000000) :
    Calls Try.prog 33 #[.slice A n c] w fun e w' => e = .returned (.bool (right l)) ∧ Below w.heap.size w w' := by
  have HN := Lib.hid h0
  clear h0
  go_enter Try.func33, Try.ntmps33
  go_wp2_with fail
  go_loopw [3, 8] (fun x3 x8 wr => ∃ (k : Nat) (z : Int), k ≤ n ∧ x8 = .int .i64 (k : Int) ∧ x3 = .int .i64 z ∧ -1 ≤ z ∧ z ≤ 1099511627775 ∧ right l = okR (z + 2) (l.drop k) ∧ Below w.heap.size w wr) (fun _ x8 _ => n - (intOf x8).toNat)
  case atStart => exact ⟨0, -1, by omega, rfl, rfl, by omega, by omega, rfl, Below.refl _ _⟩
  case round =>
    obtain ⟨k, z, hk, rfl, rfl, hz1, hz2, hrt, hbel⟩ := hrel
    by_cases hlt : k < n
    · have hkl : k < l.length := by have := HN.out; omega
      obtain ⟨b, o, rfl, _, hbW, c0, c1⟩ := rgAt hb hkl
      replace c0 := (hbel.cell hbW).trans c0
      replace c1 := (hbel.cell hbW).trans c1
      have hstep := okR_drop hkl (z + 2)
      generalize l[k]?.getD ⟨0, 0⟩ = x at *
      have hd1 : decide ((k : Int) < (n : Int)) = true := by rw [decide_eq_true_eq]; omega
      have hn0 : (0 : Int) ≤ (k : Int) := by omega
      have hn1 : (k : Int) < (n : Int) := by omega
      have hw1 : IntKind.i64.wrap (z + 2) = z + 2 := by rw [IntKind.wrap_i64]; omega
      have hbx := hbel.alloc hbel.size (.cells #[.int .i64 x.a, .int .i64 x.b] 44)
      by_cases hgood : z + 2 ≤ x.a ∧ x.ok = true
      · have hx := ok_iff.1 hgood.2
        unfold mx at hx
        rw [decide_eq_true hgood.1, hgood.2, Bool.true_and, Bool.true_and] at hstep
        have HS := Lib.hid (hrt.trans hstep)
        have hzx := hgood.1
        clear hgood hrt hstep
        have d0 : decide (x.a < z + 2) = false := by rw [decide_eq_false_iff_not]; omega
        have d1 : decide (x.a < 1) = false := by rw [decide_eq_false_iff_not]; omega
        have d2 : decide (x.b < x.a) = false := by rw [decide_eq_false_iff_not]; omega
        have d3 : decide ((1099511627775 : Int) < x.b) = false := by rw [decide_eq_false_iff_not]; omega
        go_wp2_with fail
        go_roundw
        case rel => exact ⟨k + 1, x.b, by omega, by go_num, rfl, by omega, by omega, HS.out, hbx⟩
        case measure => simp [intOf]; omega
      · have hbad : (decide (z + 2 ≤ x.a) && x.ok && okR (x.b + 2) (l.drop (k + 1))) = false := by
          rw [Bool.and_eq_false_iff]
          left
          rw [Bool.and_eq_false_iff]
          by_cases h : z + 2 ≤ x.a
          · right; rcases hx : x.ok with _ | _
            · rfl
            · exact absurd ⟨h, hx⟩ hgood
          · left; rw [decide_eq_false_iff_not]; exact h
        have hcase : x.a < z + 2 ∨ (¬ x.a < z + 2 ∧ x.a < 1) ∨ (¬ x.a < z + 2 ∧ ¬ x.a < 1 ∧ x.b < x.a) ∨ (¬ x.a < z + 2 ∧ ¬ x.a < 1 ∧ ¬ x.b < x.a ∧ (1099511627775 : Int) < x.b) := by
          rw [ok_iff] at hgood
          unfold mx at hgood
          omega
        clear hgood
        rcases hcase with hcase | hcase | hcase | hcase
        · -- 0
          have d0 : decide (x.a < z + 2) = true := by rw [decide_eq_true_eq]; omega
          have HF := Lib.hid (show right l = false by rw [hrt, hstep]; exact hbad)
          clear hbad hstep hrt hcase
          go_wp2_with fail
          go_ret
          exact ⟨ret_b HF.out.symm, hbx⟩
        · -- 1
          have d0 : decide (x.a < z + 2) = false := by rw [decide_eq_false_iff_not]; omega
          have d1 : decide (x.a < 1) = true := by rw [decide_eq_true_eq]; omega
          have HF := Lib.hid (show right l = false by rw [hrt, hstep]; exact hbad)
          clear hbad hstep hrt hcase
          go_wp2_with fail
          go_ret
          exact ⟨ret_b HF.out.symm, hbx⟩
        · -- 2
          have d0 : decide (x.a < z + 2) = false := by rw [decide_eq_false_iff_not]; omega
          have d1 : decide (x.a < 1) = false := by rw [decide_eq_false_iff_not]; omega
          have d2 : decide (x.b < x.a) = true := by rw [decide_eq_true_eq]; omega
          have HF := Lib.hid (show right l = false by rw [hrt, hstep]; exact hbad)
          clear hbad hstep hrt hcase
          go_wp2_with fail
          go_ret
          exact ⟨ret_b HF.out.symm, hbx⟩
        · -- 3
          have d0 : decide (x.a < z + 2) = false := by rw [decide_eq_false_iff_not]; omega
          have d1 : decide (x.a < 1) = false := by rw [decide_eq_false_iff_not]; omega
          have d2 : decide (x.b < x.a) = false := by rw [decide_eq_false_iff_not]; omega
          have d3 : decide ((1099511627775 : Int) < x.b) = true := by rw [decide_eq_true_eq]; omega
          have HF := Lib.hid (show right l = false by rw [hrt, hstep]; exact hbad)
          clear hbad hstep hrt hcase
          go_wp2_with fail
          go_ret
          exact ⟨ret_b HF.out.symm, hbx⟩
    · obtain rfl : k = n := by omega
      have hd1 : decide ((k : Int) < (k : Int)) = false := by rw [decide_eq_false_iff_not]; omega
      have HF := Lib.hid (show right l = true by rw [hrt, HN.out, List.drop_length]; rfl)
      clear hrt
      go_wp2_with fail
      go_ret
      exact ⟨ret_b HF.out.symm, hbel⟩
end Go.Proofs.Ytaflikgdlkaefaa
/- Ranges: span.Join, span.Add. -/
namespace Go.Proofs.Ytaflikgdlkaefaa
open Go.RowKit Go.Proofs.Ytaflikgdlkaefaa.Pl Go.Proofs.Ytaflikgdlkaefaa.Sp
set_option maxRecDepth 20000

/-- a row of ranges is answered -/
def RAns (w : World) (q : List Rg) (e : Ending) (w' : World) : Prop := ∃ A c, e = .returned (.slice A q.length c) ∧ Sl w' w'.heap.size A (rv q) ∧ q.length ≤ c ∧ c ≤ maxLen ∧ Below w.heap.size w w'
theorem RAns.of {w w' : World} {q : List Rg} {v : Value} {base : Nat} (h : OwnR w' base v q) (hb : Below w.heap.size w w') : RAns w q (.returned v) w' := by
  obtain ⟨A, c, rfl, h1, h2, h3, _⟩ := h.form
  exact ⟨A, c, rfl, h3, h1, h2, hb⟩
theorem RAns.nil {w w' : World} (hb : Below w.heap.size w w') : RAns w [] (.returned (.slice none 0 0)) w' := ⟨none, 0, rfl, .inl rfl, Nat.le_refl _, by simp [maxLen], hb⟩
theorem copied0 (a : List Rg) (n n' : Nat) (_h : n = a.length) : (List.replicate (n + n') (⟨0, 0⟩ : Rg)).take 0 ++ a ++ (List.replicate (n + n') (⟨0, 0⟩ : Rg)).drop (0 + n) = a ++ List.replicate n' (⟨0, 0⟩ : Rg) := by
  rw [List.take_zero, List.nil_append, List.drop_replicate]
  congr 2
  omega
theorem copied1 (a b : List Rg) (n n' : Nat) (h : n = a.length) (_h' : n' = b.length) : (a ++ List.replicate n' (⟨0, 0⟩ : Rg)).take n ++ b ++ (a ++ List.replicate n' (⟨0, 0⟩ : Rg)).drop (n + n') = a ++ b := by
  subst h
  rw [List.take_left, List.drop_eq_nil_of_le (by simp), List.append_nil]
set_option maxRecDepth 100000 in
set_option maxHeartbeats 3200000 in
theorem Join_any (w : World) (A A' : Option Addr) (n n' c c' : Nat) (a b : List Rg) (ha : Sl w w.heap.size A (rv a)) (hb : Sl w w.heap.size A' (rv b)) (h0 : n = a.length) (h1 : n' = b.length) (hl : n ≤ 10000000) (hl' : n' ≤ 10000000) (hc' : n' ≤ c') :
    Calls Try.prog 28 #[.slice A n c, .slice A' n' c'] w (RAns w (joinS a b)) := by
  have hra := RRight_any w A n c a ha h0 (by omega)
  have hrb := fun W (hW : Below w.heap.size w W) => RRight_any W A' n' c' b ((hb.below hW).more hW.size) h1 (by omega)
  obtain ⟨p, hp⟩ : ∃ p, right a = p := ⟨_, rfl⟩
  obtain ⟨q, hq⟩ : ∃ q, right b = q := ⟨_, rfl⟩
  rw [hp] at hra
  rw [hq] at hrb
  have HA := Lib.hid hra
  have HB := Lib.hid hrb
  have HN := Lib.hid (And.intro h0 h1)
  clear hra hrb h0 h1
  cases p with
  | false =>
    have HJ := Lib.hid (show joinS a b = [] by rw [joinS, if_neg (by rw [hp]; simp)])
    clear hp hq ha hb
    go_enter Try.func28, Try.ntmps28
    go_wp2_with fail
    refine HA.out.mono ?_
    rintro e w1 ⟨rfl, h1⟩
    go_wp2_with fail
    go_ret
    rw [HJ.out]
    exact RAns.nil h1
  | true =>
    cases q with
    | false =>
      have HJ := Lib.hid (show joinS a b = [] by rw [joinS, if_neg (by rw [hq]; simp)])
      clear hp hq ha hb
      go_enter Try.func28, Try.ntmps28
      go_wp2_with fail
      refine HA.out.mono ?_
      rintro e w1 ⟨rfl, h1⟩
      go_wp2_with fail
      refine (HB.out w1 h1).mono ?_
      rintro e w2 ⟨rfl, h2⟩
      have hbz := h1.trans (h2.mono h1.size)
      go_wp2_with fail
      go_ret
      rw [HJ.out]
      exact RAns.nil hbz
    | true =>
      have hokab : ∀ r ∈ a ++ b, r.ok = true := fun r hr => by
        rcases List.mem_append.1 hr with h | h
        · exact right_ok hp r h
        · exact right_ok hq r h
      have HJ := Lib.hid (And.intro hp (And.intro hq hokab))
      clear hokab
      clear hp hq
      have HC0 := Lib.hid (copied0 a n n' HN.out.1)
      have HC1 := Lib.hid (copied1 a b n n' HN.out.1 HN.out.2)
      rcases Nat.eq_zero_or_pos n' with h0 | hpos
      · subst h0
        simp only [Nat.add_zero] at HC0
        have hnn : IntKind.i64.wrap (n : Int) = (n : Int) := by rw [IntKind.wrap_i64]; omega
        go_enter Try.func28, Try.ntmps28
        go_wp2_with fail
        refine HA.out.mono ?_
        rintro e w1 ⟨rfl, h1⟩
        go_wp2_with fail
        refine (HB.out w1 h1).mono ?_
        rintro e w2 ⟨rfl, h2⟩
        have hbz := h1.trans (h2.mono h1.size)
        have ha2 := (ha.below hbz).more hbz.size
        have hb2 := (hb.below hbz).more hbz.size
        clear ha hb h1 h2
        go_wp2_with (first
          | (at_make; refine mkR (n := n) rfl rfl rfl rfl ?_ ?_ (by omega) ?_; (all_goals try omega); intro w3 hown3 hg3; have ha3 := ha2.below (below_noneR hg3); have hb3 := hb2.below (below_noneR hg3); have hbz3 := hbz.trans ((below_noneR hg3).mono hbz.size))
          | (refine copyR (s := .tmp 20) (x := .tmp 21) rfl rfl hown3 0 ha3 HN.out.1 rfl rfl (fun _ => rfl) (by omega) (by simp) ?_; intro w4 hown4 hg4; have hb4 := hb3.grown hg4 (fun g' e => by cases e; exact Nat.le_refl _); rw [HC0.out] at hown4)
          | (refine copyR (s := .tmp 26) (x := .tmp 27) rfl rfl hown4 n hb4 HN.out.2 rfl rfl (fun h => by first | rfl | omega) (by omega) (by have := HN.out; simp <;> omega) ?_; intro w5 hown5 hg5; rw [HC1.out] at hown5))
        have hbz5 := (hbz3.trans (below_of_grown hg4 (fun g' e => by cases e; exact hbz.size) hbz3.size)).trans (below_of_grown hg5 (fun g' e => by cases e; exact hbz.size) (Nat.le_trans hbz3.size hg4.size))
        refine (All_any w5 w2.heap.size _ (a ++ b) hown5 (Nat.le_trans (below_noneR hg3).size (Nat.le_trans hg4.size hg5.size)) HJ.out.2.2 (by have := HN.out; simp; omega)).mono ?_
        rintro e w6 ⟨l', v6, rfl, hso, hown6, h6⟩
        have hfin := all_join HJ.out.1 HJ.out.2.1 hso.2.1 hso.2.2
        have hbz6 := hbz5.trans (h6.mono hbz.size)
        rw [hfin] at hown6
        clear hfin
        go_wp2_with fail
        go_ret
        exact RAns.of hown6 hbz6
      · have hnn : IntKind.i64.wrap ((n : Int) + (n' : Int)) = ((n + n' : Nat) : Int) := by rw [IntKind.wrap_i64]; omega
        have hne : ¬ n + n' = n := by omega
        go_enter Try.func28, Try.ntmps28
        go_wp2_with fail
        refine HA.out.mono ?_
        rintro e w1 ⟨rfl, h1⟩
        go_wp2_with fail
        refine (HB.out w1 h1).mono ?_
        rintro e w2 ⟨rfl, h2⟩
        have hbz := h1.trans (h2.mono h1.size)
        have ha2 := (ha.below hbz).more hbz.size
        have hb2 := (hb.below hbz).more hbz.size
        clear ha hb h1 h2
        go_wp2_with (first
          | (at_make; refine mkR (n := n + n') rfl rfl rfl rfl ?_ ?_ (by omega) ?_; (all_goals try omega); intro w3 hown3 hg3; have ha3 := ha2.below (below_noneR hg3); have hb3 := hb2.below (below_noneR hg3); have hbz3 := hbz.trans ((below_noneR hg3).mono hbz.size))
          | (refine copyR (s := .tmp 20) (x := .tmp 21) rfl rfl hown3 0 ha3 HN.out.1 rfl rfl (fun _ => rfl) (by omega) (by simp) ?_; intro w4 hown4 hg4; have hb4 := hb3.grown hg4 (fun g' e => by cases e; exact Nat.le_refl _); rw [HC0.out] at hown4)
          | (refine copyR (s := .tmp 26) (x := .tmp 27) rfl rfl hown4 n hb4 HN.out.2 rfl rfl (fun h => by first | rfl | omega) (by omega) (by have := HN.out; simp <;> omega) ?_; intro w5 hown5 hg5; rw [HC1.out] at hown5))
        have hbz5 := (hbz3.trans (below_of_grown hg4 (fun g' e => by cases e; exact hbz.size) hbz3.size)).trans (below_of_grown hg5 (fun g' e => by cases e; exact hbz.size) (Nat.le_trans hbz3.size hg4.size))
        refine (All_any w5 w2.heap.size _ (a ++ b) hown5 (Nat.le_trans (below_noneR hg3).size (Nat.le_trans hg4.size hg5.size)) HJ.out.2.2 (by have := HN.out; simp; omega)).mono ?_
        rintro e w6 ⟨l', v6, rfl, hso, hown6, h6⟩
        have hfin := all_join HJ.out.1 HJ.out.2.1 hso.2.1 hso.2.2
        have hbz6 := hbz5.trans (h6.mono hbz.size)
        rw [hfin] at hown6
        clear hfin
        go_wp2_with fail
        go_ret
        exact RAns.of hown6 hbz6
end Go.Proofs.Ytaflikgdlkaefaa
/- Ranges: span.Add, span.Of. -/
namespace Go.Proofs.Ytaflikgdlkaefaa
open Go.RowKit Go.Proofs.Ytaflikgdlkaefaa.Pl Go.Proofs.Ytaflikgdlkaefaa.Sp
set_option maxRecDepth 20000

theorem Sl.oneR (w : World) (r : Rg) : Sl (w.alloc (.cells #[.int .i64 r.a, .int .i64 r.b] 44)) (w.alloc (.cells #[.int .i64 r.a, .int .i64 r.b] 44)).heap.size (some ⟨w.heap.size, 0, none⟩) (rv [r]) :=
  (Sl.new w 44 #[.int .i64 r.a, .int .i64 r.b] (0, 0)).more (by simp)
/-! ### numbers as cells -/
def zv (l : List Int) : List Value := l.map (fun x => Value.int .i64 x)
@[simp] theorem zv_len (l : List Int) : (zv l).length = l.length := by simp [zv]
theorem zv_get (l : List Int) (k : Nat) (h : k < l.length) : (zv l)[k]? = some (.int .i64 (l[k]?.getD 0)) := by
  simp [zv, List.getElem?_map, List.getElem?_eq_getElem h]
theorem zAt {w : World} {B : Nat} {A : Option Addr} {ls : List Int} (h : Sl w B A (zv ls)) {k : Nat} (hk : k < ls.length) :
    ∃ b o, A = some ⟨b, o, none⟩ ∧ b < B ∧ b < w.heap.size ∧ w.cell? ⟨b, o + k, none⟩ = some (.int .i64 (ls[k]?.getD 0)) := by
  obtain ⟨b, o, e, h1, h2, hc⟩ := h.at_ (k := k) (by simpa using hk)
  exact ⟨b, o, e, h1, h2, hc k _ (zv_get ls k hk)⟩
def fl (l : List Int) : List Rg := (l.filter numOk).map (fun n => ⟨n, n⟩)
theorem fl_take {l : List Int} {k : Nat} (hk : k < l.length) : fl (l.take (k + 1)) = fl (l.take k) ++ if numOk (l[k]?.getD 0) = true then [⟨l[k]?.getD 0, l[k]?.getD 0⟩] else [] := by
  rw [List.take_succ_eq_append_getElem hk, List.getElem?_eq_getElem hk, Option.getD_some]
  unfold fl
  rw [List.filter_append, List.map_append]
  congr 1
  by_cases h : numOk l[k] = true <;> simp [h]
theorem fl_len (l : List Int) : (fl l).length ≤ l.length := by
  unfold fl
  rw [List.length_map]
  exact List.length_filter_le _ _
theorem fl_mem {l : List Int} {r : Rg} : r ∈ fl l ↔ ∃ n ∈ l, numOk n = true ∧ r = ⟨n, n⟩ := by
  unfold fl
  simp only [List.mem_map, List.mem_filter]
  constructor
  · rintro ⟨n, ⟨h1, h2⟩, rfl⟩; exact ⟨n, h1, h2, rfl⟩
  · rintro ⟨n, h1, h2, rfl⟩; exact ⟨n, ⟨h1, h2⟩, rfl⟩
theorem fl_ok {l : List Int} : ∀ r ∈ fl l, r.ok = true := fun r hr => by
  obtain ⟨n, _, h, rfl⟩ := fl_mem.1 hr
  rw [numOk, decide_eq_true_eq] at h
  exact ok_iff.2 ⟨h.1, Int.le_refl _, h.2⟩
set_option maxRecDepth 100000 in
set_option maxHeartbeats 3200000 in
theorem Of_any (w : World) (A : Option Addr) (n c : Nat) (l : List Int) (hb : Sl w w.heap.size A (zv l)) (h0 : n = l.length) (hl : n ≤ 10000000) :
    Calls Try.prog 52 #[.slice A n c] w (RAns w (ofS l)) := by
  have HN := Lib.hid h0
  clear h0
  go_enter Try.func52, Try.ntmps52
  go_wp2_with fail
  go_loopw [3, 8] (fun x3 x8 wr => ∃ (k : Nat) (x : Value), k ≤ n ∧ x8 = .int .i64 (k : Int) ∧ x = x3 ∧ OwnR wr w.heap.size x (fl (l.take k)) ∧ Below w.heap.size w wr) (fun _ x8 _ => n - (intOf x8).toNat)
  case atStart => exact ⟨0, _, by omega, rfl, rfl, OwnR.nil _ _, Below.refl _ _⟩
  case round =>
    obtain ⟨k, x3, hk, rfl, rfl, hown, hbel⟩ := hrel
    by_cases hlt : k < n
    · have hkl : k < l.length := by have := HN.out; omega
      obtain ⟨b, o, rfl, _, hbW, c0⟩ := zAt hb hkl
      replace c0 := (hbel.cell hbW).trans c0
      have hstep := fl_take hkl
      have hfl := fl_len (l.take k)
      rw [List.length_take] at hfl
      generalize l[k]?.getD 0 = x at *
      generalize fl (l.take k) = q at *
      have hd1 : decide ((k : Int) < (n : Int)) = true := by rw [decide_eq_true_eq]; omega
      have hn0 : (0 : Int) ≤ (k : Int) := by omega
      have hn1 : (k : Int) < (n : Int) := by omega
      by_cases hx : numOk x = true
      · rw [if_pos hx] at hstep
        have HT := Lib.hid hstep
        rw [numOk, decide_eq_true_eq] at hx
        unfold mx at hx
        have d1 : decide (1 ≤ x) = true := by rw [decide_eq_true_eq]; exact hx.1
        have d2 : decide (x ≤ 1099511627775) = true := by rw [decide_eq_true_eq]; exact hx.2
        have how2 := hown.below (boxR wr ⟨x, x⟩)
        have hbx := hbel.alloc hbel.size (.cells #[.int .i64 x, .int .i64 x] 44)
        have hSl := Sl.oneR wr ⟨x, x⟩
        have HL := Lib.hid (show q.length + 1 ≤ 1000000000 by omega)
        clear hx hown hstep hfl
        go_wp2_with (at_builtin; refine appR rfl rfl how2 hSl rfl rfl rfl (by rw [List.length_singleton]; exact HL.out) hbx.size ?_; intro v7 w7 h7 hg7 hat7)
        go_roundw
        case rel => exact ⟨k + 1, _, by omega, by go_num, rfl, by rw [HT.out]; exact h7, own_belowR hbx hbx.size how2 hg7⟩
        case measure => simp [intOf]; omega
      · rw [if_neg hx, List.append_nil] at hstep
        have HT := Lib.hid hstep
        have hx' : ¬ (1 ≤ x ∧ x ≤ 1099511627775) := by
          rw [numOk, decide_eq_true_eq] at hx
          unfold mx at hx
          exact hx
        clear hx hstep hfl
        by_cases h1 : 1 ≤ x
        · have d1 : decide (1 ≤ x) = true := by rw [decide_eq_true_eq]; exact h1
          have d2 : decide (x ≤ 1099511627775) = false := by rw [decide_eq_false_iff_not]; omega
          clear h1 hx'
          go_wp2_with fail
          go_roundw
          case rel => exact ⟨k + 1, _, by omega, by go_num, rfl, by rw [HT.out]; exact hown, hbel⟩
          case measure => simp [intOf]; omega
        · have d1 : decide (1 ≤ x) = false := by rw [decide_eq_false_iff_not]; exact h1
          clear h1 hx'
          go_wp2_with fail
          go_roundw
          case rel => exact ⟨k + 1, _, by omega, by go_num, rfl, by rw [HT.out]; exact hown, hbel⟩
          case measure => simp [intOf]; omega
    · obtain rfl : k = n := by omega
      have hd1 : decide ((k : Int) < (k : Int)) = false := by rw [decide_eq_false_iff_not]; omega
      rw [List.take_of_length_le (by have := HN.out; omega)] at hown
      have HA := Lib.hid (All_any wr w.heap.size _ (fl l) hown hbel.size fl_ok (by have := HN.out; have := fl_len l; omega))
      clear hown
      go_wp2_with fail
      refine HA.out.mono ?_
      rintro e w6 ⟨l', v6, rfl, hso, hown6, h6⟩
      have hfin := all_of (xs := l) (l := l') (fun r => (hso.2.1 r).trans fl_mem) hso.2.2
      rw [hfin] at hown6
      have hbz := hbel.trans h6
      clear hfin
      go_wp2_with fail
      go_ret
      exact RAns.of hown6 hbz
end Go.Proofs.Ytaflikgdlkaefaa
