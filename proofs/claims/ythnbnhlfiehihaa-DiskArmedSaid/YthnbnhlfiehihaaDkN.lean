/- Disks: the program's Names. -/
import Derived.Test.YthnbnhlfiehihaaDk9
import Derived.Shelf.SlIter.Nil
import Derived.Shelf.SortM.Plain
import Derived.Shelf.SortM.SortNone
import Derived.Ground.GgzProg
import Derived.Ground.SlgmProg
import Derived.Ground.NamesProg
namespace Go.Proofs
open Go.RowKit Go.Maps Go.Sort Go.Shelf
def Try.keysA_ren : Go.Shelf.Ren := ⟨fun | 7 => 53 | 10 => 63 | n => n, fun | 23 => 53 | 26 => 9 | 3 => 59 | 28 => 75 | 0 => 0 | 27 => 74 | 33 => 56 | 4 => 4 | n => n, fun | n => n⟩
theorem Try.keysA : Go.Proofs.SlLaysZ.n7 Try.prog Try.keysA_ren := {
  mixed := by kernel_rfl
  f7 := ⟨Try.f53.name, by decide, Try.func53.trans (congrArg some (by kernel_rfl))⟩
  f10 := ⟨Try.f63.name, by decide, Try.func63.trans (congrArg some (by kernel_rfl))⟩
  t0 := Try.underlying0
  a0 := Try.isAgg0
  z0 := Try.sizeOf0
  v0 := Try.zeroValue0
  t4 := Try.underlying4
  a4 := Try.isAgg4
  z4 := Try.sizeOf4
  v4 := Try.zeroValue4
  t23 := Try.underlying53
  a23 := Try.isAgg53
  z23 := Try.sizeOf53
  v23 := Try.zeroValue53
  t26 := Try.underlying9
  a26 := Try.isAgg9
  z26 := Try.sizeOf9
  v26 := Try.zeroValue9
  t27 := Try.underlying74
  a27 := Try.isAgg74
  z27 := Try.sizeOf74
  v27 := Try.zeroValue74
  t28 := Try.underlying75
  a28 := Try.isAgg75
  z28 := Try.sizeOf75
  v28 := Try.zeroValue75
  t33 := Try.underlying56
  a33 := Try.isAgg56
  z33 := Try.sizeOf56
  v33 := Try.zeroValue56 }
def Try.sortedA_ren : Go.Shelf.Ren := ⟨fun | 6 => 52 | 8 => 61 | 9 => 62 | 11 => 64 | 13 => 66 | 12 => 65 | 23 => 76 | 24 => 77 | 14 => 67 | 15 => 68 | 16 => 69 | 17 => 70 | 18 => 71 | 19 => 72 | 20 => 73 | 21 => 74 | 22 => 75 | 25 => 78 | 26 => 79 | 27 => 80 | 28 => 81 | 29 => 82 | 30 => 83 | 31 => 84 | n => n, fun | 26 => 9 | 28 => 75 | 24 => 49 | 0 => 0 | 3 => 3 | 37 => 89 | 48 => 100 | 50 => 102 | 4 => 4 | 40 => 92 | 39 => 91 | 45 => 97 | 5 => 5 | 9 => 9 | 51 => 103 | 55 => 107 | 57 => 109 | 58 => 110 | 33 => 56 | n => n, fun | n => n⟩
theorem Try.sortedA : Go.Proofs.SlLaysZ.n6 Try.prog Try.sortedA_ren := {
  mixed := by kernel_rfl
  f6 := ⟨Try.f52.name, by decide, Try.func52.trans (congrArg some (by kernel_rfl))⟩
  f8 := ⟨Try.f61.name, by decide, Try.func61.trans (congrArg some (by kernel_rfl))⟩
  f11 := ⟨Try.f64.name, by decide, Try.func64.trans (congrArg some (by kernel_rfl))⟩
  t0 := Try.underlying0
  a0 := Try.isAgg0
  z0 := Try.sizeOf0
  v0 := Try.zeroValue0
  t24 := Try.underlying49
  a24 := Try.isAgg49
  z24 := Try.sizeOf49
  v24 := Try.zeroValue49
  t26 := Try.underlying9
  a26 := Try.isAgg9
  z26 := Try.sizeOf9
  v26 := Try.zeroValue9
  t28 := Try.underlying75
  a28 := Try.isAgg75
  z28 := Try.sizeOf75
  v28 := Try.zeroValue75
  i26 := by kernel_rfl }
def Try.sortA_ren : Go.Shelf.Ren := ⟨fun | 6 => 62 | 8 => 66 | 9 => 65 | 19 => 76 | 20 => 77 | 21 => 67 | 22 => 68 | 23 => 69 | 24 => 70 | 25 => 71 | 26 => 72 | 27 => 73 | 28 => 74 | 29 => 75 | 36 => 78 | 31 => 79 | 32 => 80 | 37 => 81 | 38 => 82 | 39 => 83 | 41 => 84 | n => n, fun | 27 => 49 | 29 => 9 | 3 => 3 | 32 => 89 | 26 => 49 | 0 => 0 | 44 => 100 | 46 => 102 | 4 => 4 | 36 => 92 | 35 => 91 | 41 => 97 | 5 => 5 | 9 => 9 | 53 => 103 | 57 => 107 | 63 => 109 | 64 => 110 | n => n, fun | n => n⟩
theorem Try.sortA : Go.Proofs.SlLaysM.n6 Try.prog Try.sortA_ren := {
  mixed := by kernel_rfl
  f6 := ⟨Try.f62.name, by decide, Try.func62.trans (congrArg some (by kernel_rfl))⟩
  f8 := Try.func66.trans (congrArg some (by kernel_rfl))
  f9 := ⟨Try.f65.name, by decide, Try.func65.trans (congrArg some (by kernel_rfl))⟩
  f19 := Try.func76.trans (congrArg some (by kernel_rfl))
  f20 := Try.func77.trans (congrArg some (by kernel_rfl))
  f21 := ⟨Try.f67.name, by decide, Try.func67.trans (congrArg some (by kernel_rfl))⟩
  f22 := ⟨Try.f68.name, by decide, Try.func68.trans (congrArg some (by kernel_rfl))⟩
  f23 := ⟨Try.f69.name, by decide, Try.func69.trans (congrArg some (by kernel_rfl))⟩
  f24 := ⟨Try.f70.name, by decide, Try.func70.trans (congrArg some (by kernel_rfl))⟩
  f25 := ⟨Try.f71.name, by decide, Try.func71.trans (congrArg some (by kernel_rfl))⟩
  f26 := ⟨Try.f72.name, by decide, Try.func72.trans (congrArg some (by kernel_rfl))⟩
  f27 := ⟨Try.f73.name, by decide, Try.func73.trans (congrArg some (by kernel_rfl))⟩
  f28 := ⟨Try.f74.name, by decide, Try.func74.trans (congrArg some (by kernel_rfl))⟩
  f29 := ⟨Try.f75.name, by decide, Try.func75.trans (congrArg some (by kernel_rfl))⟩
  f31 := Try.func79.trans (congrArg some (by kernel_rfl))
  f32 := Try.func80.trans (congrArg some (by kernel_rfl))
  f36 := ⟨Try.f78.name, by decide, Try.func78.trans (congrArg some (by kernel_rfl))⟩
  f37 := ⟨Try.f81.name, by decide, Try.func81.trans (congrArg some (by kernel_rfl))⟩
  f38 := ⟨Try.f82.name, by decide, Try.func82.trans (congrArg some (by kernel_rfl))⟩
  f39 := ⟨Try.f83.name, by decide, Try.func83.trans (congrArg some (by kernel_rfl))⟩
  f41 := ⟨Try.f84.name, by decide, Try.func84.trans (congrArg some (by kernel_rfl))⟩
  t0 := Try.underlying0
  a0 := Try.isAgg0
  z0 := Try.sizeOf0
  v0 := Try.zeroValue0
  t3 := Try.underlying3
  a3 := Try.isAgg3
  z3 := Try.sizeOf3
  v3 := Try.zeroValue3
  t4 := Try.underlying4
  a4 := Try.isAgg4
  z4 := Try.sizeOf4
  v4 := Try.zeroValue4
  t5 := Try.underlying5
  a5 := Try.isAgg5
  z5 := Try.sizeOf5
  v5 := Try.zeroValue5
  t9 := Try.underlying9
  a9 := Try.isAgg9
  z9 := Try.sizeOf9
  v9 := Try.zeroValue9
  t26 := Try.underlying49
  a26 := Try.isAgg49
  z26 := Try.sizeOf49
  v26 := Try.zeroValue49
  t27 := Try.underlying49
  a27 := Try.isAgg49
  z27 := Try.sizeOf49
  v27 := Try.zeroValue49
  t29 := Try.underlying9
  a29 := Try.isAgg9
  z29 := Try.sizeOf9
  v29 := Try.zeroValue9
  t32 := Try.underlying89
  a32 := Try.isAgg89
  z32 := Try.sizeOf89
  v32 := Try.zeroValue89
  t35 := Try.underlying91
  a35 := Try.isAgg91
  z35 := Try.sizeOf91
  v35 := Try.zeroValue91
  t36 := Try.underlying92
  a36 := Try.isAgg92
  z36 := Try.sizeOf92
  v36 := Try.zeroValue92
  t41 := Try.underlying97
  a41 := Try.isAgg97
  z41 := Try.sizeOf97
  v41 := Try.zeroValue97
  t44 := Try.underlying100
  a44 := Try.isAgg100
  z44 := Try.sizeOf100
  v44 := Try.zeroValue100
  t46 := Try.underlying102
  a46 := Try.isAgg102
  z46 := Try.sizeOf102
  v46 := Try.zeroValue102
  t53 := Try.underlying103
  a53 := Try.isAgg103
  z53 := Try.sizeOf103
  v53 := Try.zeroValue103
  t57 := Try.underlying107
  a57 := Try.isAgg107
  z57 := Try.sizeOf107
  v57 := Try.zeroValue107
  t63 := Try.underlying109
  a63 := Try.isAgg109
  z63 := Try.sizeOf109
  v63 := Try.zeroValue109
  t64 := Try.underlying110
  a64 := Try.isAgg110
  z64 := Try.sizeOf110
  v64 := Try.zeroValue110 }
theorem Try.sortsA (m : Nat) : AnyZ.SortsIn Try.prog Try.sortedA_ren Fence.wide m :=
  ⟨fun blk off cap ss W hH hblk hsz => callsIn_wide.2 (AnyM.slices_Sort_string Try.sortA blk off cap ss W hH hblk hsz),
   fun p cap W => callsIn_wide.2 (AnyM.slices_Sort_string_none Try.sortA p cap W)⟩
end Go.Proofs
namespace Go.Proofs.Ythnbnhlfiehihaa
open Go.RowKit Go.Maps Go.Sort Go.Shelf
set_option maxRecDepth 20000

set_option maxHeartbeats 1000000 in
theorem names_raw {H : Type} (p b nn : Nat) (D0 : DataW H) (R : Value → Option (DataW H × List MemPlace)) (w : World) (hown : w.ownsMap Try.prog 9 R b nn D0) (hmax : Maps.size D0 ≤ maxLen) (hbytes : Maps.size D0 * 16 ≤ 140737488355328) (c0 : w.cell? ⟨p, 0, none⟩ = some (.map (some b))) :
    Calls Try.prog 25 #[.pointer (some ⟨p, 0, none⟩)] w fun e w' => ∃ (v : Value) (ss : List (List UInt8)), e = .returned v ∧ ss.Perm (strKeys D0) ∧
      w'.ownsRow w.heap.size 9 1 v ss.length ((ss.mergeSort (fun x y => decide (x ≤ y))).map encStr) ∧ (v = .slice none 0 0 ↔ ss = []) ∧ Below w.heap.size w w' := by
  refine (callsIn_wide (n := 6)).1 ?_
  have hbl := hown.lt
  have hseq : SeqGives Fence.wide 2 Try.prog 63 #[.pointer (some ⟨w.heap.size, 0, none⟩)] encStr (fun ss => ss.Perm (strKeys D0)) (Maps.size D0) (w.alloc (.cells #[.map (some b)] 53)) :=
    AnyZ.keys_gives (ρ := Try.keysA_ren) { Try.keysA with } Fence.wide _ trivial rfl (by omega) w.heap.size b nn D0 _ (by simp) (by simp) (by
      obtain ⟨es, clock, hb, Ft, hs, hD⟩ := hown
      exact ⟨es, clock, (Below.heap_alloc _ _ b hbl).trans hb, Ft, hs, hD⟩)
  have cK : ∀ mb W, CallsIn Fence.wide 5 Try.prog 53 #[.map mb] W fun e w' => e = .returned (.func (.func 63) #[] #[.pointer (some ⟨W.heap.size, 0, none⟩)]) ∧ w' = W.alloc (.cells #[.map mb] 53) := fun mb W => AnyZ.keys_in Try.keysA Fence.wide 5 trivial rfl mb W
  have cS := AnyZ.sorted_in Try.sortedA Fence.wide 5 trivial trivial trivial trivial rfl (by omega) (Try.sortsA _) (enters_of Try.func62 (by kernel_rfl) rfl) 63 #[.pointer (some ⟨w.heap.size, 0, none⟩)] trivial (enters_of Try.func63 (by kernel_rfl) rfl) _ _ hmax hbytes _ hseq
  change CallsIn _ _ Try.prog 52 _ _ _ at cS
  have hfK : Fence.wide.fn 53 := trivial
  have hfS : Fence.wide.fn 52 := trivial
  refine callsIn_of_wp Try.func25 rfl trivial ?_ rfl
  simp only [Try.ntmps25, List.size_toArray, List.length_cons, List.length_nil, Nat.reduceAdd, Nat.reduceSub, Array.replicate_succ, Array.replicate_zero, List.push_toArray, List.append_toArray, List.nil_append, List.cons_append]
  gi_wp2_with (first
    | (gi_at_call 53; refine (cK _ _).mono ?_; rintro e w' ⟨rfl, rfl⟩)
    | (gi_at_call 52; refine cS.mono ?_; rintro e w' ⟨v, ss, rfl, hS, hrow, hnil, hb⟩))
  go_ret
  exact ⟨v, ss, rfl, hS, ownsRow_base_a hrow (by simp), hnil, ((Below.refl _ w).alloc (Nat.le_refl _) _).trans (hb.mono (by simp))⟩
theorem sort_names {ss l : List Nm} (hp : ss.Perm l) (hl : l.Pairwise (· < ·)) : ss.mergeSort (fun x y => decide (x ≤ y)) = l := by
  refine List.Perm.eq_of_pairwise (le := fun x y : Nm => decide (x ≤ y) = true) (fun a b _ _ h1 h2 => ?_) ?_ ?_ ((List.mergeSort_perm ss _).trans hp)
  · exact List.le_antisymm (by simpa using h1) (by simpa using h2)
  · refine List.pairwise_mergeSort (fun a b c h1 h2 => ?_) (fun a b => ?_) ss
    · simp only [decide_eq_true_eq] at *
      exact List.le_trans h1 h2
    · simp only [Bool.or_eq_true, decide_eq_true_eq]
      exact List.le_total a b
  · exact hl.imp fun h => by simpa using List.le_of_lt h
/-- names in memory: a slice whose block is new since w -/
def NamesAt (w w' : World) (A : Option Addr) (c : Nat) (l : List Nm) : Prop := Sl w' w'.heap.size A (l.map str) ∧ l.length ≤ c ∧ c ≤ maxLen ∧ (A = none → l = []) ∧ ∀ a, A = some a → w.heap.size ≤ a.block ∧ a.spot = none ∧ a.off = 0
theorem Names_any (w : World) (p : Nat) (F H : Nat → Prop) (s : DK) (n : Nat) (h : PD w p F H s) (hok : s.ok n) (hn : n < 1000000) :
    Calls Try.prog 25 #[.pointer (some ⟨p, 0, none⟩)] w fun e w' => ∃ A c, e = .returned (.slice A s.R.length c) ∧ NamesAt w w' A c s.names ∧ Below w.heap.size w w' := by
  obtain ⟨mb, G, h1, ⟨hk, es, ho, hp⟩, h3, _⟩ := h
  have hlen : es.length = s.R.length := by rw [hp.length_eq, List.length_map, mapN_len, ← mapN_len FV.f, h3]
  have hfl := hok.files
  have hcl := hok.calls
  have hsz : Maps.size (.map es : DataW Unit) = s.R.length := by rw [Maps.size_eq, hlen]
  have hkeys : (strKeys (.map es : DataW Unit)).Perm s.names := by
    have h4 : s.names = ((mapN FV.raw G).map MD.ent).map fun p => strOf p.1 := by
      rw [DK.names, ← h3]
      simp [mapN, MT.ent, MD, strOf]
    rw [h4]
    exact hp.map _
  refine (names_raw p mb _ _ _ w ho (by rw [hsz]; simp only [maxLen]; omega) (by rw [hsz]; omega) (h1.c 0 rfl)).mono ?_
  rintro e w' ⟨v, ss, rfl, hperm, hrow, hnil, hb⟩
  have hsl : ss.length = s.R.length := by rw [(hperm.trans hkeys).length_eq, DK.names, List.length_map]
  rw [sort_names (hperm.trans hkeys) (rise_names.1 hok.rise), hsl] at hrow
  rcases hrow.2 with ⟨rfl, h0⟩ | ⟨g, cap, cur, rfl, hbase, hg, k1, k2, _⟩
  · have e0 : s.names = [] := List.eq_nil_of_length_eq_zero (by rw [DK.names, List.length_map]; exact h0)
    refine ⟨none, 0, by rw [h0], ⟨.inl (by rw [e0]; rfl), by rw [e0]; exact Nat.le_refl _, Nat.zero_le _, fun _ => e0, (fun a h => (by cases h))⟩, hb⟩
  · have hlt := (Array.getElem?_eq_some_iff.1 hg).1
    refine ⟨_, cap, rfl, ⟨.inr ⟨g, 0, rfl, hlt, hlt, fun j u hu => ?_⟩, by rw [DK.names, List.length_map]; exact k1, k2, (fun e => (by cases e)), (fun a h => by cases h; exact ⟨hbase, rfl, rfl⟩)⟩, hb⟩
    have := World.ownsRow.cells hrow (g := g) rfl j u hu
    rw [addr0] at this
    simpa using this
end Go.Proofs.Ythnbnhlfiehihaa

