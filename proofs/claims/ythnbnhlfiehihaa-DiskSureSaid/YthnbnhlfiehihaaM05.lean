/- Disks: the program's Names. -/
import Derived.Shelf.SlIter.Nil
import Derived.Shelf.SortM.Plain
import Derived.Shelf.SortM.SortNone
import Derived.Ground.GgzProg
import Derived.Ground.SlgmProg
import Derived.Ground.NamesProg
import Derived.Shelf.SlMaps.Clone
import Derived.Shelf.Abstract
import Derived.Ground.SlmcProg
import Derived.Test.YthnbnhlfiehihaaM00
import Derived.Test.YthnbnhlfiehihaaM01
import Derived.Test.YthnbnhlfiehihaaM03
import Derived.Test.YthnbnhlfiehihaaM04
namespace Go.Proofs
open Go.RowKit Go.Maps Go.Sort Go.Shelf
def Try.keysA_ren : Go.Shelf.Ren := ⟨fun | 7 => 53 | 10 => 63 | n => n, fun | 23 => 53 | 26 => 9 | 3 => 59 | 28 => 75 | 0 => 0 | 27 => 74 | 33 => 56 | 4 => 4 | n => n, fun | n => n⟩
theorem Try.keysA : Go.Proofs.SlLaysZ.n7 Try.prog Try.keysA_ren := {
  mixed := by kernel_rfl
  f7 := ⟨Try.f53.name, by decide, Try.func53.trans (congrArg some (by kernel_rfl))⟩
  f10 := ⟨Try.f63.name, by decide, Try.func63.trans (congrArg some (by kernel_rfl))⟩
  t0 := Try.underlying0
  a0 := Try.isAgg0
  z0 := Try.sizeOf0
  v0 := Try.zeroValue0
  t4 := Try.underlying4
  a4 := Try.isAgg4
  z4 := Try.sizeOf4
  v4 := Try.zeroValue4
  t23 := Try.underlying53
  a23 := Try.isAgg53
  z23 := Try.sizeOf53
  v23 := Try.zeroValue53
  t26 := Try.underlying9
  a26 := Try.isAgg9
  z26 := Try.sizeOf9
  v26 := Try.zeroValue9
  t27 := Try.underlying74
  a27 := Try.isAgg74
  z27 := Try.sizeOf74
  v27 := Try.zeroValue74
  t28 := Try.underlying75
  a28 := Try.isAgg75
  z28 := Try.sizeOf75
  v28 := Try.zeroValue75
  t33 := Try.underlying56
  a33 := Try.isAgg56
  z33 := Try.sizeOf56
  v33 := Try.zeroValue56 }
def Try.sortedA_ren : Go.Shelf.Ren := ⟨fun | 6 => 52 | 8 => 61 | 9 => 62 | 11 => 64 | 13 => 66 | 12 => 65 | 23 => 76 | 24 => 77 | 14 => 67 | 15 => 68 | 16 => 69 | 17 => 70 | 18 => 71 | 19 => 72 | 20 => 73 | 21 => 74 | 22 => 75 | 25 => 78 | 26 => 79 | 27 => 80 | 28 => 81 | 29 => 82 | 30 => 83 | 31 => 84 | n => n, fun | 26 => 9 | 28 => 75 | 24 => 49 | 0 => 0 | 3 => 3 | 37 => 89 | 48 => 100 | 50 => 102 | 4 => 4 | 40 => 92 | 39 => 91 | 45 => 97 | 5 => 5 | 9 => 9 | 51 => 103 | 55 => 107 | 57 => 109 | 58 => 110 | 33 => 56 | n => n, fun | n => n⟩
theorem Try.sortedA : Go.Proofs.SlLaysZ.n6 Try.prog Try.sortedA_ren := {
  mixed := by kernel_rfl
  f6 := ⟨Try.f52.name, by decide, Try.func52.trans (congrArg some (by kernel_rfl))⟩
  f8 := ⟨Try.f61.name, by decide, Try.func61.trans (congrArg some (by kernel_rfl))⟩
  f11 := ⟨Try.f64.name, by decide, Try.func64.trans (congrArg some (by kernel_rfl))⟩
  t0 := Try.underlying0
  a0 := Try.isAgg0
  z0 := Try.sizeOf0
  v0 := Try.zeroValue0
  t24 := Try.underlying49
  a24 := Try.isAgg49
  z24 := Try.sizeOf49
  v24 := Try.zeroValue49
  t26 := Try.underlying9
  a26 := Try.isAgg9
  z26 := Try.sizeOf9
  v26 := Try.zeroValue9
  t28 := Try.underlying75
  a28 := Try.isAgg75
  z28 := Try.sizeOf75
  v28 := Try.zeroValue75
  i26 := by kernel_rfl }
def Try.sortA_ren : Go.Shelf.Ren := ⟨fun | 6 => 62 | 8 => 66 | 9 => 65 | 19 => 76 | 20 => 77 | 21 => 67 | 22 => 68 | 23 => 69 | 24 => 70 | 25 => 71 | 26 => 72 | 27 => 73 | 28 => 74 | 29 => 75 | 36 => 78 | 31 => 79 | 32 => 80 | 37 => 81 | 38 => 82 | 39 => 83 | 41 => 84 | n => n, fun | 27 => 49 | 29 => 9 | 3 => 3 | 32 => 89 | 26 => 49 | 0 => 0 | 44 => 100 | 46 => 102 | 4 => 4 | 36 => 92 | 35 => 91 | 41 => 97 | 5 => 5 | 9 => 9 | 53 => 103 | 57 => 107 | 63 => 109 | 64 => 110 | n => n, fun | n => n⟩
theorem Try.sortA : Go.Proofs.SlLaysM.n6 Try.prog Try.sortA_ren := {
  mixed := by kernel_rfl
  f6 := ⟨Try.f62.name, by decide, Try.func62.trans (congrArg some (by kernel_rfl))⟩
  f8 := Try.func66.trans (congrArg some (by kernel_rfl))
  f9 := ⟨Try.f65.name, by decide, Try.func65.trans (congrArg some (by kernel_rfl))⟩
  f19 := Try.func76.trans (congrArg some (by kernel_rfl))
  f20 := Try.func77.trans (congrArg some (by kernel_rfl))
  f21 := ⟨Try.f67.name, by decide, Try.func67.trans (congrArg some (by kernel_rfl))⟩
  f22 := ⟨Try.f68.name, by decide, Try.func68.trans (congrArg some (by kernel_rfl))⟩
  f23 := ⟨Try.f69.name, by decide, Try.func69.trans (congrArg some (by kernel_rfl))⟩
  f24 := ⟨Try.f70.name, by decide, Try.func70.trans (congrArg some (by kernel_rfl))⟩
  f25 := ⟨Try.f71.name, by decide, Try.func71.trans (congrArg some (by kernel_rfl))⟩
  f26 := ⟨Try.f72.name, by decide, Try.func72.trans (congrArg some (by kernel_rfl))⟩
  f27 := ⟨Try.f73.name, by decide, Try.func73.trans (congrArg some (by kernel_rfl))⟩
  f28 := ⟨Try.f74.name, by decide, Try.func74.trans (congrArg some (by kernel_rfl))⟩
  f29 := ⟨Try.f75.name, by decide, Try.func75.trans (congrArg some (by kernel_rfl))⟩
  f31 := Try.func79.trans (congrArg some (by kernel_rfl))
  f32 := Try.func80.trans (congrArg some (by kernel_rfl))
  f36 := ⟨Try.f78.name, by decide, Try.func78.trans (congrArg some (by kernel_rfl))⟩
  f37 := ⟨Try.f81.name, by decide, Try.func81.trans (congrArg some (by kernel_rfl))⟩
  f38 := ⟨Try.f82.name, by decide, Try.func82.trans (congrArg some (by kernel_rfl))⟩
  f39 := ⟨Try.f83.name, by decide, Try.func83.trans (congrArg some (by kernel_rfl))⟩
  f41 := ⟨Try.f84.name, by decide, Try.func84.trans (congrArg some (by kernel_rfl))⟩
  t0 := Try.underlying0
  a0 := Try.isAgg0
  z0 := Try.sizeOf0
  v0 := Try.zeroValue0
  t3 := Try.underlying3
  a3 := Try.isAgg3
  z3 := Try.sizeOf3
  v3 := Try.zeroValue3
  t4 := Try.underlying4
  a4 := Try.isAgg4
  z4 := Try.sizeOf4
  v4 := Try.zeroValue4
  t5 := Try.underlying5
  a5 := Try.isAgg5
  z5 := Try.sizeOf5
  v5 := Try.zeroValue5
  t9 := Try.underlying9
  a9 := Try.isAgg9
  z9 := Try.sizeOf9
  v9 := Try.zeroValue9
  t26 := Try.underlying49
  a26 := Try.isAgg49
  z26 := Try.sizeOf49
  v26 := Try.zeroValue49
  t27 := Try.underlying49
  a27 := Try.isAgg49
  z27 := Try.sizeOf49
  v27 := Try.zeroValue49
  t29 := Try.underlying9
  a29 := Try.isAgg9
  z29 := Try.sizeOf9
  v29 := Try.zeroValue9
  t32 := Try.underlying89
  a32 := Try.isAgg89
  z32 := Try.sizeOf89
  v32 := Try.zeroValue89
  t35 := Try.underlying91
  a35 := Try.isAgg91
  z35 := Try.sizeOf91
  v35 := Try.zeroValue91
  t36 := Try.underlying92
  a36 := Try.isAgg92
  z36 := Try.sizeOf92
  v36 := Try.zeroValue92
  t41 := Try.underlying97
  a41 := Try.isAgg97
  z41 := Try.sizeOf97
  v41 := Try.zeroValue97
  t44 := Try.underlying100
  a44 := Try.isAgg100
  z44 := Try.sizeOf100
  v44 := Try.zeroValue100
  t46 := Try.underlying102
  a46 := Try.isAgg102
  z46 := Try.sizeOf102
  v46 := Try.zeroValue102
  t53 := Try.underlying103
  a53 := Try.isAgg103
  z53 := Try.sizeOf103
  v53 := Try.zeroValue103
  t57 := Try.underlying107
  a57 := Try.isAgg107
  z57 := Try.sizeOf107
  v57 := Try.zeroValue107
  t63 := Try.underlying109
  a63 := Try.isAgg109
  z63 := Try.sizeOf109
  v63 := Try.zeroValue109
  t64 := Try.underlying110
  a64 := Try.isAgg110
  z64 := Try.sizeOf110
  v64 := Try.zeroValue110 }
theorem Try.sortsA (m : Nat) : AnyZ.SortsIn Try.prog Try.sortedA_ren Fence.wide m :=
  ⟨fun blk off cap ss W hH hblk hsz => callsIn_wide.2 (AnyM.slices_Sort_string Try.sortA blk off cap ss W hH hblk hsz),
   fun p cap W => callsIn_wide.2 (AnyM.slices_Sort_string_none Try.sortA p cap W)⟩
end Go.Proofs
namespace Go.Proofs.Ythnbnhlfiehihaa
open Go.RowKit Go.Maps Go.Sort Go.Shelf
set_option maxRecDepth 20000

set_option maxHeartbeats 1000000 in
theorem names_raw {H : Type} (p b nn : Nat) (D0 : DataW H) (R : Value → Option (DataW H × List MemPlace)) (w : World) (hown : w.ownsMap Try.prog 9 R b nn D0) (hmax : Maps.size D0 ≤ maxLen) (hbytes : Maps.size D0 * 16 ≤ 140737488355328) (c0 : w.cell? ⟨p, 0, none⟩ = some (.map (some b))) :
    Calls Try.prog 25 #[.pointer (some ⟨p, 0, none⟩)] w fun e w' => ∃ (v : Value) (ss : List (List UInt8)), e = .returned v ∧ ss.Perm (strKeys D0) ∧
      w'.ownsRow w.heap.size 9 1 v ss.length ((ss.mergeSort (fun x y => decide (x ≤ y))).map encStr) ∧ (v = .slice none 0 0 ↔ ss = []) ∧ Below w.heap.size w w' := by
  refine (callsIn_wide (n := 6)).1 ?_
  have hbl := hown.lt
  have hseq : SeqGives Fence.wide 2 Try.prog 63 #[.pointer (some ⟨w.heap.size, 0, none⟩)] encStr (fun ss => ss.Perm (strKeys D0)) (Maps.size D0) (w.alloc (.cells #[.map (some b)] 53)) :=
    AnyZ.keys_gives (ρ := Try.keysA_ren) { Try.keysA with } Fence.wide _ trivial rfl (by omega) w.heap.size b nn D0 _ (by simp) (by simp) (by
      obtain ⟨es, clock, hb, Ft, hs, hD⟩ := hown
      exact ⟨es, clock, (Below.heap_alloc _ _ b hbl).trans hb, Ft, hs, hD⟩)
  have cK : ∀ mb W, CallsIn Fence.wide 5 Try.prog 53 #[.map mb] W fun e w' => e = .returned (.func (.func 63) #[] #[.pointer (some ⟨W.heap.size, 0, none⟩)]) ∧ w' = W.alloc (.cells #[.map mb] 53) := fun mb W => AnyZ.keys_in Try.keysA Fence.wide 5 trivial rfl mb W
  have cS := AnyZ.sorted_in Try.sortedA Fence.wide 5 trivial trivial trivial trivial rfl (by omega) (Try.sortsA _) (enters_of Try.func62 (by kernel_rfl) rfl) 63 #[.pointer (some ⟨w.heap.size, 0, none⟩)] trivial (enters_of Try.func63 (by kernel_rfl) rfl) _ _ hmax hbytes _ hseq
  change CallsIn _ _ Try.prog 52 _ _ _ at cS
  have hfK : Fence.wide.fn 53 := trivial
  have hfS : Fence.wide.fn 52 := trivial
  refine callsIn_of_wp Try.func25 rfl trivial ?_ rfl
  simp only [Try.ntmps25, List.size_toArray, List.length_cons, List.length_nil, Nat.reduceAdd, Nat.reduceSub, Array.replicate_succ, Array.replicate_zero, List.push_toArray, List.append_toArray, List.nil_append, List.cons_append]
  gi_wp2_with (first
    | (gi_at_call 53; refine (cK _ _).mono ?_; rintro e w' ⟨rfl, rfl⟩)
    | (gi_at_call 52; refine cS.mono ?_; rintro e w' ⟨v, ss, rfl, hS, hrow, hnil, hb⟩))
  go_ret
  exact ⟨v, ss, rfl, hS, ownsRow_base_a hrow (by simp), hnil, ((Below.refl _ w).alloc (Nat.le_refl _) _).trans (hb.mono (by simp))⟩
theorem sort_names {ss l : List Nm} (hp : ss.Perm l) (hl : l.Pairwise (· < ·)) : ss.mergeSort (fun x y => decide (x ≤ y)) = l := by
  refine List.Perm.eq_of_pairwise (le := fun x y : Nm => decide (x ≤ y) = true) (fun a b _ _ h1 h2 => ?_) ?_ ?_ ((List.mergeSort_perm ss _).trans hp)
  · exact List.le_antisymm (by simpa using h1) (by simpa using h2)
  · refine List.pairwise_mergeSort (fun a b c h1 h2 => ?_) (fun a b => ?_) ss
    · simp only [decide_eq_true_eq] at *
      exact List.le_trans h1 h2
    · simp only [Bool.or_eq_true, decide_eq_true_eq]
      exact List.le_total a b
  · exact hl.imp fun h => by simpa using List.le_of_lt h
/-- names in memory: a slice whose block is new since w -/
def NamesAt (w w' : World) (A : Option Addr) (c : Nat) (l : List Nm) : Prop := Sl w' w'.heap.size A (l.map str) ∧ l.length ≤ c ∧ c ≤ maxLen ∧ (A = none → l = []) ∧ ∀ a, A = some a → w.heap.size ≤ a.block ∧ a.spot = none ∧ a.off = 0
theorem Names_any (w : World) (p : Nat) (F H : Nat → Prop) (s : DK) (n : Nat) (h : PD w p F H s) (hok : s.ok n) (hn : n < 1000000) :
    Calls Try.prog 25 #[.pointer (some ⟨p, 0, none⟩)] w fun e w' => ∃ A c, e = .returned (.slice A s.R.length c) ∧ NamesAt w w' A c s.names ∧ Below w.heap.size w w' := by
  obtain ⟨mb, G, h1, ⟨hk, es, ho, hp⟩, h3, _⟩ := h
  have hlen : es.length = s.R.length := by rw [hp.length_eq, List.length_map, mapN_len, ← mapN_len FV.f, h3]
  have hfl := hok.files
  have hcl := hok.calls
  have hsz : Maps.size (.map es : DataW Unit) = s.R.length := by rw [Maps.size_eq, hlen]
  have hkeys : (strKeys (.map es : DataW Unit)).Perm s.names := by
    have h4 : s.names = ((mapN FV.raw G).map MD.ent).map fun p => strOf p.1 := by
      rw [DK.names, ← h3]
      simp [mapN, MT.ent, MD, strOf]
    rw [h4]
    exact hp.map _
  refine (names_raw p mb _ _ _ w ho (by rw [hsz]; simp only [maxLen]; omega) (by rw [hsz]; omega) (h1.c 0 rfl)).mono ?_
  rintro e w' ⟨v, ss, rfl, hperm, hrow, hnil, hb⟩
  have hsl : ss.length = s.R.length := by rw [(hperm.trans hkeys).length_eq, DK.names, List.length_map]
  rw [sort_names (hperm.trans hkeys) (rise_names.1 hok.rise), hsl] at hrow
  rcases hrow.2 with ⟨rfl, h0⟩ | ⟨g, cap, cur, rfl, hbase, hg, k1, k2, _⟩
  · have e0 : s.names = [] := List.eq_nil_of_length_eq_zero (by rw [DK.names, List.length_map]; exact h0)
    refine ⟨none, 0, by rw [h0], ⟨.inl (by rw [e0]; rfl), by rw [e0]; exact Nat.le_refl _, Nat.zero_le _, fun _ => e0, (fun a h => (by cases h))⟩, hb⟩
  · have hlt := (Array.getElem?_eq_some_iff.1 hg).1
    refine ⟨_, cap, rfl, ⟨.inr ⟨g, 0, rfl, hlt, hlt, fun j u hu => ?_⟩, by rw [DK.names, List.length_map]; exact k1, k2, (fun e => (by cases e)), (fun a h => by cases h; exact ⟨hbase, rfl, rfl⟩)⟩, hb⟩
    have := World.ownsRow.cells hrow (g := g) rfl j u hu
    rw [addr0] at this
    simpa using this
end Go.Proofs.Ythnbnhlfiehihaa
/- Disks: plain facts of the laws. -/
namespace Go.Proofs.Ythnbnhlfiehihaa

theorem crash_all_sure : ∀ (R : DR) (ps : List Int), (∀ p ∈ R, p.2.s = p.2.b.length) → crashR R ps = R
  | [], _, _ => rfl
  | (x, f) :: R, ps, h => by
    have h0 := h (x, f) (by simp)
    unfold crashR
    rw [if_neg (by dsimp only at h0; omega), crash_all_sure R ps (fun q hq => h q (by simp [hq]))]
theorem crash_nil : ∀ (R : DR), (∀ p ∈ R, p.2.s ≤ p.2.b.length) → crashR R [] = mapN (fun f => (⟨f.b.take f.s, f.s⟩ : DF)) R
  | [], _ => rfl
  | (x, f) :: R, h => by
    have h0 := h (x, f) (by simp)
    dsimp only at h0
    unfold crashR
    rw [show mapN (fun f => (⟨f.b.take f.s, f.s⟩ : DF)) ((x, f) :: R) = (x, ⟨f.b.take f.s, f.s⟩) :: mapN (fun f => (⟨f.b.take f.s, f.s⟩ : DF)) R from rfl]
    split
    · rw [List.tail_nil, crash_nil R (fun q hq => h q (by simp [hq]))]
      simp only [List.headD_nil, Int.zero_emod, Int.toNat_zero, Nat.add_zero, DF.first, DF.sync, List.length_take]
      rw [Nat.min_eq_left h0]
    · rename_i hn
      rw [crash_nil R (fun q hq => h q (by simp [hq]))]
      have e : f.s = f.b.length := by omega
      rw [e, List.take_length]
      have : f = ⟨f.b, f.b.length⟩ := by rw [← e]
      rw [← this]
/-- Go's remainder, lifted to 0 and more, two ways -/
theorem left_eq (n : Int) (m : Nat) : Int.tmod (Int.tmod n (m + 1) + (m + 1)) (m + 1) = n % ((m + 1 : Nat) : Int) := by
  have h1 : Int.tmod n (m + 1) + (m + 1) ≥ 0 := by
    have := Int.lt_tmod_of_pos n (show (0 : Int) < m + 1 by omega)
    omega
  rw [Int.tmod_eq_emod_of_nonneg h1, Int.add_emod_right]
  have h2 : Int.tmod n (m + 1) % (m + 1) = n % (m + 1) := by
    have h3 := Int.tmod_add_mul_tdiv n ((m : Int) + 1)
    have h4 : n % (m + 1) = (Int.tmod n (m + 1) + (m + 1) * Int.tdiv n (m + 1)) % (m + 1) := by rw [h3]
    rw [h4, Int.add_mul_emod_self_left]
  rw [h2]
  rfl
theorem place_eq (n : Int) (m : Nat) : (if Int.tmod n (m + 1) < 0 then Int.tmod n (m + 1) + (m + 1) else Int.tmod n (m + 1)) = n % ((m + 1 : Nat) : Int) := by
  have h3 := Int.tmod_add_mul_tdiv n ((m : Int) + 1)
  have h4 : n % (m + 1) = Int.tmod n (m + 1) % (m + 1) := by
    have h5 : n % (m + 1) = (Int.tmod n (m + 1) + (m + 1) * Int.tdiv n (m + 1)) % (m + 1) := by rw [h3]
    rw [h5, Int.add_mul_emod_self_left]
  have h1 := Int.lt_tmod_of_pos n (show (0 : Int) < m + 1 by omega)
  have h2 := Int.tmod_lt_of_pos n (show (0 : Int) < m + 1 by omega)
  show _ = n % ((m : Int) + 1)
  rw [h4]
  split
  · rename_i hlt
    rw [← Int.add_emod_right]
    exact (Int.emod_eq_of_lt (by omega) (by omega)).symm
  · exact (Int.emod_eq_of_lt (by omega) (by omega)).symm
end Go.Proofs.Ythnbnhlfiehihaa
/- Disks: a crash, file by file (plain). -/
namespace Go.Proofs.Ythnbnhlfiehihaa

def loose (f : DF) : Bool := decide (f.s < f.b.length)
def pickOf (f : DF) (ps : List Int) : Nat := ((ps.headD 0) % ((f.b.length - f.s + 1 : Nat) : Int)).toNat
def crash1 (f : DF) (ps : List Int) : DF := if f.s < f.b.length then (f.first (f.s + pickOf f ps)).sync else f
def cntL (R : DR) : Nat := (R.filter fun p => loose p.2).length
theorem pick_le (f : DF) (ps : List Int) : pickOf f ps ≤ f.b.length - f.s := by
  unfold pickOf
  have h1 := Int.emod_lt_of_pos (ps.headD 0) (show (0 : Int) < ((f.b.length - f.s + 1 : Nat) : Int) by omega)
  omega
theorem crash_get : ∀ (R : DR) (ps : List Int) (j : Nat), (crashR R ps)[j]? = (R[j]?).map fun p => (p.1, crash1 p.2 (ps.drop (cntL (R.take j))))
  | [], _, _ => by simp [crashR]
  | (x, f) :: R, ps, 0 => by
    unfold crashR
    by_cases h : f.s < f.b.length
    · rw [if_pos h]; simp [crash1, h, cntL, pickOf]
    · rw [if_neg h]; simp [crash1, h]
  | (x, f) :: R, ps, j + 1 => by
    unfold crashR
    by_cases h : f.s < f.b.length
    · have hc : cntL (((x, f) :: R).take (j + 1)) = cntL (R.take j) + 1 := by
        simp [cntL, List.take_succ_cons, loose, h]
      rw [if_pos h, hc, List.getElem?_cons_succ, List.getElem?_cons_succ, crash_get R ps.tail j]
      congr 1
      funext p
      rw [← List.drop_one, List.drop_drop, Nat.add_comm 1]
    · have hc : cntL (((x, f) :: R).take (j + 1)) = cntL (R.take j) := by
        simp [cntL, List.take_succ_cons, loose, h]
      rw [if_neg h, hc, List.getElem?_cons_succ, List.getElem?_cons_succ, crash_get R ps j]
/-- the first j files crashed -/
def partR (R : DR) (ps : List Int) (j : Nat) : DR := (crashR R ps).take j ++ R.drop j
theorem part_zero (R : DR) (ps : List Int) : partR R ps 0 = R := by simp [partR]
theorem part_all (R : DR) (ps : List Int) : partR R ps R.length = crashR R ps := by
  unfold partR
  rw [List.take_of_length_le (by rw [crash_len]; omega), List.drop_length, List.append_nil]
theorem part_names (R : DR) (ps : List Int) (j : Nat) : (partR R ps j).map (·.1) = R.map (·.1) := by
  unfold partR
  rw [List.map_append, List.map_take, List.map_drop, crash_names, List.take_append_drop]
theorem part_len (R : DR) (ps : List Int) (j : Nat) : (partR R ps j).length = R.length := by
  have := congrArg List.length (part_names R ps j)
  simpa using this
theorem part_rise {R : DR} (h : RiseN R) (ps : List Int) (j : Nat) : RiseN (partR R ps j) := by
  rw [rise_names, part_names, ← rise_names]; exact h
theorem part_at {R : DR} {ps : List Int} {j : Nat} (hj : j < R.length) : (partR R ps j)[j]? = R[j]? := by
  unfold partR
  rw [List.getElem?_append_right (by rw [List.length_take, crash_len]; omega), List.length_take, crash_len, Nat.min_eq_left (by omega), Nat.sub_self, List.getElem?_drop]
  simp
theorem part_succ {R : DR} {ps : List Int} {j : Nat} {x : Nm} {f : DF} (hj : R[j]? = some (x, f)) : partR R ps (j + 1) = (partR R ps j).set j (x, crash1 f (ps.drop (cntL (R.take j)))) := by
  have hlt := (List.getElem?_eq_some_iff.1 hj).1
  have hc := crash_get R ps j
  rw [hj, Option.map_some] at hc
  apply List.ext_getElem?
  intro i
  have hl : ((crashR R ps).take j).length = j := by rw [List.length_take, crash_len]; omega
  have hl1 : ((crashR R ps).take (j + 1)).length = j + 1 := by rw [List.length_take, crash_len]; omega
  rcases Nat.lt_trichotomy i j with h | h | h
  · rw [List.getElem?_set_ne (by omega)]
    unfold partR
    rw [List.getElem?_append_left (by omega), List.getElem?_append_left (by omega), List.getElem?_take, List.getElem?_take, if_pos (by omega), if_pos h]
  · subst h
    rw [List.getElem?_set_self (by rw [part_len]; exact hlt)]
    unfold partR
    rw [List.getElem?_append_left (by omega), List.getElem?_take, if_pos (by omega), hc]
  · rw [List.getElem?_set_ne (by omega)]
    unfold partR
    rw [List.getElem?_append_right (by omega), List.getElem?_append_right (by omega), hl, hl1, List.getElem?_drop, List.getElem?_drop]
    congr 1
    omega
/-- the next file crashed: laid again, or left as it is -/
theorem part_put {R : DR} (h : RiseN R) {ps : List Int} {j : Nat} {x : Nm} {f : DF} (hj : R[j]? = some (x, f)) : partR R ps (j + 1) = putN (partR R ps j) x (crash1 f (ps.drop (cntL (R.take j)))) := by
  rw [part_succ hj]
  have := part_at (ps := ps) (List.getElem?_eq_some_iff.1 hj).1
  rw [hj] at this
  exact put_at (part_rise h ps j) this
theorem part_keep {R : DR} (_h : RiseN R) {ps : List Int} {j : Nat} {x : Nm} {f : DF} (hj : R[j]? = some (x, f)) (hn : ¬ f.s < f.b.length) : partR R ps (j + 1) = partR R ps j := by
  rw [part_succ hj]
  have := part_at (ps := ps) (List.getElem?_eq_some_iff.1 hj).1
  rw [hj] at this
  have e : crash1 f (ps.drop (cntL (R.take j))) = f := by unfold crash1; rw [if_neg hn]
  rw [e]
  apply List.ext_getElem?
  intro i
  by_cases hi : j = i
  · subst hi
    rw [List.getElem?_set_self (List.getElem?_eq_some_iff.1 this).1, this]
  · rw [List.getElem?_set_ne hi]
theorem part_look {R : DR} (h : RiseN R) {ps : List Int} {j : Nat} {x : Nm} {f : DF} (hj : R[j]? = some (x, f)) : look (partR R ps j) x = some f := by
  have := part_at (ps := ps) (List.getElem?_eq_some_iff.1 hj).1
  rw [hj] at this
  exact look_at (part_rise h ps j) this
theorem cnt_succ {R : DR} {j : Nat} {x : Nm} {f : DF} (hj : R[j]? = some (x, f)) : cntL (R.take (j + 1)) = cntL (R.take j) + if f.s < f.b.length then 1 else 0 := by
  unfold cntL
  rw [List.take_add_one, hj, List.filter_append, List.length_append]
  simp only [Option.toList_some, List.filter_cons, List.filter_nil, loose, decide_eq_true_eq]
  split <;> simp
theorem cnt_le (R : DR) (j : Nat) : cntL (R.take j) ≤ j := by
  unfold cntL
  have h1 := List.length_filter_le (fun p : Nm × DF => loose p.2) (R.take j)
  rw [List.length_take] at h1
  omega
theorem part_sure {R : DR} (hs : ∀ p ∈ R, p.2.s ≤ p.2.b.length) (ps : List Int) (j : Nat) : ∀ p ∈ partR R ps j, p.2.s ≤ p.2.b.length := fun p hp => by
  rcases List.mem_append.1 hp with hp | hp
  · exact Nat.le_of_eq (crash_sure R ps hs p (List.mem_of_mem_take hp))
  · exact hs p (List.mem_of_mem_drop hp)
theorem sumN_append {β : Type} (len : β → Nat) (R S : List (Nm × β)) : sumN len (R ++ S) = sumN len R + sumN len S := by
  induction R with
  | nil => simp [sumN]
  | cons q R ih => simp only [List.cons_append, sumN, ih]; omega
theorem crash_used_take : ∀ (R : DR) (ps : List Int) (j : Nat), sumN DF.len ((crashR R ps).take j) ≤ sumN DF.len (R.take j)
  | [], _, _ => by simp [crashR]
  | (x, f) :: R, ps, 0 => by simp
  | (x, f) :: R, ps, j + 1 => by
    unfold crashR
    split
    · rw [List.take_succ_cons, List.take_succ_cons]
      have := crash_used_take R ps.tail j
      simp only [sumN, DF.len, DF.sync, DF.first, List.length_take] at this ⊢
      omega
    · rw [List.take_succ_cons, List.take_succ_cons]
      have := crash_used_take R ps j
      simp only [sumN] at this ⊢
      omega
theorem part_used (R : DR) (ps : List Int) (j : Nat) : usedR (partR R ps j) ≤ usedR R := by
  unfold partR usedR
  rw [sumN_append]
  have h1 := crash_used_take R ps j
  have h2 : sumN DF.len R = sumN DF.len (R.take j) + sumN DF.len (R.drop j) := by rw [← sumN_append, List.take_append_drop]
  omega
theorem DK.ok.part {d : DK} {n : Nat} (h : d.ok n) (ps : List Int) (j : Nat) : ({ d with R := partR d.R ps j } : DK).ok n :=
  h.withR (part_rise h.rise ps j) (part_sure h.sure ps j) (Nat.le_trans (part_used _ _ _) h.used) (Nat.le_of_eq (part_len _ _ _))
end Go.Proofs.Ythnbnhlfiehihaa
/- Disks: the program's Crash. -/
namespace Go.Proofs.Ythnbnhlfiehihaa
open Go.RowKit Go.Maps
set_option maxRecDepth 20000

theorem left_any (w : World) (n : Int) (m : Nat) (hm : m ≤ 16777216) :
    Calls Try.prog 33 #[.int .i64 n, .int .i64 ((m : Int) + 1)] w fun e w' => e = .returned (.int .i64 (n % ((m + 1 : Nat) : Int))) ∧ w' = w := by
  have h1 := Int.lt_tmod_of_pos n (show (0 : Int) < m + 1 by omega)
  have h2 := Int.tmod_lt_of_pos n (show (0 : Int) < m + 1 by omega)
  have hw1 : IntKind.i64.wrap (Int.tmod n (m + 1)) = Int.tmod n (m + 1) := by rw [IntKind.wrap_i64]; omega
  have hw2 : IntKind.i64.wrap (Int.tmod n (m + 1) + (m + 1)) = Int.tmod n (m + 1) + (m + 1) := by rw [IntKind.wrap_i64]; omega
  have h3 := left_eq n m
  have h4 := Int.emod_lt_of_pos n (show (0 : Int) < ((m + 1 : Nat) : Int) by omega)
  have h5 := Int.emod_nonneg n (show ((m + 1 : Nat) : Int) ≠ 0 by omega)
  have hw3 : IntKind.i64.wrap (n % ((m + 1 : Nat) : Int)) = n % ((m + 1 : Nat) : Int) := by rw [IntKind.wrap_i64]; omega
  have hz : ¬ ((m : Int) + 1 = 0) := by omega
  go_enter Try.func33, Try.ntmps33
  go_wp2
  go_ret
  exact ⟨rfl, rfl⟩
theorem crash1_eq {f : DF} (h : f.s < f.b.length) (ps : List Int) : crash1 f ps = ⟨f.b.take (f.s + pickOf f ps), f.s + pickOf f ps⟩ := by
  have := pick_le f ps
  unfold crash1
  rw [if_pos h]
  simp only [DF.first, DF.sync, List.length_take, DF.mk.injEq, true_and]
  omega
theorem Sl.grewF {F : Nat → Prop} {w w' : World} {A : Option Addr} {xs : List Value} (h : Sl w w.heap.size A xs) (hg : Grew F w w') (hn : ∀ a, A = some a → ¬ F a.block) : Sl w' w'.heap.size A xs := by
  rcases h with h | ⟨g, o, rfl, h1, h2, h3⟩
  · exact .inl h
  · exact (Sl.grewN (.inr ⟨g, o, rfl, h1, h2, h3⟩ : Sl w w.heap.size _ _) hg (hn _ rfl)).more hg.size
def iv (l : List Int) : List Value := l.map (Value.int .i64)
theorem PD.nm {W : World} {p : Nat} {F H : Nat → Prop} {s : DK} (h : PD W p F H s) : ∀ q ∈ s.R, q.1.length ≤ maxLen := by
  obtain ⟨mb, G, h1, ⟨hk, _⟩, h3, _⟩ := h
  intro q hq
  rw [← h3] at hq
  obtain ⟨q', hq', rfl⟩ := List.mem_map.1 hq
  exact hk (q'.1, q'.2.raw) (List.mem_map.2 ⟨q', hq', rfl⟩)
/-- what holds when j files are crashed -/
structure CrashAt (w : World) (p : Nat) (F H : Nat → Prop) (s : DK) (ps : List Int) (j : Nat) (W : World) (H' : Nat → Prop) : Prop where
  pd : PD W p F H' { s with R := partR s.R ps j }
  h : ∀ k, H' k → H k ∨ w.heap.size ≤ k
  g : Grew F w W
set_option maxRecDepth 100000 in
set_option maxHeartbeats 6400000 in
set_option linter.unusedVariables false in
theorem Crash_any (w : World) (p : Nat) (F H : Nat → Prop) (s : DK) (n : Nat) (h : PD w p F H s) (hok : s.ok n) (hn : n < 1000000) (A : Option Addr) (c : Nat) (ps : List Int) (hS : Sl w w.heap.size A (iv ps)) (hSF : ps = [] ∨ ∀ a, A = some a → ¬ F a.block) (hpl : ps.length ≤ maxLen) :
    Calls Try.prog 18 #[.pointer (some ⟨p, 0, none⟩), .slice A ps.length c] w fun e w' => e = .returned (.tuple #[]) ∧ ∃ H' : Nat → Prop, PD w' p F H' (s.crash ps) ∧ (∀ k, H' k → H k ∨ w.heap.size ≤ k) ∧ Grew F w w' := by
  have hN := Names_any w p F H s n h hok hn
  obtain ⟨m, hm⟩ : ∃ m, s.R.length = m := ⟨_, rfl⟩
  obtain ⟨l, hl⟩ : ∃ l, ps.length = l := ⟨_, rfl⟩
  rw [hm] at hN
  rw [hl] at hpl ⊢
  have hFH : ∀ k, F k → k < w.heap.size := fun k hk => h.lt k (h.fh hk)
  have hmn : m ≤ n := by have h1 := hok.files; have h2 := hok.calls; omega
  have HH := Lib.hid (And.intro h (And.intro hok (And.intro hS (And.intro hSF (And.intro hm hl)))))
  clear hS h hok hSF hm hl
  go_enter Try.func18, Try.ntmps18
  go_wp2_with (go_at_call 25; refine hN.mono ?_; rintro e w1 ⟨A1, c1, rfl, hna, hb1⟩)
  have HA := Lib.hid (And.intro hna hb1)
  clear hna hb1 hN
  go_loopw [4, 13] (fun x4 x13 wr => ∃ (j : Nat) (H' : Nat → Prop), j ≤ m ∧ x13 = .int .i64 (j : Int) ∧ x4 = .int .i64 (cntL (s.R.take j) : Int) ∧ CrashAt w1 p F H s ps j wr H') (fun _ x13 _ => m - (intOf x13).toNat)
  case atStart => exact ⟨0, H, by omega, rfl, rfl, by rw [show ({ s with R := partR s.R ps 0 } : DK) = s from by rw [part_zero]]; exact HH.out.1.below HA.out.2, fun _ => .inl, Grew.refl _ _⟩
  case round =>
    obtain ⟨j, H', hj, rfl, rfl, hca⟩ := hrel
    have HCA := Lib.hid hca
    have hsz := hca.g.size
    by_cases hlt : j < m
    · obtain ⟨⟨x, f⟩, hx⟩ : ∃ q, s.R[j]? = some q := ⟨_, List.getElem?_eq_getElem (by rw [HH.out.2.2.2.2.1]; exact hlt)⟩
      have hxl := HH.out.1.nm (x, f) (List.mem_of_getElem? hx)
      have hsn : Sl wr wr.heap.size A1 (s.names.map str) := HA.out.1.1.grewF hca.g (fun a ha hk => by have := (HA.out.1.2.2.2.2 a ha).1; have := hFH _ hk; omega)
      obtain ⟨b1, o1, rfl, _, _, hcell⟩ := hsn.at_ (k := j) (by rw [List.length_map, DK.names, List.length_map, HH.out.2.2.2.2.1]; exact hlt)
      have cn : wr.cell? ⟨b1, o1 + j, none⟩ = some (str x) := hcell j _ (by rw [List.getElem?_map, DK.names, List.getElem?_map, hx]; rfl)
      have hfo : DK.fileOf { s with R := partR s.R ps j } x = f := by unfold DK.fileOf; dsimp only; rw [part_look HH.out.2.1.rise hx]; rfl
      obtain ⟨mb, g, cf, hbx, hlk, _, hfv⟩ := hca.pd.tell x hxl
      replace hlk := hlk wr (KB.refl _)
      rw [hfo] at hlk hfv
      have c0 := hbx.c 0 rfl
      have hfs := HH.out.2.1.sure (x, f) (List.mem_of_getElem? hx)
      have hol : f.b.length ≤ 16777216 := by
        have h1 := old_le (HH.out.2.1.part ps j) x
        rw [hfo] at h1
        have h2 := part_used s.R ps j
        have h3 := HH.out.2.1.used
        have h4 := HH.out.2.1.room
        dsimp only at h1
        omega
      dsimp only at hfs
      have hcnt := cnt_le s.R j
      have hcs := cnt_succ hx
      have HX := Lib.hid (And.intro hx (And.intro hfv hcs))
      obtain ⟨cj, hcj⟩ : ∃ cj, cntL (s.R.take j) = cj := ⟨_, rfl⟩
      rw [hcj] at hcnt ⊢
      clear hcell hsn hbx hca hx hfv hcs
      by_cases hlo : f.s < f.b.length
      · obtain ⟨fl, hfl⟩ : ∃ fl, f.b.length = fl := ⟨_, rfl⟩
        obtain ⟨fs, hfs'⟩ : ∃ fs, f.s = fs := ⟨_, rfl⟩
        obtain ⟨pk, hpk⟩ : ∃ pk, pickOf f (ps.drop cj) = pk := ⟨_, rfl⟩
        have hpl2 := pick_le f (ps.drop cj)
        rw [hpk, hfl, hfs'] at hpl2
        have HF := Lib.hid (And.intro hlo (And.intro hfl (And.intro hfs' hpk)))
        rw [hfl, hfs'] at hlk hlo
        rw [hfl] at hol
        obtain ⟨D, hD⟩ : ∃ D : Nat, fl - fs = D := ⟨_, rfl⟩
        have hDi : (fl : Int) - (fs : Int) = (D : Int) := by omega
        have hd0 : ((D : Int) == 0) = false := by simp; omega
        have hc1 : HH.out.2.1.calls = HH.out.2.1.calls := rfl
        clear hfs hfo hD hc1 hfl hfs' hpk
        have FIRST := Lib.hid (fun (pk' : Nat) (hpk' : pk' = pk) => by
          have h1 := first_any (wr.alloc (.cells #[.slice (adr g) fl cf, .int .i64 (fs : Int)] 59)) (adr g) cf fs (fs + pk') fl f.b HF.out.2.1 (((HX.out.2.1.1).below' ((Below.refl _ wr).alloc (Nat.le_refl _) _)).more (by simp)) (by omega) hol
          rw [Nat.min_eq_left (Nat.le_add_right fs pk')] at h1
          exact h1)
        by_cases hin : cj < l
        · obtain ⟨v, hv⟩ : ∃ v, ps[cj]? = some v := ⟨_, List.getElem?_eq_getElem (by rw [HH.out.2.2.2.2.2]; exact hin)⟩
          have hpv : v % ((D + 1 : Nat) : Int) = (pk : Int) := by
            have h1 := HF.out.2.2.2
            unfold pickOf at h1
            have h2 : (ps.drop cj).headD 0 = v := by rw [List.headD_eq_head?_getD, List.head?_drop, hv]; rfl
            have h3 : f.b.length - f.s + 1 = D + 1 := by rw [HF.out.2.1, HF.out.2.2.1]; omega
            rw [h2, h3] at h1
            have h4 := Int.emod_nonneg v (show ((D + 1 : Nat) : Int) ≠ 0 by omega)
            omega
          have LEFT := fun W => left_any W v D (by omega)
          rw [hpv] at LEFT
          obtain ⟨a, o, hA, _, _, hac⟩ := (HH.out.2.2.1.grewF ((Grew.below (S := F) HA.out.2).trans HCA.out.g (fun _ _ => id)) (HH.out.2.2.2.1.resolve_left (fun e => by have := HH.out.2.2.2.2.2; rw [e] at this; simp at this; omega))).at_ (k := cj) (by rw [iv, List.length_map, HH.out.2.2.2.2.2]; exact hin)
          have cv : wr.cell? ⟨a, o + cj, none⟩ = some (.int .i64 v) := hac cj _ (by rw [iv, List.getElem?_map, hv]; rfl)
          subst hA
          have hd1 : decide ((cj : Int) < (l : Int)) = true := by simp; omega
          clear hac hv
          go_wp2_with (first
            | (go_at_call 33; refine (LEFT _).mono ?_; rintro e w4 ⟨rfl, rfl⟩)
            | (go_at_call 34; refine (FIRST.out pk rfl).mono ?_; rintro e w5 ⟨g3, rfl, hfr, hb5⟩; have hbx5 := (At.new wr 59 #[.slice (adr g) fl cf, .int .i64 (fs : Int)]).below hb5; have z0 := hbx5.c 0 rfl; have z1 := hbx5.c 1 rfl; have f0 := hbx5.f 0 rfl; have f1 := hbx5.f 1 rfl; have y1 := (show At (((w5.setCell ⟨wr.heap.size, 0, none⟩ (.slice (adr g3) (fs + pk) (fs + pk))).setCell ⟨wr.heap.size, 1, none⟩ (.int .i64 (fs : Int))).setCell ⟨wr.heap.size, 1, none⟩ (.int .i64 ((fs : Int) + (pk : Int)))) wr.heap.size [.slice (adr g3) (fs + pk) (fs + pk), .int .i64 ((fs : Int) + (pk : Int))] from ((hbx5.set 0 _ (by simp)).set 1 _ (by simp)).set 1 _ (by simp)); have HY := Lib.hid y1; replace y1 := y1.c 1 rfl; clear hbx5))
          have hb4 : Below wr.heap.size wr (wr.alloc (.cells #[.slice (adr g) fl cf, .int .i64 (fs : Int)] 59)) := (Below.refl _ wr).alloc (Nat.le_refl _) _
          have hb6 : Below wr.heap.size wr (((w5.setCell ⟨wr.heap.size, 0, none⟩ (.slice (adr g3) (fs + pk) (fs + pk))).setCell ⟨wr.heap.size, 1, none⟩ (.int .i64 (fs : Int))).setCell ⟨wr.heap.size, 1, none⟩ (.int .i64 ((fs : Int) + (pk : Int)))) := (((hb4.trans (hb5.mono hb4.size)).setCell (Nat.le_refl _) _).setCell (Nat.le_refl _) _).setCell (Nat.le_refl _) _
          have hg6 : Grew (fun k => k = wr.heap.size) w5 (((w5.setCell ⟨wr.heap.size, 0, none⟩ (.slice (adr g3) (fs + pk) (fs + pk))).setCell ⟨wr.heap.size, 1, none⟩ (.int .i64 (fs : Int))).setCell ⟨wr.heap.size, 1, none⟩ (.int .i64 ((fs : Int) + (pk : Int)))) := (((Grew.refl _ w5).putP _).putP _).putP _
          have hfr6 := (hfr.grew hg6 (fun k hk => by simp; omega)).from (w0 := wr) (by simp)
          clear y1 z0 z1 f0 f1 hb5 hg6 hfr hb4 HY
          generalize ((w5.setCell ⟨wr.heap.size, 0, none⟩ (.slice (adr g3) (fs + pk) (fs + pk))).setCell ⟨wr.heap.size, 1, none⟩ (.int .i64 (fs : Int))).setCell ⟨wr.heap.size, 1, none⟩ (.int .i64 ((fs : Int) + (pk : Int))) = w6 at *
          have hp6 := pdNew (w := wr) (HCA.out.pd.below hb6) hb6.size
          have hv6 := hfr6.fv (F := F) (H := H') (fun k hk => HCA.out.pd.lt k (HCA.out.pd.fh hk))
          have hv6' : FVat w6 F (HN H' wr w6) ⟨⟨f.b.take (fs + pk), (fs + pk)⟩, g3, (fs + pk)⟩ := hv6
          refine (set_at w6 p F (HN H' wr w6) n ⟨⟨f.b.take (fs + pk), (fs + pk)⟩, g3, (fs + pk)⟩ rfl (by simp only [List.length_take, HF.out.2.1]; omega) rfl rfl hp6 (HH.out.2.1.part ps j) hn hxl hv6' (by omega)).mono ?_
          rintro e w7 ⟨rfl, hp7, hg7⟩
          obtain ⟨mb7, hA7, _⟩ := hp7.box
          have c3 : w7.cell? ⟨p, 3, none⟩ = some (.int .i64 (s.calls + 1)) := hA7.c 3 rfl
          have f3 := hA7.f 3 rfl
          have hc1 := HH.out.2.1.calls
          have hc2 := HH.out.2.1.files
          have hc3 : 0 ≤ s.calls := by omega
          have hc4 : s.calls < 1000000 := by omega
          have hwr : IntKind.i64.wrap (s.calls + 1 - 1) = s.calls := by rw [IntKind.wrap_i64]; omega
          clear hA7
          go_wp2_with fail
          go_roundw
          case rel =>
            have hpe : partR s.R ps (j + 1) = putN (partR s.R ps j) x ⟨f.b.take (fs + pk), (fs + pk)⟩ := by
              rw [part_put HH.out.2.1.rise HX.out.1, hcj, crash1_eq HF.out.1, HF.out.2.2.1, HF.out.2.2.2]
            obtain ⟨hp8, hg8⟩ := hp7.rebox { s with R := putN (partR s.R ps j) x ⟨f.b.take (fs + pk), (fs + pk)⟩ } ((Grew.refl _ w7).putP _) (fun mb hA => hA.set 3 (.int .i64 s.calls) (by simp [boxP])) rfl
            rw [← hpe] at hp8
            exact ⟨j + 1, HN H' wr w6, hlt, by go_num, by rw [HX.out.2.2, hcj, if_pos HF.out.1]; go_num, ⟨hp8, fun k hk => hk.elim (HCA.out.h k) (fun h => .inr (Nat.le_trans hsz h.1)), (((HCA.out.g.trans (Grew.below hb6) (fun _ _ h => h)).trans hg7 (fun _ _ => id)).trans hg8 (fun _ _ => id))⟩⟩
          case measure => simp [intOf]; omega
        · have hpk0 : pk = 0 := by
            rw [← HF.out.2.2.2]
            unfold pickOf
            rw [List.drop_of_length_le (by rw [HH.out.2.2.2.2.2]; omega)]
            simp
          have hd1 : decide ((cj : Int) < (l : Int)) = false := by simp; omega
          subst hpk0
          go_wp2_with (go_at_call 34; refine (FIRST.out 0 rfl).mono ?_; rintro e w5 ⟨g3, rfl, hfr, hb5⟩; have hbx5 := (At.new wr 59 #[.slice (adr g) fl cf, .int .i64 (fs : Int)]).below hb5; have z0 := hbx5.c 0 rfl; have z1 := hbx5.c 1 rfl; have f0 := hbx5.f 0 rfl; have f1 := hbx5.f 1 rfl; have y1 := (show At (((w5.setCell ⟨wr.heap.size, 0, none⟩ (.slice (adr g3) fs fs)).setCell ⟨wr.heap.size, 1, none⟩ (.int .i64 (fs : Int))).setCell ⟨wr.heap.size, 1, none⟩ (.int .i64 (fs : Int))) wr.heap.size [.slice (adr g3) fs fs, .int .i64 (fs : Int)] from ((hbx5.set 0 _ (by simp)).set 1 _ (by simp)).set 1 _ (by simp)); have HY := Lib.hid y1; replace y1 := y1.c 1 rfl; clear hbx5)
          have hb4 : Below wr.heap.size wr (wr.alloc (.cells #[.slice (adr g) fl cf, .int .i64 (fs : Int)] 59)) := (Below.refl _ wr).alloc (Nat.le_refl _) _
          have hb6 : Below wr.heap.size wr (((w5.setCell ⟨wr.heap.size, 0, none⟩ (.slice (adr g3) fs fs)).setCell ⟨wr.heap.size, 1, none⟩ (.int .i64 (fs : Int))).setCell ⟨wr.heap.size, 1, none⟩ (.int .i64 (fs : Int))) := (((hb4.trans (hb5.mono hb4.size)).setCell (Nat.le_refl _) _).setCell (Nat.le_refl _) _).setCell (Nat.le_refl _) _
          have hg6 : Grew (fun k => k = wr.heap.size) w5 (((w5.setCell ⟨wr.heap.size, 0, none⟩ (.slice (adr g3) fs fs)).setCell ⟨wr.heap.size, 1, none⟩ (.int .i64 (fs : Int))).setCell ⟨wr.heap.size, 1, none⟩ (.int .i64 (fs : Int))) := (((Grew.refl _ w5).putP _).putP _).putP _
          have hfr6 := (hfr.grew hg6 (fun k hk => by simp; omega)).from (w0 := wr) (by simp)
          clear y1 z0 z1 f0 f1 hb5 hg6 hfr hb4 HY
          generalize ((w5.setCell ⟨wr.heap.size, 0, none⟩ (.slice (adr g3) fs fs)).setCell ⟨wr.heap.size, 1, none⟩ (.int .i64 (fs : Int))).setCell ⟨wr.heap.size, 1, none⟩ (.int .i64 (fs : Int)) = w6 at *
          have hp6 := pdNew (w := wr) (HCA.out.pd.below hb6) hb6.size
          have hv6 := hfr6.fv (F := F) (H := H') (fun k hk => HCA.out.pd.lt k (HCA.out.pd.fh hk))
          have hv6' : FVat w6 F (HN H' wr w6) ⟨⟨f.b.take fs, fs⟩, g3, fs⟩ := hv6
          refine (set_at w6 p F (HN H' wr w6) n ⟨⟨f.b.take fs, fs⟩, g3, fs⟩ rfl (by simp only [List.length_take, HF.out.2.1]; omega) rfl rfl hp6 (HH.out.2.1.part ps j) hn hxl hv6' (by omega)).mono ?_
          rintro e w7 ⟨rfl, hp7, hg7⟩
          obtain ⟨mb7, hA7, _⟩ := hp7.box
          have c3 : w7.cell? ⟨p, 3, none⟩ = some (.int .i64 (s.calls + 1)) := hA7.c 3 rfl
          have f3 := hA7.f 3 rfl
          have hc1 := HH.out.2.1.calls
          have hc2 := HH.out.2.1.files
          have hc3 : 0 ≤ s.calls := by omega
          have hc4 : s.calls < 1000000 := by omega
          have hwr : IntKind.i64.wrap (s.calls + 1 - 1) = s.calls := by rw [IntKind.wrap_i64]; omega
          clear hA7
          go_wp2_with fail
          go_roundw
          case rel =>
            have hpe : partR s.R ps (j + 1) = putN (partR s.R ps j) x ⟨f.b.take fs, fs⟩ := by
              rw [part_put HH.out.2.1.rise HX.out.1, hcj, crash1_eq HF.out.1, HF.out.2.2.1, HF.out.2.2.2]; rfl
            obtain ⟨hp8, hg8⟩ := hp7.rebox { s with R := putN (partR s.R ps j) x ⟨f.b.take fs, fs⟩ } ((Grew.refl _ w7).putP _) (fun mb hA => hA.set 3 (.int .i64 s.calls) (by simp [boxP])) rfl
            rw [← hpe] at hp8
            exact ⟨j + 1, HN H' wr w6, hlt, by go_num, by rw [HX.out.2.2, hcj, if_pos HF.out.1]; go_num, ⟨hp8, fun k hk => hk.elim (HCA.out.h k) (fun h => .inr (Nat.le_trans hsz h.1)), (((HCA.out.g.trans (Grew.below hb6) (fun _ _ h => h)).trans hg7 (fun _ _ => id)).trans hg8 (fun _ _ => id))⟩⟩
          case measure => simp [intOf]; omega
      · have hz : f.s = f.b.length := by omega
        rw [hz] at hlk
        go_wp2_with fail
        go_roundw
        case rel => exact ⟨j + 1, H', hlt, by go_num, by rw [HX.out.2.2, hcj, if_neg hlo]; rfl, (part_keep HH.out.2.1.rise HX.out.1 hlo) ▸ HCA.out.pd.below ((Below.refl _ wr).alloc (Nat.le_refl _) _), HCA.out.h, HCA.out.g.trans (Grew.below ((Below.refl _ wr).alloc (Nat.le_refl _) _)) (fun _ _ h => h)⟩
        case measure => simp [intOf]; omega
    · have hjm : j = m := by omega
      subst hjm
      obtain ⟨mb, hbx, _⟩ := hca.pd.box
      have f4 := hbx.f 4 rfl
      have f6 := hbx.f 6 rfl
      have c4 := hbx.c 4 rfl
      have c6 := hbx.c 6 rfl
      clear hbx hca
      go_wp2
      go_end0
      have hall : partR s.R ps j = crashR s.R ps := by rw [← HH.out.2.2.2.2.1, part_all]
      have hpd := HCA.out.pd
      rw [hall] at hpd
      obtain ⟨hp2, hg2⟩ := hpd.rebox (s.crash ps) (((Grew.refl _ wr).putP _).putP _) (fun mb hA => (hA.set 6 (.bool false) (by simp [boxP])).set 4 (.int .i64 0) (by simp [boxP])) rfl
      exact ⟨rfl, H', hp2, fun k hk => (HCA.out.h k hk).imp id (fun h => Nat.le_trans HA.out.2.size h), ((Grew.below (S := F) HA.out.2).trans HCA.out.g (fun _ _ => id)).trans hg2 (fun _ _ => id)⟩
end Go.Proofs.Ythnbnhlfiehihaa
/- Disks: the program's Copy. -/
namespace Go.Proofs
open Go.Shelf Go.RowKit Go.Lib
def Try.cloneFiles_ren : Go.Shelf.Ren := ⟨fun | 5 => 51 | 7 => 60 | n => n, fun | 23 => 53 | 25 => 9 | 3 => 59 | 4 => 4 | 20 => 20 | n => n, fun | n => n⟩
theorem Try.cloneFiles : Go.Proofs.SlLaysW.n5 Try.prog Try.cloneFiles_ren := {
  mixed := by kernel_rfl
  f5 := ⟨Try.f51.name, by decide, Try.func51.trans (congrArg some (by kernel_rfl))⟩
  f7 := Try.func60.trans (congrArg some (by kernel_rfl))
  t4 := Try.underlying4
  a4 := Try.isAgg4
  z4 := Try.sizeOf4
  v4 := Try.zeroValue4
  t20 := Try.underlying20
  a20 := Try.isAgg20
  z20 := Try.sizeOf20
  v20 := Try.zeroValue20
  t23 := Try.underlying53
  a23 := Try.isAgg53
  z23 := Try.sizeOf53
  v23 := Try.zeroValue53 }
end Go.Proofs
namespace Go.Proofs.Ythnbnhlfiehihaa
open Go.RowKit Go.Maps
set_option maxRecDepth 20000

theorem MapIs.block {P : Program} {t k e : TypeId} {α β : Type} {T : MT P t k e α β} {w : World} {b : Nat} {L : List (α × β)} (h : MapIs T w b L) : ∃ es clock, w.heap[b]? = some (.map es clock) := by
  obtain ⟨_, _, ⟨es', clock, h1, _⟩, _⟩ := h
  exact ⟨es', clock, h1⟩
theorem MapIs.cloned {P : Program} {t k e : TypeId} {α β : Type} {T : MT P t k e α β} {w w' : World} {b b' : Nat} {L : List (α × β)} (h : MapIs T w b L) (hb : w'.heap[b']? = w.heap[b]?) : MapIs T w' b' L := by
  obtain ⟨h0, es, ⟨es', clock, h1, h2⟩, h3⟩ := h
  exact ⟨h0, es, ⟨es', clock, hb.trans h1, h2⟩, h3⟩
theorem Copy_any (w : World) (p : Nat) (F H : Nat → Prop) (s : DK) (h : PD w p F H s) :
    Calls Try.prog 23 #[.pointer (some ⟨p, 0, none⟩)] w fun e w' => ∃ (q : Nat) (F' H' : Nat → Prop), e = .returned (.pointer (some ⟨q, 0, none⟩)) ∧ PD w' q F' H' s ∧ (∀ k, F' k → w.heap.size ≤ k) ∧ (∀ k, H' k → (H k ∧ ¬ F k) ∨ w.heap.size ≤ k) ∧ Below w.heap.size w w' := by
  obtain ⟨mb, G, h1, h2, h3, h4, h5, h6, h7, h8⟩ := h
  have hb1 : Below w.heap.size w (w.alloc (.cells (boxP mb s).toArray 55)) := (Below.refl _ w).alloc (Nat.le_refl _) _
  have hpl := h1.1
  have c0 := h1.c 0 rfl
  have c1 := h1.c 1 rfl
  have c2 := h1.c 2 rfl
  have c3 := h1.c 3 rfl
  have c4 := h1.c 4 rfl
  have c5 := h1.c 5 rfl
  have c6 := h1.c 6 rfl
  have k1 := h1.below hb1
  have d0 := k1.c 0 rfl
  obtain ⟨es, clock, hb⟩ := h2.block
  have hcl := Lib.hid (AnyW.maps_Clone (P := Try.prog) (ρ := Try.cloneFiles_ren) Try.cloneFiles mb es clock _ ((hb1.block mb h2.lt).trans hb))
  have HX := Lib.hid (And.intro h2 (And.intro h3 (And.intro h4 (And.intro h8 hb))))
  have hbox := (At.new w 55 (boxP mb s).toArray).alloc (.map es clock)
  have z0 := hbox.c 0 rfl
  have y0 := hbox.f 0 rfl
  clear hb h1 h2 h3 h4 h5 h6 h7 h8 k1 hbox hb1
  unfold boxP at *
  go_enter Try.func23, Try.ntmps23
  go_wp2_with fail
  refine hcl.out.mono ?_
  rintro e w1 ⟨rfl, rfl⟩
  go_wp2
  go_ret
  obtain ⟨h2, h3, h4, h8, hb⟩ := HX.out
  have hbox := (At.new w 55 (boxP (w.heap.size + 1) s).toArray).alloc (.map es clock)
  have hb2 : Below w.heap.size w ((w.alloc (.cells (boxP (w.heap.size + 1) s).toArray 55)).alloc (.map es clock)) := ((Below.refl _ w).alloc (Nat.le_refl _) _).alloc (by simp) _
  have hm := h2.cloned (w' := (w.alloc (.cells (boxP (w.heap.size + 1) s).toArray 55)).alloc (.map es clock)) (b' := w.heap.size + 1) (by
    have := World.alloc_heap_new (w.alloc (.cells (boxP (w.heap.size + 1) s).toArray 55)) (.map es clock)
    rw [World.size_alloc] at this
    exact this.trans hb.symm)
  refine ⟨w.heap.size, fun k => k = w.heap.size ∨ k = w.heap.size + 1, fun k => (k = w.heap.size ∨ k = w.heap.size + 1) ∨ (H k ∧ ¬ F k), rfl, ⟨w.heap.size + 1, G, hbox, hm, h3, fun q hq => ?_, .inl rfl, .inr rfl, fun _ => .inl, fun k hk => ?_⟩, fun k hk => by omega, fun k hk => ?_, hb2⟩
  · obtain ⟨a1, a2, a3, a4⟩ := h4 q hq
    refine ⟨(a1.below' hb2).more hb2.size, a2, a3, a4.imp id fun ⟨r, b1, b2, b3⟩ => ⟨r, b1, .inr ⟨b2, b3⟩, fun hk => ?_⟩⟩
    have := h8 _ b2
    omega
  · rw [World.size_alloc, World.size_alloc]
    rcases hk with hk | ⟨hk, _⟩
    · omega
    · have := h8 k hk; omega
  · rcases hk with hk | hk
    · right; omega
    · exact .inl hk
end Go.Proofs.Ythnbnhlfiehihaa
/- Disks: calls with outcomes written out; what is known. -/
namespace Go.Proofs.Ythnbnhlfiehihaa
open Go.RowKit Go.Maps
set_option maxRecDepth 20000

section
variable (w : World) (p : Nat) (F H : Nat → Prop) {s s' : DK} (n : Nat) {x : Nm} {r : Int}
theorem Create_lit {r' : Nat} (e : s.create x = (r', s')) (hr : (r' : Int) = r) (h : PD w p F H s) (hok : s.ok n) (hn : n < 1000000) (hx : x.length ≤ 100) :
    Calls Try.prog 9 #[.pointer (some ⟨p, 0, none⟩), .string ⟨x.toArray⟩] w fun e w' => e = .returned (.int .i64 r) ∧ PD w' p F H s' ∧ Grew F w w' := by
  have := Create_any w p F H s n h hok hn x (by simp only [maxLen]; omega)
  rw [e, hr] at this
  exact this
theorem Sync_lit {r' : Nat} (e : s.sync x = (r', s')) (hr : (r' : Int) = r) (h : PD w p F H s) (hok : s.ok n) (hn : n < 1000000) (hx : x.length ≤ 100) :
    Calls Try.prog 12 #[.pointer (some ⟨p, 0, none⟩), .string ⟨x.toArray⟩] w fun e w' => e = .returned (.int .i64 r) ∧ PD w' p F H s' ∧ Grew F w w' := by
  have := Sync_any w p F H s n h hok hn x (by simp only [maxLen]; omega)
  rw [e, hr] at this
  exact this
theorem Append_lit {r' : Nat} {b : List UInt8} (e : s.append x b = (r', s')) (hr : (r' : Int) = r) (h : PD w p F H s) (hok : s.ok n) (hn : n < 1000000) (hx : x.length ≤ 100) (A : Option Addr) (c l : Nat) (hl : b.length = l) (hm : l ≤ 16777216) (hc : l ≤ c) (hS : Sl w w.heap.size A (bv b)) (hSF : b = [] ∨ ∀ a, A = some a → ¬ F a.block) :
    Calls Try.prog 10 #[.pointer (some ⟨p, 0, none⟩), .string ⟨x.toArray⟩, .slice A l c] w fun e w' => e = .returned (.int .i64 r) ∧ ∃ H', PD w' p F H' s' ∧ Grew F w w' := by
  have := Append_any w p F H s n h hok hn x (by simp only [maxLen]; omega) A c l b hl hm hc hS hSF
  rw [e] at this
  exact this.mono fun e w' ⟨h1, H', h2, _, h3⟩ => ⟨by rw [h1, hr], H', h2, h3⟩
theorem Sure_lit (e : (s.sureOf x : Int) = r) (h : PD w p F H s) (hx : x.length ≤ 100) :
    Calls Try.prog 17 #[.pointer (some ⟨p, 0, none⟩), .string ⟨x.toArray⟩] w fun e w' => e = .returned (.int .i64 r) ∧ w' = w := by
  have := Sure_any w p F H s h x (by simp only [maxLen]; omega)
  rw [e] at this
  exact this
theorem Used_lit (e : (usedR s.R : Int) = r) (h : PD w p F H s) : Calls Try.prog 16 #[.pointer (some ⟨p, 0, none⟩)] w fun e w' => e = .returned (.int .i64 r) ∧ w' = w := by
  rw [← e]; exact Used_any w p F H s h
theorem Calls_lit (e : s.calls = r) (h : PD w p F H s) : Calls Try.prog 14 #[.pointer (some ⟨p, 0, none⟩)] w fun e w' => e = .returned (.int .i64 r) ∧ w' = w := by
  rw [← e]; exact Calls_any w p F H s h
theorem Down_lit {t : Bool} (e : s.off = t) (h : PD w p F H s) : Calls Try.prog 13 #[.pointer (some ⟨p, 0, none⟩)] w fun e w' => e = .returned (.bool t) ∧ w' = w := by
  rw [← e]; exact Down_any w p F H s h
theorem Arm_lit {m k : Int} (e : s.armed m k = s') (h : PD w p F H s) (h0 : -9223372036854775808 ≤ m) (h1 : m ≤ 9223372036854775807) : Calls Try.prog 11 #[.pointer (some ⟨p, 0, none⟩), .int .i64 m, .int .i64 k] w fun e w' => e = .returned (.tuple #[]) ∧ PD w' p F H s' ∧ Grew F w w' := by
  rw [← e]; exact Arm_any w p F H s h m k h0 h1
theorem Names_lit {m : Nat} (e : s.R.length = m) (h : PD w p F H s) (hok : s.ok n) (hn : n < 1000000) : Calls Try.prog 25 #[.pointer (some ⟨p, 0, none⟩)] w fun e w' => ∃ A c, e = .returned (.slice A m c) ∧ NamesAt w w' A c s.names ∧ Below w.heap.size w w' := by
  rw [← e]; exact Names_any w p F H s n h hok hn
theorem Read_lit {b : List UInt8} {t : Bool} (e : s.read x = (b, t)) (h : PD w p F H s) (hok : s.ok n) (hx : x.length ≤ 100) :
    Calls Try.prog 15 #[.pointer (some ⟨p, 0, none⟩), .string ⟨x.toArray⟩] w fun e w' => ∃ A c, e = .returned (.tuple #[.slice A b.length c, .bool t]) ∧ Sl w' w'.heap.size A (bv b) ∧ (∀ a, A = some a → w.heap.size ≤ a.block) ∧ Below w.heap.size w w' := by
  have := Read_any w p F H s n h hok x (by simp only [maxLen]; omega)
  rw [e] at this
  exact this
theorem Crash_lit {ps : List Int} (e : s.crash ps = s') (h : PD w p F H s) (hok : s.ok n) (hn : n < 1000000) (A : Option Addr) (c l : Nat) (hl : ps.length = l) (hS : Sl w w.heap.size A (iv ps)) (hSF : ps = [] ∨ ∀ a, A = some a → ¬ F a.block) (hpl : l ≤ 1000) :
    Calls Try.prog 18 #[.pointer (some ⟨p, 0, none⟩), .slice A l c] w fun e w' => e = .returned (.tuple #[]) ∧ ∃ H', PD w' p F H' s' ∧ Grew F w w' := by
  subst hl
  have := Crash_any w p F H s n h hok hn A c ps hS hSF (by simp only [maxLen]; omega)
  rw [e] at this
  exact this.mono fun e w' ⟨h1, H', h2, _, h3⟩ => ⟨h1, H', h2, h3⟩
end
theorem nfOf {w : World} {A : Option Addr} {l : List UInt8} {F : Nat → Prop} (h : Sl w w.heap.size A (bv l)) (hF : ∀ k, F k → w.heap.size ≤ k) : l = [] ∨ ∀ a, A = some a → ¬ F a.block := by
  rcases h with h | ⟨g, o, rfl, h1, _⟩
  · exact .inl (by simpa [bv] using h)
  · exact .inr fun a e hk => by cases e; exact absurd (hF g hk) (by omega)
/-- a row of one number or more that has just been laid -/
theorem Sl.ints (w : World) (t : TypeId) (ps : List Int) (fr : Nat × Nat) : Sl (w.alloc (.cells (iv ps).toArray t fr)) (w.alloc (.cells (iv ps).toArray t fr)).heap.size (some ⟨w.heap.size, 0, none⟩) (iv ps) := by
  have := Sl.new w t (iv ps).toArray fr
  rw [World.size_alloc]
  exact this
def K0 : DK := DK.new 10
def K1 : DK := ⟨10, 1, 0, 0, false, [([120], ⟨[], 0⟩)]⟩
def K2 : DK := ⟨10, 2, 0, 0, false, [([120], ⟨[97, 98, 99], 0⟩)]⟩
def K3 : DK := ⟨10, 2, 0, 0, false, [([120], ⟨[97, 98], 2⟩)]⟩
def K4 : DK := ⟨10, 2, 1, 0, false, [([120], ⟨[97, 98], 2⟩)]⟩
def K5 : DK := ⟨10, 2, 0, 0, true, [([120], ⟨[97, 98], 2⟩)]⟩
theorem k1 : K0.create [120] = (0, K1) := by kernel_rfl
theorem k2 : K1.append [120] [97, 98, 99] = (0, K2) := by kernel_rfl
theorem k3 : K2.append [120] [0, 0, 0, 0, 0, 0, 0, 0] = (33, K2) := by kernel_rfl
theorem k4 : K2.create [120] = (32, K2) := by kernel_rfl
theorem k5 : K2.sync [121] = (31, K2) := by kernel_rfl
theorem k6 : K2.crash [2] = K3 := by kernel_rfl
theorem k7 : K3.read [120] = ([97, 98], true) := by kernel_rfl
theorem k8 : K3.armed 1 0 = K4 := by kernel_rfl
theorem k9 : K4.sync [120] = (34, K5) := by kernel_rfl
theorem o0 : K0.ok 10 := (DK.ok.new 10).more (by omega)
theorem o1 : K1.ok 11 := by have := o0.create [120]; rw [k1] at this; exact this
theorem o2 : K2.ok 12 := by have := o1.append [120] [97, 98, 99]; rw [k2] at this; exact this
theorem o3 : K3.ok 12 := by have := o2.crash [2]; rw [k6] at this; exact this
theorem o4 : K4.ok 12 := by have := o3.armed (m := 1) (k := 0) (by omega) (by omega) (by omega); rw [k8] at this; exact this
theorem o5 : K5.ok 13 := by have := o4.sync [120]; rw [k9] at this; exact this
end Go.Proofs.Ythnbnhlfiehihaa
/- Disks: the laws' names. -/
namespace Go.Proofs.Ythnbnhlfiehihaa
open Go.RowKit Go.Maps
set_option maxRecDepth 20000

def nameOf (k : Nat) : Nm := if k % 5 = 0 then [97] else if k % 5 = 1 then [98] else if k % 5 = 2 then [97, 46, 110, 101, 119] else if k % 5 = 3 then [] else [99]
theorem nameOf_len (k : Nat) : (nameOf k).length ≤ 100 := by unfold nameOf; split <;> (try split) <;> (try split) <;> (try split) <;> decide
theorem name_any (w : World) (k : Nat) (hk : k < 256) : Calls Try.prog 37 #[.int .u8 (k : Int)] w fun e w' => e = .returned (str (nameOf k)) ∧ Below w.heap.size w w' := by
  have h5 : k % 5 = 0 ∨ k % 5 = 1 ∨ k % 5 = 2 ∨ k % 5 = 3 ∨ k % 5 = 4 := by omega
  have hb : ∀ o, Below w.heap.size w (w.alloc o) := fun o => (Below.refl _ w).alloc (Nat.le_refl _) o
  rcases h5 with h | h | h | h | h
  all_goals (
    have hi : ((k : Int) % 5) = ((k % 5 : Nat) : Int) := by omega
    rw [h] at hi
    have hn : nameOf k = nameOf (k % 5) := by unfold nameOf; rw [Nat.mod_mod]
    rw [hn, h]
    clear hn h
    simp only [nameOf, Nat.reduceMod, if_true, if_false, Nat.reduceEqDiff, str]
    go_enter Try.func37, Try.ntmps37
    go_wp2
    go_ret
    exact ⟨rfl, hb _⟩)
end Go.Proofs.Ythnbnhlfiehihaa
/- Disks: the document's find, gone, well, Used. -/
namespace Go.Proofs.Ythnbnhlfiehihaa
open Go.RowKit Go.Maps
set_option maxRecDepth 20000

def boxD (A : Option Addr) (l c : Nat) (s : DK) : List Value := [.int .i64 (s.room : Int), .slice A l c, .int .i64 s.calls, .int .i64 s.arm, .int .i64 s.keep, .bool s.off]
theorem DD.sl {w : World} {d : Nat} {F H : Nat → Prop} {s : DK} (h : DD w d F H s) : ∃ (A : Option Addr) (c : Nat) (G : List NF), At w d (boxD A G.length c s) ∧ Sl w w.heap.size A (EK.dv G) ∧ G.length ≤ c ∧ c ≤ maxLen ∧ (A = none → G = [] ∧ c = 0) ∧ mapN FV.f G = s.R ∧ (∀ q ∈ G, FVat w F H q.2) := by
  obtain ⟨A, c, G, h1, h2, h3, h4, h5, h6, _⟩ := h
  rcases h2 with ⟨rfl, rfl, rfl⟩ | ⟨g, rfl, _, _, hr⟩
  · exact ⟨none, 0, [], h1, .inl rfl, h3, h4, fun _ => ⟨rfl, rfl⟩, h5, h6⟩
  · exact ⟨_, c, G, h1, ET.Row.sl hr, h3, h4, (fun e => by cases e), h5, h6⟩
theorem DD.fh {W : World} {p : Nat} {F H : Nat → Prop} {s : DK} (h : DD W p F H s) {k : Nat} (hk : F k) : H k := by obtain ⟨A, c, G, h1, h2, h3, h4, h5, h6, h7, h8, h9⟩ := h; exact h8 k hk
theorem DD.fd {W : World} {p : Nat} {F H : Nat → Prop} {s : DK} (h : DD W p F H s) : F p := by obtain ⟨A, c, G, h1, h2, h3, h4, h5, h6, h7, h8, h9⟩ := h; exact h7
theorem f_at {G : List NF} {R : DR} (h : mapN FV.f G = R) (k : Nat) : R[k]? = (G[k]?).map fun q => (q.1, q.2.f) := by rw [← h, mapN, List.getElem?_map]
set_option maxHeartbeats 1600000 in
theorem find_no (w : World) (d : Nat) (F H : Nat → Prop) (s : DK) (n : Nat) (h : DD w d F H s) (hok : s.ok n) (hn : n < 1000000) (x : Nm) (hx : look s.R x = none) :
    Calls Try.prog 54 #[.pointer (some ⟨d, 0, none⟩), str x] w fun e w' => e = .returned (.int .i64 (-1)) ∧ w' = w := by
  obtain ⟨A, c, G, h1, hsl, hc, hcm, hnil, hG, _⟩ := h.sl
  have hlen : (G.length : Int) ≤ n := by
    have h1 := hok.files
    have h2 := hok.calls
    rw [← hG, mapN_len] at h1
    omega
  have hall : ∀ (j : Nat) (q : NF), G[j]? = some q → q.1 ≠ x := fun j q hj e => by
    have h1 := f_look hG x
    rw [hx] at h1
    have h2 := List.mem_of_getElem? hj
    cases hl : look G x with
    | some v => rw [hl] at h1; cases h1
    | none => exact look_none hl q h2 e
  obtain ⟨m, hm⟩ : ∃ m, G.length = m := ⟨_, rfl⟩
  rw [hm] at h1 hc hlen
  clear h hok hx hG
  have e1 := h1.c 1 rfl
  have HH := Lib.hid (And.intro h1 (And.intro hsl (And.intro hall hm)))
  clear h1 hsl hall hm hnil hcm hc
  unfold str
  go_enter Try.func54, Try.ntmps54
  go_wp2_with fail
  go_loopw [5] (fun x5 w2 => ∃ j : Nat, j ≤ m ∧ x5 = .int .i64 (j : Int) ∧ w2 = w) (fun x5 _ => m - (intOf x5).toNat)
  case atStart => exact ⟨0, by omega, rfl, rfl⟩
  case round =>
    obtain ⟨j, hj, rfl, rfl⟩ := hrel
    by_cases hlt : j < m
    · obtain ⟨y, hy⟩ : ∃ y, G[j]? = some y := ⟨_, List.getElem?_eq_getElem (by rw [HH.out.2.2.2]; omega)⟩
      obtain ⟨g, o, hA, hg, hid, _⟩ := fileAt HH.out.2.1 hy
      subst hA
      have hne : (y.1 == x) = false := beq_eq_false_iff_ne.2 (HH.out.2.2.1 j y hy)
      unfold str at hid
      clear hy
      go_wp2_with fail
      go_roundw
      case rel => exact ⟨j + 1, by omega, by go_num, trivial⟩
      case measure => simp [intOf]; omega
    · obtain rfl : j = m := by omega
      go_wp2_with fail
      go_ret
      exact ⟨rfl, rfl⟩
set_option maxHeartbeats 1600000 in
theorem find_at (w : World) (d : Nat) (F H : Nat → Prop) (s : DK) (n : Nat) (h : DD w d F H s) (hok : s.ok n) (hn : n < 1000000) (x : Nm) {k : Nat} {f : DF} (hx : s.R[k]? = some (x, f)) :
    Calls Try.prog 54 #[.pointer (some ⟨d, 0, none⟩), str x] w fun e w' => e = .returned (.int .i64 (k : Int)) ∧ w' = w := by
  obtain ⟨A, c, G, h1, hsl, hc, hcm, hnil, hG, _⟩ := h.sl
  have hlen : (G.length : Int) ≤ n := by
    have h1 := hok.files
    have h2 := hok.calls
    rw [← hG, mapN_len] at h1
    omega
  obtain ⟨q, hq⟩ : ∃ q, G[k]? = some q := by
    rw [f_at hG] at hx
    cases hq : G[k]? with
    | none => rw [hq] at hx; cases hx
    | some q => exact ⟨q, rfl⟩
  have hqx : q.1 = x := by
    rw [f_at hG, hq] at hx
    simpa using congrArg (Option.map Prod.fst) hx
  have hkm := (List.getElem?_eq_some_iff.1 hq).1
  have hall : G[k]? = some q ∧ q.1 = x ∧ ∀ (j : Nat) (p : NF), G[j]? = some p → j < k → p.1 ≠ x := ⟨hq, hqx, fun j p hj hjk e => by
    have hr := hok.rise
    rw [← hG, mapN_rise] at hr
    exact nm_ne (rise_at hr hjk hj hq) (e.trans hqx.symm)⟩
  clear hq hqx
  obtain ⟨m, hm⟩ : ∃ m, G.length = m := ⟨_, rfl⟩
  rw [hm] at h1 hc hlen hkm
  clear h hok hx hG
  have e1 := h1.c 1 rfl
  have HH := Lib.hid (And.intro h1 (And.intro hsl (And.intro hall hm)))
  clear h1 hsl hall hm hnil hcm hc
  unfold str
  go_enter Try.func54, Try.ntmps54
  go_wp2_with fail
  go_loopw [5] (fun x5 w2 => ∃ j : Nat, j ≤ k ∧ x5 = .int .i64 (j : Int) ∧ w2 = w) (fun x5 _ => m - (intOf x5).toNat)
  case atStart => exact ⟨0, by omega, rfl, rfl⟩
  case round =>
    obtain ⟨j, hj, rfl, rfl⟩ := hrel
    by_cases hlt : j < k
    · obtain ⟨y, hy⟩ : ∃ y, G[j]? = some y := ⟨_, List.getElem?_eq_getElem (by rw [HH.out.2.2.2]; omega)⟩
      obtain ⟨g, o, hA, hg, hid, _⟩ := fileAt HH.out.2.1 hy
      subst hA
      have hne : (y.1 == x) = false := beq_eq_false_iff_ne.2 (HH.out.2.2.1.2.2 j y hy hlt)
      unfold str at hid
      clear hy
      go_wp2_with fail
      go_roundw
      case rel => exact ⟨j + 1, by omega, by go_num, trivial⟩
      case measure => simp [intOf]; omega
    · obtain rfl : j = k := by omega
      obtain ⟨g, o, hA, hg, hid, _⟩ := fileAt HH.out.2.1 HH.out.2.2.1.1
      subst hA
      have hne : (q.1 == x) = true := beq_iff_eq.2 HH.out.2.2.1.2.1
      unfold str at hid
      go_wp2_with fail
      go_ret
      exact ⟨rfl, rfl⟩
/-- another box, the same row -/
theorem DD.rebox {W W' : World} {d : Nat} {F H : Nat → Prop} {s : DK} (h : DD W d F H s) (s' : DK) (hg : Grew (fun k => k = d) W W') (hA : ∀ A l c, At W d (boxD A l c s) → At W' d (boxD A l c s')) (hR : s'.R = s.R) : DD W' d F H s' ∧ Grew F W W' := by
  obtain ⟨A, c, G, h1, h2, h3, h4, h5, h6, h7, h8, h9⟩ := h
  refine ⟨⟨A, c, G, hA A _ c h1, ?_, h3, h4, h5.trans hR.symm, fun q hq => (h6 q hq).grew hg (fun k hk hF e => hF (e ▸ h7)), h7, h8, fun k hk => Nat.lt_of_lt_of_le (h9 k hk) hg.size⟩, hg.mono (fun k _ e => e ▸ h7)⟩
  rcases h2 with h2 | ⟨g, e, hF, hne, hr⟩
  · exact .inl h2
  · exact .inr ⟨g, e, hF, hne, At.grew hr hg hne⟩
theorem dgone_any (w : World) (p : Nat) (F H : Nat → Prop) (s : DK) (n : Nat) (h : DD w p F H s) (hok : s.ok n) :
    Calls Try.prog 55 #[.pointer (some ⟨p, 0, none⟩)] w fun e w' => e = .returned (.bool s.power.off) ∧ DD w' p F H s.power ∧ Grew F w w' := by
  obtain ⟨A, c, G, hA, _⟩ := h.sl
  have c4 := hA.c 3 rfl
  have c6 := hA.c 5 rfl
  have f4 := hA.f 3 rfl
  have f6 := hA.f 5 rfl
  have a0 := hok.arm0
  have a1 := hok.arm1
  clear hA
  obtain ⟨room, calls, arm, keep, off, R⟩ := s
  dsimp only at c4 c6 a0 a1
  cases off with
  | true =>
    go_enter Try.func55, Try.ntmps55
    go_wp2
    go_ret
    exact ⟨rfl, h, Grew.refl _ _⟩
  | false =>
    by_cases ha : 0 < arm
    · have hd : decide (0 < arm) = true := by simpa using ha
      have hs : (⟨room, calls, arm, keep, false, R⟩ : DK).power = ⟨room, calls, arm - 1, keep, arm - 1 == 0, R⟩ := by simp [DK.power, ha]; rfl
      rw [hs]
      have Hh := Lib.hid h
      clear h hok hs
      go_enter Try.func55, Try.ntmps55
      go_wp2
      go_ret
      refine ⟨rfl, ?_⟩
      exact Hh.out.rebox ⟨room, calls, arm - 1, keep, arm - 1 == 0, R⟩ (((Grew.refl _ w).putP _).putP _) (fun A l c hA => (hA.set 3 _ (by simp [boxD])).set 5 _ (by simp [boxD])) rfl
    · have hd : decide (0 < arm) = false := by simpa using ha
      have hs : (⟨room, calls, arm, keep, false, R⟩ : DK).power = ⟨room, calls, arm, keep, false, R⟩ := by simp [DK.power, ha]
      rw [hs]
      go_enter Try.func55, Try.ntmps55
      go_wp2
      go_ret
      exact ⟨rfl, h, Grew.refl _ _⟩
theorem well_any (w : World) (p : Nat) (F H : Nat → Prop) (s : DK) (h : DD w p F H s) (hc0 : 0 ≤ s.calls) (hc1 : s.calls ≤ 1000000) :
    Calls Try.prog 57 #[.pointer (some ⟨p, 0, none⟩)] w fun e w' => e = .returned (.int .i64 0) ∧ DD w' p F H (s.lay s.R) ∧ Grew F w w' := by
  obtain ⟨A, c, G, hA, _⟩ := h.sl
  have c4 := hA.c 2 rfl
  have f4 := hA.f 2 rfl
  clear hA
  obtain ⟨room, calls, arm, keep, off, R⟩ := s
  dsimp only at c4 hc0 hc1
  have Hh := Lib.hid h
  clear h
  go_enter Try.func57, Try.ntmps57
  go_wp2
  go_ret
  refine ⟨rfl, ?_⟩
  exact Hh.out.rebox ((⟨room, calls, arm, keep, off, R⟩ : DK).lay R) ((Grew.refl _ w).putP _) (fun A l c hA => hA.set 2 _ (by simp [boxD])) rfl
theorem darmSet {w : World} {p : Nat} {A : Option Addr} {l c : Nat} {s : DK} (hA : At w p (boxD A l c s)) {m n k : Int} (hm : m = max n 0) : At ((w.setCell ⟨p, 3, none⟩ (.int .i64 m)).setCell ⟨p, 4, none⟩ (.int .i64 k)) p (boxD A l c (s.armed n k)) := by
  subst hm
  exact (hA.set 3 _ (by simp [boxD])).set 4 _ (by simp [boxD])
theorem DArm_any (w : World) (p : Nat) (F H : Nat → Prop) (s : DK) (h : DD w p F H s) (n k : Int) (_h0 : -9223372036854775808 ≤ n) (_h1 : n ≤ 9223372036854775807) :
    Calls Try.prog 49 #[.pointer (some ⟨p, 0, none⟩), .int .i64 n, .int .i64 k] w fun e w' => e = .returned (.tuple #[]) ∧ DD w' p F H (s.armed n k) ∧ Grew F w w' := by
  obtain ⟨A, c, G, hA, _⟩ := h.sl
  have c4 := hA.c 3 rfl
  have c5 := hA.c 4 rfl
  have f4 := hA.f 3 rfl
  have f5 := hA.f 4 rfl
  have Hh := Lib.hid h
  clear hA h
  go_enter Try.func49, Try.ntmps49
  go_wp2
  all_goals (go_end0; refine ⟨rfl, ?_⟩)
  all_goals exact Hh.out.rebox (s.armed n k) (((Grew.refl _ w).putP _).putP _) (fun A l c hA => darmSet hA (by omega)) rfl
theorem sumN_take_le {β : Type} (len : β → Nat) : ∀ (R : List (Nm × β)) (j : Nat), sumN len (R.take j) ≤ sumN len R
  | [], _ => by simp [sumN]
  | p :: R, 0 => by simp [sumN]
  | p :: R, j + 1 => by
    have := sumN_take_le len R j
    simp only [List.take_succ_cons, sumN]
    omega
theorem sumN_take_succ {β : Type} (len : β → Nat) : ∀ (R : List (Nm × β)) (j : Nat) (p : Nm × β), R[j]? = some p → sumN len (R.take (j + 1)) = sumN len (R.take j) + len p.2
  | [], _, _, h => by simp at h
  | q :: R, 0, p, h => by
    obtain rfl : q = p := by simpa using h
    simp [sumN]
  | q :: R, j + 1, p, h => by
    have := sumN_take_succ len R j p (by simpa using h)
    rw [List.take_succ_cons, List.take_succ_cons]
    simp only [sumN] at this ⊢
    omega
set_option maxHeartbeats 1600000 in
theorem DUsed_any (w : World) (d : Nat) (F H : Nat → Prop) (s : DK) (n : Nat) (h : DD w d F H s) (hok : s.ok n) (hn : n < 1000000) :
    Calls Try.prog 36 #[.pointer (some ⟨d, 0, none⟩)] w fun e w' => e = .returned (.int .i64 (usedR s.R : Int)) ∧ w' = w := by
  obtain ⟨A, c, G, h1, hsl, hc, hcm, hnil, hG, _⟩ := h.sl
  have hlen : (G.length : Int) ≤ n := by
    have h1 := hok.files
    have h2 := hok.calls
    rw [← hG, mapN_len] at h1
    omega
  have hu : usedR s.R = sumN (fun v => (FV.f v).len) G := by rw [← hG]; exact sumN_map _ _ _
  have hsm := hok.used
  have hro := hok.room
  rw [hu] at hsm ⊢
  obtain ⟨m, hm⟩ : ∃ m, G.length = m := ⟨_, rfl⟩
  have hall : ∀ j, sumN (fun v => (FV.f v).len) (G.take j) ≤ sumN (fun v => (FV.f v).len) G := sumN_take_le _ G
  have hend : sumN (fun v => (FV.f v).len) (G.take m) = sumN (fun v => (FV.f v).len) G := by rw [List.take_of_length_le (by omega)]
  obtain ⟨U, hU⟩ : ∃ U, sumN (fun v => (FV.f v).len) G = U := ⟨_, rfl⟩
  rw [hm] at h1 hc hlen
  rw [hU] at hsm hall hend ⊢
  have e1 := h1.c 1 rfl
  have HH := Lib.hid (And.intro h1 (And.intro hsl (And.intro hall (And.intro hm hend))))
  clear h hok hG hu hU h1 hsl hall hm hnil hcm hc hend
  go_enter Try.func36, Try.ntmps36
  go_wp2_with fail
  go_loopw [3, 4] (fun x3 x4 w2 => ∃ j : Nat, j ≤ m ∧ x4 = .int .i64 (j : Int) ∧ x3 = .int .i64 ((sumN (fun v => (FV.f v).len) (G.take j) : Nat) : Int) ∧ w2 = w) (fun _ x4 _ => m - (intOf x4).toNat)
  case atStart => exact ⟨0, by omega, rfl, rfl, rfl⟩
  case round =>
    obtain ⟨j, hj, rfl, rfl, rfl⟩ := hrel
    by_cases hlt : j < m
    · obtain ⟨y, hy⟩ : ∃ y, G[j]? = some y := ⟨_, List.getElem?_eq_getElem (by rw [HH.out.2.2.2.1]; omega)⟩
      obtain ⟨g, o, hA, hg, _, hid, _⟩ := fileAt HH.out.2.1 hy
      subst hA
      have hnx := sumN_take_succ (fun v => (FV.f v).len) G j y hy
      have hb := HH.out.2.2.1 (j + 1)
      have hl : y.2.f.len = y.2.f.b.length := rfl
      rw [hnx] at hb
      simp only [hl] at hb hnx
      have HX := Lib.hid hnx
      generalize sumN (fun v => (FV.f v).len) (G.take j) = S0 at *
      generalize y.2.f.b.length = L0 at *
      clear hy hnx hl
      go_wp2_with fail
      go_roundw
      case rel => exact ⟨j + 1, by omega, by go_num, by rw [HX.out]; go_num, trivial⟩
      case measure => simp [intOf]; omega
    · obtain rfl : j = m := by omega
      have hend := HH.out.2.2.2.2
      rw [hend]
      go_wp2_with fail
      go_ret
      exact ⟨rfl, rfl⟩
end Go.Proofs.Ythnbnhlfiehihaa
/- Arrays in memory; an operation's value. -/
namespace Go.Proofs.Ythnbnhlfiehihaa
open Go.RowKit

theorem addN (g j : Nat) : (⟨g, 0, none⟩ : Addr).add j = ⟨g, j, none⟩ := addr0 g j
theorem run_loadArr (w : World) (t : TypeId) {n g : Nat} {us : List Value} (hagg : ∀ w, (isAgg t).run Try.prog w = .ok true w) (hsz : ∀ w, (sizeOf t).run Try.prog w = .ok n w) (hA : At w g us) (hn : us.length = n) :
    (Instr.loadAt t (.pointer (some ⟨g, 0, none⟩))).run Try.prog w = .ok (.agg us.toArray) w := by
  have hl := run_loadCells_list (P := Try.prog) w ⟨g, 0, none⟩ us (fun j u hu => by rw [addN]; exact hA.c j hu)
  subst hn
  simp [Instr.loadAt, Instr.sureAddr, loadVar, hagg, hsz, hl]
theorem putL_setCells : ∀ (us : List Value) (w : World) (g o : Nat), putL w g o us = w.setCells g o us
  | [], _, _, _ => rfl
  | _u :: us, _w, g, o => putL_setCells us _ g (o + 1)
theorem run_storeArr (w : World) (t : TypeId) {n g : Nat} {us old : List Value} (hsz : ∀ w, (sizeOf t).run Try.prog w = .ok n w) (hA : At w g old) (ho : old.length = n) (hn : us.length = n) (h1 : ∀ u ∈ us, u.oneCell' = true) :
    (Instr.storeAt t (.pointer (some ⟨g, 0, none⟩)) (.agg us.toArray)).run Try.prog w = .ok () (putL w g 0 us) := by
  have hst := run_storeCells_cells (P := Try.prog) g 0 us 0 w (fun j hj => by rw [Nat.zero_add, hA.c j (List.getElem?_eq_getElem (by omega))]; rfl) (fun j hj => by rw [Nat.zero_add]; exact hA.f j (List.getElem?_eq_getElem (by omega))) h1
  simp only [Nat.add_zero] at hst
  rw [putL_setCells]
  subst hn
  simp [Instr.storeAt, Instr.sureAddr, storeVar, hsz, Value.cells, hst]
section
variable {ops : Array Oper} {rest : List Oper} {o : Oper} {a : Act} {Q : Exit → Act → World → Prop} {w : World} {x y : Operand}
theorem wpVal {K : Act → World → Prop} {v : Value} {w' : World} (hv : (execOp a.eval o).run Try.prog w = .ok (.value v) w') (h : K (a.put o.dst v) w') : o.wp Try.prog a w K Q := by
  unfold Oper.wp
  rw [hv]
  exact h
theorem wpSkip {K : Act → World → Prop} {w' : World} (hv : (execOp a.eval o).run Try.prog w = .ok .skip w') (h : K (a.put o.dst undef) w') : o.wp Try.prog a w K Q := by
  unfold Oper.wp
  rw [hv]
  exact h
theorem opVal (hgd : o.guard = none) {v : Value} {w' : World} (hv : (execOp a.eval o).run Try.prog w = .ok (.value v) w') (h : wpList Try.prog ops Q rest (a.put o.dst v) w') : wpList Try.prog ops Q (o :: rest) a w :=
  wpList_plain hgd fun _ hK => wpVal hv (hK _ _ h)
theorem opSkip (hgd : o.guard = none) {w' : World} (hv : (execOp a.eval o).run Try.prog w = .ok .skip w') (h : wpList Try.prog ops Q rest (a.put o.dst undef) w') : wpList Try.prog ops Q (o :: rest) a w :=
  wpList_plain hgd fun _ hK => wpSkip hv (hK _ _ h)
end
theorem opValG {ops : Array Oper} {rest : List Oper} {o : Oper} {a : Act} {Q : Exit → Act → World → Prop} {w : World} (hgd : Region.wanted o (yielded ops a.tmps) = true) {v : Value} {w' : World} (hv : (execOp a.eval o).run Try.prog w = .ok (.value v) w') (h : wpList Try.prog ops Q rest (a.put o.dst v) w') : wpList Try.prog ops Q (o :: rest) a w :=
  wpList_step fun K hK => by simp only [hgd, if_true]; exact wpVal hv (hK _ _ h)
theorem addO (g o j : Nat) : (⟨g, o, none⟩ : Addr).add j = ⟨g, o + j, none⟩ := by
  unfold Addr.add
  split
  · rename_i h; subst h; rfl
  · rfl
theorem run_loadArrO (w : World) (t : TypeId) {n g o : Nat} {us : List Value} (hagg : ∀ w, (isAgg t).run Try.prog w = .ok true w) (hsz : ∀ w, (sizeOf t).run Try.prog w = .ok n w) (hA : ∀ (j : Nat) (u : Value), us[j]? = some u → w.cell? ⟨g, o + j, none⟩ = some u) (hn : us.length = n) :
    (Instr.loadAt t (.pointer (some ⟨g, o, none⟩))).run Try.prog w = .ok (.agg us.toArray) w := by
  have hl := run_loadCells_list (P := Try.prog) w ⟨g, o, none⟩ us (fun j u hu => by rw [addO]; exact hA j u hu)
  subst hn
  simp [Instr.loadAt, Instr.sureAddr, loadVar, hagg, hsz, hl]
section
variable {ops : Array Oper} {rest : List Oper} {o : Oper} {a : Act} {Q : Exit → Act → World → Prop} {w : World} {x y : Operand} {t : TypeId}
theorem ex_alT {zs : Array Value} (hz : ∀ w, (zeroValue t).run Try.prog w = .ok (.agg zs) w) (ho : o.op = .alloc t) : (execOp a.eval o).run Try.prog w = .ok (.value (.pointer (some ⟨w.heap.size, 0, none⟩))) (w.alloc (.cells zs t)) := by
  simp [execOp, ho, Instr.alloc, hz, newVar, newRow, Value.cells]
theorem ex_ldT {n : Nat} (hagg : ∀ w, (isAgg t).run Try.prog w = .ok true w) (hsz : ∀ w, (sizeOf t).run Try.prog w = .ok n w) (ho : o.op = .load t x) {g : Nat} {us : List Value} (hx : a.eval x = .pointer (some ⟨g, 0, none⟩)) (hA : At w g us) (hn : us.length = n) : (execOp a.eval o).run Try.prog w = .ok (.value (.agg us.toArray)) w := by
  have h := run_loadArr w t hagg hsz hA hn
  simp [execOp, ho, hx, h]
theorem ex_ldTo {n : Nat} (hagg : ∀ w, (isAgg t).run Try.prog w = .ok true w) (hsz : ∀ w, (sizeOf t).run Try.prog w = .ok n w) (ho : o.op = .load t x) {g off : Nat} {us : List Value} (hx : a.eval x = .pointer (some ⟨g, off, none⟩)) (hA : ∀ (j : Nat) (u : Value), us[j]? = some u → w.cell? ⟨g, off + j, none⟩ = some u) (hn : us.length = n) : (execOp a.eval o).run Try.prog w = .ok (.value (.agg us.toArray)) w := by
  have h := run_loadArrO w t hagg hsz hA hn
  simp [execOp, ho, hx, h]
theorem ex_stT {n : Nat} (hsz : ∀ w, (sizeOf t).run Try.prog w = .ok n w) (ho : o.op = .store t x y) {g : Nat} {us old : List Value} (hx : a.eval x = .pointer (some ⟨g, 0, none⟩)) (hy : a.eval y = .agg us.toArray) (hA : At w g old) (hl : old.length = n) (hn : us.length = n) (h1 : ∀ u ∈ us, u.oneCell' = true) :
    (execOp a.eval o).run Try.prog w = .ok .skip (putL w g 0 us) := by
  have h := run_storeArr w t hsz hA hl hn h1
  simp [execOp, ho, hx, hy, h]
theorem ex_boxT (ho : o.op = .box t x) {us : List Value} (hx : a.eval x = .agg us.toArray) : (execOp a.eval o).run Try.prog w = .ok (.value (.pointer (some ⟨w.heap.size, 0, none⟩))) (w.alloc (.cells us.toArray t)) := by
  simp [execOp, ho, hx, Instr.box, newVar, newRow, Value.cells]
end
section
variable {ops : Array Oper} {rest : List Oper} {o : Oper} {a : Act} {Q : Exit → Act → World → Prop} {w : World}
/- the same, with the world behind it by name -/
theorem opValV (hgd : o.guard = none) {v : Value} {w' : World} (hv : (execOp a.eval o).run Try.prog w = .ok (.value v) w') (h : ∀ W, W = w' → wpList Try.prog ops Q rest (a.put o.dst v) W) : wpList Try.prog ops Q (o :: rest) a w :=
  opVal hgd hv (h w' rfl)
theorem opSkipV (hgd : o.guard = none) {w' : World} (hv : (execOp a.eval o).run Try.prog w = .ok .skip w') (h : ∀ W, W = w' → wpList Try.prog ops Q rest (a.put o.dst undef) W) : wpList Try.prog ops Q (o :: rest) a w :=
  opSkip hgd hv (h w' rfl)
end
end Go.Proofs.Ythnbnhlfiehihaa
