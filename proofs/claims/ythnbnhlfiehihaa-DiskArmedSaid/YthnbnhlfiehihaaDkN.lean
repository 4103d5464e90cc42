/- Disks: the program's Names. -/
import Derived.Test.YthnbnhlfiehihaaDk9
import Derived.Shelf.SlIter.Nil
import Derived.Shelf.SortM.Plain
import Derived.Shelf.SortM.SortNone
import Derived.Ground.GgzProg
import Derived.Ground.SlgmProg
import Derived.Ground.NamesProg
namespace Go.Proofs
open Go.RowKit Go.Maps Go.Sort Go.Shelf
shelf_lay_g SlLaysZ.n7 Ggz 7 at Try 53 as Try.keysA
shelf_lay_g SlLaysZ.n6 Ggz 6 at Try 52 as Try.sortedA
shelf_lay_g SlLaysM.n6 Slgm 6 at Try 62 as Try.sortA
theorem Try.sortsA (m : Nat) : AnyZ.SortsIn Try.prog Try.sortedA_ren Fence.wide m :=
  ⟨fun blk off cap ss W hH hblk hsz => callsIn_wide.2 (AnyM.slices_Sort_string Try.sortA blk off cap ss W hH hblk hsz),
   fun p cap W => callsIn_wide.2 (AnyM.slices_Sort_string_none Try.sortA p cap W)⟩
end Go.Proofs
namespace Go.Proofs.Ythnbnhlfiehihaa
open Go.RowKit Go.Maps Go.Sort Go.Shelf
set_option maxRecDepth 20000

set_option maxHeartbeats 1000000 in
theorem names_raw {H : Type} (p b nn : Nat) (D0 : DataW H) (R : Value → Option (DataW H × List MemPlace)) (w : World) (hown : w.ownsMap Try.prog 9 R b nn D0) (hmax : Maps.size D0 ≤ maxLen) (hbytes : Maps.size D0 * 16 ≤ 140737488355328) (c0 : w.cell? ⟨p, 0, none⟩ = some (.map (some b))) :
    Calls Try.prog 25 #[.pointer (some ⟨p, 0, none⟩)] w fun e w' => ∃ (v : Value) (ss : List (List UInt8)), e = .returned v ∧ ss.Perm (strKeys D0) ∧
      w'.ownsRow w.heap.size 9 1 v ss.length ((ss.mergeSort (fun x y => decide (x ≤ y))).map encStr) ∧ (v = .slice none 0 0 ↔ ss = []) ∧ Below w.heap.size w w' := by
  refine (callsIn_wide (n := 6)).1 ?_
  have hbl := hown.lt
  have hseq : SeqGives Fence.wide 2 Try.prog 63 #[.pointer (some ⟨w.heap.size, 0, none⟩)] encStr (fun ss => ss.Perm (strKeys D0)) (Maps.size D0) (w.alloc (.cells #[.map (some b)] 53)) :=
    AnyZ.keys_gives (ρ := Try.keysA_ren) { Try.keysA with } Fence.wide _ trivial rfl (by omega) w.heap.size b nn D0 _ (by simp) (by simp) (by
      obtain ⟨es, clock, hb, Ft, hs, hD⟩ := hown
      exact ⟨es, clock, (Below.heap_alloc _ _ b hbl).trans hb, Ft, hs, hD⟩)
  have cK : ∀ mb W, CallsIn Fence.wide 5 Try.prog 53 #[.map mb] W fun e w' => e = .returned (.func (.func 63) #[] #[.pointer (some ⟨W.heap.size, 0, none⟩)]) ∧ w' = W.alloc (.cells #[.map mb] 53) := fun mb W => AnyZ.keys_in Try.keysA Fence.wide 5 trivial rfl mb W
  have cS := AnyZ.sorted_in Try.sortedA Fence.wide 5 trivial trivial trivial trivial rfl (by omega) (Try.sortsA _) (enters_of Try.func62 (by kernel_rfl) rfl) 63 #[.pointer (some ⟨w.heap.size, 0, none⟩)] trivial (enters_of Try.func63 (by kernel_rfl) rfl) _ _ hmax hbytes _ hseq
  change CallsIn _ _ Try.prog 52 _ _ _ at cS
  have hfK : Fence.wide.fn 53 := trivial
  have hfS : Fence.wide.fn 52 := trivial
  refine callsIn_of_wp Try.func25 rfl trivial ?_ rfl
  simp only [Try.ntmps25, List.size_toArray, List.length_cons, List.length_nil, Nat.reduceAdd, Nat.reduceSub, Array.replicate_succ, Array.replicate_zero, List.push_toArray, List.append_toArray, List.nil_append, List.cons_append]
  gi_wp2_with (first
    | (gi_at_call 53; refine (cK _ _).mono ?_; rintro e w' ⟨rfl, rfl⟩)
    | (gi_at_call 52; refine cS.mono ?_; rintro e w' ⟨v, ss, rfl, hS, hrow, hnil, hb⟩))
  go_ret
  exact ⟨v, ss, rfl, hS, ownsRow_base_a hrow (by simp), hnil, ((Below.refl _ w).alloc (Nat.le_refl _) _).trans (hb.mono (by simp))⟩
theorem sort_names {ss l : List Nm} (hp : ss.Perm l) (hl : l.Pairwise (· < ·)) : ss.mergeSort (fun x y => decide (x ≤ y)) = l := by
  refine List.Perm.eq_of_pairwise (le := fun x y : Nm => decide (x ≤ y) = true) (fun a b _ _ h1 h2 => ?_) ?_ ?_ ((List.mergeSort_perm ss _).trans hp)
  · exact List.le_antisymm (by simpa using h1) (by simpa using h2)
  · refine List.pairwise_mergeSort (fun a b c h1 h2 => ?_) (fun a b => ?_) ss
    · simp only [decide_eq_true_eq] at *
      exact List.le_trans h1 h2
    · simp only [Bool.or_eq_true, decide_eq_true_eq]
      exact List.le_total a b
  · exact hl.imp fun h => by simpa using List.le_of_lt h
/-- names in memory: a slice whose block is new since w -/
def NamesAt (w w' : World) (A : Option Addr) (c : Nat) (l : List Nm) : Prop := Sl w' w'.heap.size A (l.map str) ∧ l.length ≤ c ∧ c ≤ maxLen ∧ (A = none → l = []) ∧ ∀ a, A = some a → w.heap.size ≤ a.block ∧ a.spot = none ∧ a.off = 0
theorem Names_any (w : World) (p : Nat) (F H : Nat → Prop) (s : DK) (n : Nat) (h : PD w p F H s) (hok : s.ok n) (hn : n < 1000000) :
    Calls Try.prog 25 #[.pointer (some ⟨p, 0, none⟩)] w fun e w' => ∃ A c, e = .returned (.slice A s.R.length c) ∧ NamesAt w w' A c s.names ∧ Below w.heap.size w w' := by
  obtain ⟨mb, G, h1, ⟨hk, es, ho, hp⟩, h3, _⟩ := h
  have hlen : es.length = s.R.length := by rw [hp.length_eq, List.length_map, mapN_len, ← mapN_len FV.f, h3]
  have hfl := hok.files
  have hcl := hok.calls
  have hsz : Maps.size (.map es : DataW Unit) = s.R.length := by rw [Maps.size_eq, hlen]
  have hkeys : (strKeys (.map es : DataW Unit)).Perm s.names := by
    have h4 : s.names = ((mapN FV.raw G).map MD.ent).map fun p => strOf p.1 := by
      rw [DK.names, ← h3]
      simp [mapN, MT.ent, MD, strOf]
    rw [h4]
    exact hp.map _
  refine (names_raw p mb _ _ _ w ho (by rw [hsz]; simp only [maxLen]; omega) (by rw [hsz]; omega) (h1.c 0 rfl)).mono ?_
  rintro e w' ⟨v, ss, rfl, hperm, hrow, hnil, hb⟩
  have hsl : ss.length = s.R.length := by rw [(hperm.trans hkeys).length_eq, DK.names, List.length_map]
  rw [sort_names (hperm.trans hkeys) (rise_names.1 hok.rise), hsl] at hrow
  rcases hrow.2 with ⟨rfl, h0⟩ | ⟨g, cap, cur, rfl, hbase, hg, k1, k2, _⟩
  · have e0 : s.names = [] := List.eq_nil_of_length_eq_zero (by rw [DK.names, List.length_map]; exact h0)
    refine ⟨none, 0, by rw [h0], ⟨.inl (by rw [e0]; rfl), by rw [e0]; exact Nat.le_refl _, Nat.zero_le _, fun _ => e0, (fun a h => nomatch h)⟩, hb⟩
  · have hlt := (Array.getElem?_eq_some_iff.1 hg).1
    refine ⟨_, cap, rfl, ⟨.inr ⟨g, 0, rfl, hlt, hlt, fun j u hu => ?_⟩, by rw [DK.names, List.length_map]; exact k1, k2, (fun e => nomatch e), (fun a h => by cases h; exact ⟨hbase, rfl, rfl⟩)⟩, hb⟩
    have := World.ownsRow.cells hrow (g := g) rfl j u hu
    rw [addr0] at this
    simpa using this
end Go.Proofs.Ythnbnhlfiehihaa

