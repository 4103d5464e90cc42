/- Vectors: slices.Sorted(maps.Keys(m)). -/
import Derived.Shelf.SlIterI.Nil
import Derived.Shelf.SortM.Plain
import Derived.Shelf.SortM.SortNone
import Derived.Ground.GgzProg
import Derived.Ground.SlgmProg
import Derived.Ground.NamesProg
import Derived.Deep.Upon
import Derived.Test.YtaflikgdlkaefaaM00
import Derived.Test.YtaflikgdlkaefaaM02
import Derived.Test.YtaflikgdlkaefaaM03
import Derived.Test.YtaflikgdlkaefaaM07
import Derived.Test.YtaflikgdlkaefaaM08
namespace Go.Proofs
open Go.RowKit Go.Maps Go.Sort Go.Shelf
def Try.keysV_ren : Go.Shelf.Ren := ⟨fun | 7 => 58 | 10 => 75 | n => n, fun | 23 => 58 | 26 => 3 | 3 => 40 | 28 => 88 | 0 => 0 | 27 => 87 | 33 => 105 | 4 => 4 | n => n, fun | n => n⟩
theorem Try.keysV : Go.Proofs.SlLaysZI.n7 Try.prog Try.keysV_ren := {
  mixed := by kernel_rfl
  f7 := ⟨Try.f58.name, by decide, Try.func58.trans (congrArg some (by kernel_rfl))⟩
  f10 := ⟨Try.f75.name, by decide, Try.func75.trans (congrArg some (by kernel_rfl))⟩
  t0 := Try.underlying0
  a0 := Try.isAgg0
  z0 := Try.sizeOf0
  v0 := Try.zeroValue0
  t4 := Try.underlying4
  a4 := Try.isAgg4
  z4 := Try.sizeOf4
  v4 := Try.zeroValue4
  t23 := Try.underlying58
  a23 := Try.isAgg58
  z23 := Try.sizeOf58
  v23 := Try.zeroValue58
  t26 := Try.underlying3
  a26 := Try.isAgg3
  z26 := Try.sizeOf3
  v26 := Try.zeroValue3
  t27 := Try.underlying87
  a27 := Try.isAgg87
  z27 := Try.sizeOf87
  v27 := Try.zeroValue87
  t28 := Try.underlying88
  a28 := Try.isAgg88
  z28 := Try.sizeOf88
  v28 := Try.zeroValue88
  t33 := Try.underlying105
  a33 := Try.isAgg105
  z33 := Try.sizeOf105
  v33 := Try.zeroValue105 }
def Try.sortedV_ren : Go.Shelf.Ren := ⟨fun | 6 => 57 | 8 => 73 | 9 => 74 | 11 => 81 | 13 => 79 | 12 => 82 | 23 => 92 | 24 => 93 | 14 => 94 | 15 => 95 | 16 => 96 | 17 => 97 | 18 => 98 | 19 => 99 | 20 => 100 | 21 => 101 | 22 => 102 | 25 => 108 | 26 => 104 | 27 => 105 | 28 => 109 | 29 => 110 | 30 => 111 | 31 => 113 | n => n, fun | 26 => 3 | 28 => 88 | 24 => 38 | 0 => 0 | 3 => 3 | 37 => 30 | 48 => 122 | 50 => 71 | 4 => 4 | 40 => 115 | 39 => 114 | 45 => 119 | 5 => 5 | 9 => 9 | 51 => 130 | 55 => 133 | 57 => 137 | 58 => 138 | 33 => 105 | n => n, fun | n => n⟩
theorem Try.sortedV : Go.Proofs.SlLaysZI.n6 Try.prog Try.sortedV_ren := {
  mixed := by kernel_rfl
  f6 := ⟨Try.f57.name, by decide, Try.func57.trans (congrArg some (by kernel_rfl))⟩
  f8 := ⟨Try.f73.name, by decide, Try.func73.trans (congrArg some (by kernel_rfl))⟩
  f11 := ⟨Try.f81.name, by decide, Try.func81.trans (congrArg some (by kernel_rfl))⟩
  t0 := Try.underlying0
  a0 := Try.isAgg0
  z0 := Try.sizeOf0
  v0 := Try.zeroValue0
  t24 := Try.underlying38
  a24 := Try.isAgg38
  z24 := Try.sizeOf38
  v24 := Try.zeroValue38
  t26 := Try.underlying3
  a26 := Try.isAgg3
  z26 := Try.sizeOf3
  v26 := Try.zeroValue3
  t28 := Try.underlying88
  a28 := Try.isAgg88
  z28 := Try.sizeOf88
  v28 := Try.zeroValue88
  i26 := by kernel_rfl }
def Try.sortV_ren : Go.Shelf.Ren := ⟨fun | 5 => 74 | 8 => 79 | 7 => 82 | 19 => 92 | 20 => 93 | 10 => 94 | 11 => 95 | 12 => 96 | 13 => 97 | 14 => 98 | 15 => 99 | 16 => 100 | 17 => 101 | 18 => 102 | 30 => 108 | 31 => 104 | 32 => 105 | 33 => 109 | 34 => 110 | 35 => 111 | 40 => 113 | n => n, fun | 23 => 38 | 25 => 3 | 3 => 3 | 32 => 30 | 22 => 38 | 0 => 0 | 44 => 122 | 46 => 71 | 4 => 4 | 36 => 115 | 35 => 114 | 41 => 119 | 5 => 5 | 9 => 9 | 53 => 130 | 57 => 133 | 63 => 137 | 64 => 138 | n => n, fun | n => n⟩
theorem Try.sortV : Go.Proofs.SlLaysM.n5 Try.prog Try.sortV_ren := {
  mixed := by kernel_rfl
  f5 := ⟨Try.f74.name, by decide, Try.func74.trans (congrArg some (by kernel_rfl))⟩
  f7 := ⟨Try.f82.name, by decide, Try.func82.trans (congrArg some (by kernel_rfl))⟩
  f8 := Try.func79.trans (congrArg some (by kernel_rfl))
  f10 := ⟨Try.f94.name, by decide, Try.func94.trans (congrArg some (by kernel_rfl))⟩
  f11 := ⟨Try.f95.name, by decide, Try.func95.trans (congrArg some (by kernel_rfl))⟩
  f12 := ⟨Try.f96.name, by decide, Try.func96.trans (congrArg some (by kernel_rfl))⟩
  f13 := ⟨Try.f97.name, by decide, Try.func97.trans (congrArg some (by kernel_rfl))⟩
  f14 := ⟨Try.f98.name, by decide, Try.func98.trans (congrArg some (by kernel_rfl))⟩
  f15 := ⟨Try.f99.name, by decide, Try.func99.trans (congrArg some (by kernel_rfl))⟩
  f16 := ⟨Try.f100.name, by decide, Try.func100.trans (congrArg some (by kernel_rfl))⟩
  f17 := ⟨Try.f101.name, by decide, Try.func101.trans (congrArg some (by kernel_rfl))⟩
  f18 := ⟨Try.f102.name, by decide, Try.func102.trans (congrArg some (by kernel_rfl))⟩
  f19 := Try.func92.trans (congrArg some (by kernel_rfl))
  f20 := Try.func93.trans (congrArg some (by kernel_rfl))
  f30 := ⟨Try.f108.name, by decide, Try.func108.trans (congrArg some (by kernel_rfl))⟩
  f31 := Try.func104.trans (congrArg some (by kernel_rfl))
  f32 := Try.func105.trans (congrArg some (by kernel_rfl))
  f33 := ⟨Try.f109.name, by decide, Try.func109.trans (congrArg some (by kernel_rfl))⟩
  f34 := ⟨Try.f110.name, by decide, Try.func110.trans (congrArg some (by kernel_rfl))⟩
  f35 := ⟨Try.f111.name, by decide, Try.func111.trans (congrArg some (by kernel_rfl))⟩
  f40 := ⟨Try.f113.name, by decide, Try.func113.trans (congrArg some (by kernel_rfl))⟩
  t0 := Try.underlying0
  a0 := Try.isAgg0
  z0 := Try.sizeOf0
  v0 := Try.zeroValue0
  t3 := Try.underlying3
  a3 := Try.isAgg3
  z3 := Try.sizeOf3
  v3 := Try.zeroValue3
  t4 := Try.underlying4
  a4 := Try.isAgg4
  z4 := Try.sizeOf4
  v4 := Try.zeroValue4
  t5 := Try.underlying5
  a5 := Try.isAgg5
  z5 := Try.sizeOf5
  v5 := Try.zeroValue5
  t9 := Try.underlying9
  a9 := Try.isAgg9
  z9 := Try.sizeOf9
  v9 := Try.zeroValue9
  t22 := Try.underlying38
  a22 := Try.isAgg38
  z22 := Try.sizeOf38
  v22 := Try.zeroValue38
  t23 := Try.underlying38
  a23 := Try.isAgg38
  z23 := Try.sizeOf38
  v23 := Try.zeroValue38
  t25 := Try.underlying3
  a25 := Try.isAgg3
  z25 := Try.sizeOf3
  v25 := Try.zeroValue3
  t32 := Try.underlying30
  a32 := Try.isAgg30
  z32 := Try.sizeOf30
  v32 := Try.zeroValue30
  t35 := Try.underlying114
  a35 := Try.isAgg114
  z35 := Try.sizeOf114
  v35 := Try.zeroValue114
  t36 := Try.underlying115
  a36 := Try.isAgg115
  z36 := Try.sizeOf115
  v36 := Try.zeroValue115
  t41 := Try.underlying119
  a41 := Try.isAgg119
  z41 := Try.sizeOf119
  v41 := Try.zeroValue119
  t44 := Try.underlying122
  a44 := Try.isAgg122
  z44 := Try.sizeOf122
  v44 := Try.zeroValue122
  t46 := Try.underlying71
  a46 := Try.isAgg71
  z46 := Try.sizeOf71
  v46 := Try.zeroValue71
  t53 := Try.underlying130
  a53 := Try.isAgg130
  z53 := Try.sizeOf130
  v53 := Try.zeroValue130
  t57 := Try.underlying133
  a57 := Try.isAgg133
  z57 := Try.sizeOf133
  v57 := Try.zeroValue133
  t63 := Try.underlying137
  a63 := Try.isAgg137
  z63 := Try.sizeOf137
  v63 := Try.zeroValue137
  t64 := Try.underlying138
  a64 := Try.isAgg138
  z64 := Try.sizeOf138
  v64 := Try.zeroValue138 }
theorem Try.sortsV (m : Nat) : AnyZI.SortsIn Try.prog Try.sortedV_ren Fence.wide m :=
  ⟨fun blk off cap ss W hH hblk hsz => callsIn_wide.2 (AnyM.slices_Sort_int Try.sortV blk off cap ss W hH hblk hsz),
   fun p cap W => callsIn_wide.2 (AnyM.slices_Sort_int_none Try.sortV p cap W)⟩
end Go.Proofs
namespace Go.Proofs.Ytaflikgdlkaefaa
open Go.RowKit Go.Maps Go.Sort Go.Shelf
set_option maxRecDepth 20000

theorem vkeys_any (b : Nat) (w : World) :
    Calls Try.prog 58 #[.map (some b)] w fun e w' => e = .returned (.func (.func 75) #[] #[.pointer (some ⟨w.heap.size, 0, none⟩)]) ∧ w' = w.alloc (.cells #[.map (some b)] 58) :=
  (callsIn_wide (n := 5)).1 (AnyZI.keys_in Try.keysV Fence.wide 5 trivial rfl (some b) w)
set_option maxHeartbeats 1000000 in
theorem vsorted_raw {H : Type} (b nn : Nat) (D0 : DataW H) (R : Value → Option (DataW H × List MemPlace)) (w : World) (hown : w.ownsMap Try.prog 3 R b nn D0) (hmax : Maps.size D0 ≤ maxLen) (hbytes : Maps.size D0 * 8 ≤ 140737488355328) :
    Calls Try.prog 57 #[.func (.func 75) #[] #[.pointer (some ⟨w.heap.size, 0, none⟩)]] (w.alloc (.cells #[.map (some b)] 58)) fun e w' => ∃ (v : Value) (ss : List Int), e = .returned v ∧ ss.Perm (intKeys D0) ∧
      w'.ownsRow w.heap.size 3 1 v ss.length ((ss.mergeSort (fun x y => decide (x ≤ y))).map encZ) ∧ (v = .slice none 0 0 ↔ ss = []) ∧ Below w.heap.size w w' := by
  have hbl := hown.lt
  have hseq : SeqGives Fence.wide 2 Try.prog 75 #[.pointer (some ⟨w.heap.size, 0, none⟩)] encZ (fun ss => ss.Perm (intKeys D0)) (Maps.size D0) (w.alloc (.cells #[.map (some b)] 58)) :=
    AnyZI.keys_gives (ρ := Try.keysV_ren) { Try.keysV with } Fence.wide _ trivial rfl (by omega) w.heap.size b nn D0 _ (by simp) (by simp) (by
      obtain ⟨es, clock, hb, Ft, hs, hD⟩ := hown
      exact ⟨es, clock, (Below.heap_alloc _ _ b hbl).trans hb, Ft, hs, hD⟩)
  have cS := AnyZI.sorted_in Try.sortedV Fence.wide 5 trivial trivial trivial trivial rfl (by omega) (Try.sortsV _) (enters_of Try.func74 (by kernel_rfl) rfl) 75 #[.pointer (some ⟨w.heap.size, 0, none⟩)] trivial (enters_of Try.func75 (by kernel_rfl) rfl) _ _ hmax hbytes _ hseq
  change CallsIn _ _ Try.prog 57 _ _ _ at cS
  refine ((callsIn_wide (n := 5)).1 cS).mono ?_
  rintro e w' ⟨v, ss, rfl, hS, hrow, hnil, hb⟩
  exact ⟨v, ss, rfl, hS, ownsRow_base_a hrow (by simp), hnil, ((Below.refl _ w).alloc (Nat.le_refl _) _).trans (hb.mono (by simp))⟩
/-- the keys of a map, rising -/
def Keys (L : List (Int × RSl)) : List Int := (L.map (·.1)).mergeSort fun x y => decide (x ≤ y)
theorem Keys.mem (L : List (Int × RSl)) (k : Int) : k ∈ Keys L ↔ k ∈ L.map (·.1) := (List.mergeSort_perm _ _).mem_iff
theorem Keys.len (L : List (Int × RSl)) : (Keys L).length = L.length := by rw [Keys, (List.mergeSort_perm _ _).length_eq, List.length_map]
theorem Keys.rise {L : List (Int × RSl)} (h : L.Pairwise fun p q => p.1 ≠ q.1) : (Keys L).Pairwise (· < ·) := by
  have h1 : (Keys L).Pairwise fun x y => decide (x ≤ y) = true := List.pairwise_mergeSort (fun a b c h1 h2 => by simp only [decide_eq_true_eq] at *; exact Int.le_trans h1 h2) (fun a b => by simp only [Bool.or_eq_true, decide_eq_true_eq]; exact Int.le_total a b) _
  have h2 : (Keys L).Pairwise (· ≠ ·) := (List.Perm.pairwise_iff (fun {_ _} h => Ne.symm h) (List.mergeSort_perm _ _)).2 (List.pairwise_map.2 h)
  refine (h1.and h2).imp fun {a b} ⟨h3, h4⟩ => ?_
  simp only [decide_eq_true_eq] at h3
  omega
set_option linter.unusedVariables false in
theorem intKeys_map {w : World} {b : Nat} {L : List (Int × RSl)} {es : List (Lit × DataW Unit)} (hp : es.Perm (L.map MV.ent)) : (intKeys (.map es : DataW Unit)).Perm (L.map (·.1)) := by
  have h := hp.map fun p => Go.intOf p.1
  rw [List.map_map] at h
  exact h
theorem vsorted_any (w : World) (b : Nat) (L : List (Int × RSl)) (hm : MapIs MV w b L) (hl : L.length ≤ 1000) :
    Calls Try.prog 57 #[.func (.func 75) #[] #[.pointer (some ⟨w.heap.size, 0, none⟩)]] (w.alloc (.cells #[.map (some b)] 58)) fun e w' => ∃ A c, e = .returned (.slice A L.length c) ∧ Sl w' w'.heap.size A ((Keys L).map (Value.int .i64)) ∧ (∀ a, A = some a → w.heap.size ≤ a.block) ∧ Below w.heap.size w w' := by
  obtain ⟨_, es, ho, hp⟩ := hm
  have hlen : es.length = L.length := by rw [hp.length_eq, List.length_map]
  have hsz : Maps.size (.map es : DataW Unit) = L.length := by rw [Maps.size_eq, hlen]
  refine (vsorted_raw b _ _ _ w ho (by rw [hsz]; simp only [maxLen]; omega) (by rw [hsz]; omega)).mono ?_
  rintro e w' ⟨v, ss, rfl, hperm, hrow, hnil, hb⟩
  have hperm2 := hperm.trans (intKeys_map (w := w) (b := b) hp)
  have hsl : ss.length = L.length := by rw [hperm2.length_eq, List.length_map]
  have hK : (ss.mergeSort fun x y => decide (x ≤ y)) = Keys L := mergeSort_of_perm_i hperm2
  rw [hK, hsl] at hrow
  rcases hrow.2 with ⟨rfl, h0⟩ | ⟨g, cap, cur, rfl, hbase, hg, k1, k2, _⟩
  · have e0 : Keys L = [] := List.eq_nil_of_length_eq_zero (by rw [Keys.len]; exact h0)
    exact ⟨none, 0, by rw [h0], .inl (by rw [e0]; rfl), (fun a h => (by cases h)), hb⟩
  · have hlt := (Array.getElem?_eq_some_iff.1 hg).1
    refine ⟨_, cap, rfl, .inr ⟨g, 0, rfl, hlt, hlt, fun j u hu => ?_⟩, (fun a h => by cases h; exact hbase), hb⟩
    have := World.ownsRow.cells hrow (g := g) rfl j u hu
    rw [addr0] at this
    simpa using this
end Go.Proofs.Ytaflikgdlkaefaa
/- Vectors: a vector that grows, each row's ranges in a block of their own. -/
namespace Go.Proofs.Ytaflikgdlkaefaa
open Go.RowKit Go.Proofs.Ytaflikgdlkaefaa.Sp Go.Proofs.Ytaflikgdlkaefaa.Ve
set_option maxRecDepth 20000

theorem grownS (w : World) (g o : Nat) (v : Value) : w.grownBy (w.setCell ⟨g, o, none⟩ v) (some g) :=
  ⟨rfl, rfl, rfl, by simp, fun i _ hne => Below.heap_setCell _ _ _ _ (fun e => hne (by rw [e]))⟩
/-- a vector of the call's own -/
structure VOwn (w : World) (base : Nat) (v : Value) (R : List RA) : Prop where
  own : EV.Own w base v R
  rs : ∀ q ∈ R, RSt w q
  ap : ∀ q ∈ R, q.l ≠ [] → ∀ b o s, q.A = some ⟨b, o, s⟩ → base ≤ b ∧ v.ownBlock ≠ some b
section
variable {w w' : World} {base : Nat} {v v' : Value} {R : List RA}
theorem VOwn.nil (w : World) (base : Nat) : VOwn w base (.slice none 0 0) [] := ⟨ET.Own.nil w base, by simp, by simp⟩
/-- ranges stand while another block turns -/
theorem RSt.grown {q : RA} (h : RSt w q) {row : Option Nat} (hg : w.grownBy w' row) (hn : q.l ≠ [] → ∀ b o s, q.A = some ⟨b, o, s⟩ → row ≠ some b) : RSt w' q := by
  refine ⟨?_, h.2⟩
  by_cases hl : q.l = []
  · exact .inl (by rw [hl]; rfl)
  · rcases h.1 with h1 | ⟨b, o, e, h1, h2, h3⟩
    · exact .inl h1
    · have hne := hn hl b o none e
      exact .inr ⟨b, o, e, Nat.lt_of_lt_of_le h1 hg.size, Nat.lt_of_lt_of_le h2 hg.size, fun j u hu => (World.cell?_of_block (w := w) (hg.block b h2 (fun e' => hne e'.symm))).trans (h3 j u hu)⟩
theorem RSt.lt {q : RA} (h : RSt w q) (hl : q.l ≠ []) {b o : Nat} {s : Option Nat} (e : q.A = some ⟨b, o, s⟩) : b < w.heap.size := by
  rcases h.1 with h1 | ⟨b', o', e', _, h2, _⟩
  · exact absurd h1 (by
      obtain ⟨x, t, hx⟩ := List.exists_cons_of_ne_nil hl
      rw [hx]
      intro hh
      have := congrArg List.length hh
      rw [rv_len] at this
      simp at this)
  · rw [e] at e'
    injection e' with e'
    injection e' with e1
    rw [e1]; exact h2
theorem VOwn.app (h : VOwn w base v R) {q : RA} (hq : RSt w q) (ha : q.l ≠ [] → ∀ b o s, q.A = some ⟨b, o, s⟩ → base ≤ b ∧ v.ownBlock ≠ some b) (hown : EV.Own w' base v' (R ++ [q])) (hg : w.grownBy w' v.ownBlock) (hat : v'.ownBlock = v.ownBlock ∨ v'.ownBlock = some w.heap.size) : VOwn w' base v' (R ++ [q]) := by
  have hall : ∀ p ∈ R ++ [q], RSt w p ∧ (p.l ≠ [] → ∀ b o s, p.A = some ⟨b, o, s⟩ → base ≤ b ∧ v.ownBlock ≠ some b) := fun p hp => by
    rcases List.mem_append.1 hp with hp | hp
    · exact ⟨h.rs p hp, h.ap p hp⟩
    · rw [List.mem_singleton.1 hp]; exact ⟨hq, ha⟩
  refine ⟨hown, fun p hp => (hall p hp).1.grown hg fun hl b o s e => ((hall p hp).2 hl b o s e).2, fun p hp hl b o s e => ?_⟩
  have h1 := (hall p hp).2 hl b o s e
  refine ⟨h1.1, ?_⟩
  rcases hat with hat | hat
  · rw [hat]; exact h1.2
  · rw [hat]
    have := (hall p hp).1.lt hl e
    intro e'
    have := Option.some.inj e'
    omega
theorem VOwn.below (h : VOwn w base v R) (hb : Below w.heap.size w w') : VOwn w' base v R := ⟨h.own.below hb, fun q hq => (h.rs q hq).below hb, h.ap⟩
theorem VOwn.drew (h : VOwn w base v R) : VOwn w.drew base v R := ⟨h.own, h.rs, h.ap⟩
/-- another block turns, below the base -/
theorem VOwn.kept (h : VOwn w base v R) {g : Nat} (hg : w.grownBy w' (some g)) (hlt : g < base) : VOwn w' base v R := by
  refine ⟨h.own.keep hg ?_, fun q hq => (h.rs q hq).grown hg fun hl b o s e => ?_, h.ap⟩
  · by_cases hv : v.ownBlock = none
    · exact .inl hv
    · refine .inr fun e => ?_
      have := (h.own.lt' g e).1
      omega
  · have := (h.ap q hq hl b o s e).1
    intro e'
    have := Option.some.inj e'
    omega
theorem VOwn.vs (h : VOwn w base v R) : ∃ A c, v = .slice A R.length c ∧ VS w A R.length c R (R.map RA.p) := by
  obtain ⟨A, c, e, h1, h2, h3, _⟩ := h.own.form
  exact ⟨A, c, e, rfl, h1, h2, h3, h.rs, rfl⟩
theorem VOwn.lower {b : Nat} (h : VOwn w base v R) (hb : b ≤ base) : VOwn w b v R := ⟨ET.Own.lower h.own hb, h.rs, fun q hq hl b' o s e => ⟨Nat.le_trans hb (h.ap q hq hl b' o s e).1, (h.ap q hq hl b' o s e).2⟩⟩
end
/-- a vector of the call's own is answered -/
def PAns (w : World) (V : VL) (e : Ending) (w' : World) : Prop := ∃ A c R, e = .returned (.agg #[.slice A R.length c]) ∧ VOwn w' w.heap.size (.slice A R.length c) R ∧ R.map RA.p = V ∧ Below w.heap.size w w'
theorem PAns.ans {w w' : World} {V : VL} {e : Ending} (h : PAns w V e w') : VAns w V e w' := by
  obtain ⟨A, c, R, rfl, h1, h2, h3⟩ := h
  obtain ⟨A6, c6, e6, hvs⟩ := h1.vs
  injection e6 with e6 _ e7
  subst e6; subst e7
  rw [h2] at hvs
  exact ⟨A, R.length, c, R, rfl, hvs, h3⟩
end Go.Proofs.Ytaflikgdlkaefaa
/- Arrays in memory; an operation's value. -/
namespace Go.Proofs.Ytaflikgdlkaefaa
open Go.RowKit

theorem addN (g j : Nat) : (⟨g, 0, none⟩ : Addr).add j = ⟨g, j, none⟩ := addr0 g j
theorem run_loadArr (w : World) (t : TypeId) {n g : Nat} {us : List Value} (hagg : ∀ w, (isAgg t).run Try.prog w = .ok true w) (hsz : ∀ w, (sizeOf t).run Try.prog w = .ok n w) (hA : At w g us) (hn : us.length = n) :
    (Instr.loadAt t (.pointer (some ⟨g, 0, none⟩))).run Try.prog w = .ok (.agg us.toArray) w := by
  have hl := run_loadCells_list (P := Try.prog) w ⟨g, 0, none⟩ us (fun j u hu => by rw [addN]; exact hA.c j hu)
  subst hn
  simp [Instr.loadAt, Instr.sureAddr, loadVar, hagg, hsz, hl]
theorem putL_setCells : ∀ (us : List Value) (w : World) (g o : Nat), putL w g o us = w.setCells g o us
  | [], _, _, _ => rfl
  | _u :: us, _w, g, o => putL_setCells us _ g (o + 1)
theorem run_storeArr (w : World) (t : TypeId) {n g : Nat} {us old : List Value} (hsz : ∀ w, (sizeOf t).run Try.prog w = .ok n w) (hA : At w g old) (ho : old.length = n) (hn : us.length = n) (h1 : ∀ u ∈ us, u.oneCell' = true) :
    (Instr.storeAt t (.pointer (some ⟨g, 0, none⟩)) (.agg us.toArray)).run Try.prog w = .ok () (putL w g 0 us) := by
  have hst := run_storeCells_cells (P := Try.prog) g 0 us 0 w (fun j hj => by rw [Nat.zero_add, hA.c j (List.getElem?_eq_getElem (by omega))]; rfl) (fun j hj => by rw [Nat.zero_add]; exact hA.f j (List.getElem?_eq_getElem (by omega))) h1
  simp only [Nat.add_zero] at hst
  rw [putL_setCells]
  subst hn
  simp [Instr.storeAt, Instr.sureAddr, storeVar, hsz, Value.cells, hst]
section
variable {ops : Array Oper} {rest : List Oper} {o : Oper} {a : Act} {Q : Exit → Act → World → Prop} {w : World} {x y : Operand}
theorem wpVal {K : Act → World → Prop} {v : Value} {w' : World} (hv : (execOp a.eval o).run Try.prog w = .ok (.value v) w') (h : K (a.put o.dst v) w') : o.wp Try.prog a w K Q := by
  unfold Oper.wp
  rw [hv]
  exact h
theorem wpSkip {K : Act → World → Prop} {w' : World} (hv : (execOp a.eval o).run Try.prog w = .ok .skip w') (h : K (a.put o.dst undef) w') : o.wp Try.prog a w K Q := by
  unfold Oper.wp
  rw [hv]
  exact h
theorem opVal (hgd : o.guard = none) {v : Value} {w' : World} (hv : (execOp a.eval o).run Try.prog w = .ok (.value v) w') (h : wpList Try.prog ops Q rest (a.put o.dst v) w') : wpList Try.prog ops Q (o :: rest) a w :=
  wpList_plain hgd fun _ hK => wpVal hv (hK _ _ h)
theorem opSkip (hgd : o.guard = none) {w' : World} (hv : (execOp a.eval o).run Try.prog w = .ok .skip w') (h : wpList Try.prog ops Q rest (a.put o.dst undef) w') : wpList Try.prog ops Q (o :: rest) a w :=
  wpList_plain hgd fun _ hK => wpSkip hv (hK _ _ h)
end
theorem opValG {ops : Array Oper} {rest : List Oper} {o : Oper} {a : Act} {Q : Exit → Act → World → Prop} {w : World} (hgd : Region.wanted o (yielded ops a.tmps) = true) {v : Value} {w' : World} (hv : (execOp a.eval o).run Try.prog w = .ok (.value v) w') (h : wpList Try.prog ops Q rest (a.put o.dst v) w') : wpList Try.prog ops Q (o :: rest) a w :=
  wpList_step fun K hK => by simp only [hgd, if_true]; exact wpVal hv (hK _ _ h)
theorem addO (g o j : Nat) : (⟨g, o, none⟩ : Addr).add j = ⟨g, o + j, none⟩ := by
  unfold Addr.add
  split
  · rename_i h; subst h; rfl
  · rfl
theorem run_loadArrO (w : World) (t : TypeId) {n g o : Nat} {us : List Value} (hagg : ∀ w, (isAgg t).run Try.prog w = .ok true w) (hsz : ∀ w, (sizeOf t).run Try.prog w = .ok n w) (hA : ∀ (j : Nat) (u : Value), us[j]? = some u → w.cell? ⟨g, o + j, none⟩ = some u) (hn : us.length = n) :
    (Instr.loadAt t (.pointer (some ⟨g, o, none⟩))).run Try.prog w = .ok (.agg us.toArray) w := by
  have hl := run_loadCells_list (P := Try.prog) w ⟨g, o, none⟩ us (fun j u hu => by rw [addO]; exact hA j u hu)
  subst hn
  simp [Instr.loadAt, Instr.sureAddr, loadVar, hagg, hsz, hl]
section
variable {ops : Array Oper} {rest : List Oper} {o : Oper} {a : Act} {Q : Exit → Act → World → Prop} {w : World} {x y : Operand} {t : TypeId}
theorem ex_alT {zs : Array Value} (hz : ∀ w, (zeroValue t).run Try.prog w = .ok (.agg zs) w) (ho : o.op = .alloc t) : (execOp a.eval o).run Try.prog w = .ok (.value (.pointer (some ⟨w.heap.size, 0, none⟩))) (w.alloc (.cells zs t)) := by
  simp [execOp, ho, Instr.alloc, hz, newVar, newRow, Value.cells]
theorem ex_ldT {n : Nat} (hagg : ∀ w, (isAgg t).run Try.prog w = .ok true w) (hsz : ∀ w, (sizeOf t).run Try.prog w = .ok n w) (ho : o.op = .load t x) {g : Nat} {us : List Value} (hx : a.eval x = .pointer (some ⟨g, 0, none⟩)) (hA : At w g us) (hn : us.length = n) : (execOp a.eval o).run Try.prog w = .ok (.value (.agg us.toArray)) w := by
  have h := run_loadArr w t hagg hsz hA hn
  simp [execOp, ho, hx, h]
theorem ex_ldTo {n : Nat} (hagg : ∀ w, (isAgg t).run Try.prog w = .ok true w) (hsz : ∀ w, (sizeOf t).run Try.prog w = .ok n w) (ho : o.op = .load t x) {g off : Nat} {us : List Value} (hx : a.eval x = .pointer (some ⟨g, off, none⟩)) (hA : ∀ (j : Nat) (u : Value), us[j]? = some u → w.cell? ⟨g, off + j, none⟩ = some u) (hn : us.length = n) : (execOp a.eval o).run Try.prog w = .ok (.value (.agg us.toArray)) w := by
  have h := run_loadArrO w t hagg hsz hA hn
  simp [execOp, ho, hx, h]
theorem ex_stT {n : Nat} (hsz : ∀ w, (sizeOf t).run Try.prog w = .ok n w) (ho : o.op = .store t x y) {g : Nat} {us old : List Value} (hx : a.eval x = .pointer (some ⟨g, 0, none⟩)) (hy : a.eval y = .agg us.toArray) (hA : At w g old) (hl : old.length = n) (hn : us.length = n) (h1 : ∀ u ∈ us, u.oneCell' = true) :
    (execOp a.eval o).run Try.prog w = .ok .skip (putL w g 0 us) := by
  have h := run_storeArr w t hsz hA hl hn h1
  simp [execOp, ho, hx, hy, h]
theorem ex_boxT (ho : o.op = .box t x) {us : List Value} (hx : a.eval x = .agg us.toArray) : (execOp a.eval o).run Try.prog w = .ok (.value (.pointer (some ⟨w.heap.size, 0, none⟩))) (w.alloc (.cells us.toArray t)) := by
  simp [execOp, ho, hx, Instr.box, newVar, newRow, Value.cells]
end
section
variable {ops : Array Oper} {rest : List Oper} {o : Oper} {a : Act} {Q : Exit → Act → World → Prop} {w : World}
/- the same, with the world behind it by name -/
theorem opValV (hgd : o.guard = none) {v : Value} {w' : World} (hv : (execOp a.eval o).run Try.prog w = .ok (.value v) w') (h : ∀ W, W = w' → wpList Try.prog ops Q rest (a.put o.dst v) W) : wpList Try.prog ops Q (o :: rest) a w :=
  opVal hgd hv (h w' rfl)
theorem opSkipV (hgd : o.guard = none) {w' : World} (hv : (execOp a.eval o).run Try.prog w = .ok .skip w') (h : ∀ W, W = w' → wpList Try.prog ops Q rest (a.put o.dst undef) W) : wpList Try.prog ops Q (o :: rest) a w :=
  opSkip hgd hv (h w' rfl)
end
end Go.Proofs.Ytaflikgdlkaefaa
/- A region that draws its order, held by whatever is said of memory till its last operation, which waits for all others and need not leave it so. -/
namespace Go.Proofs.Ytaflikgdlkaefaa
open Go.RowKit

def wpE (P : Program) (ops : Array Oper) (Q : Exit → Act → World → Prop) (S : World → Prop) (z : Nat) : Nat → Array Bool → Act → World → Prop
  | 0, listed, a, w => Region.ready .any ops listed = [] ∧ Q .normal a w
  | fuel + 1, listed, a, w =>
    (Region.ready .any ops listed = [] → Q .normal a w) ∧
    ∀ i ∈ Region.ready .any ops listed, wpOp P ops Q i (fun a' w' => (i = z ∨ S w') ∧ wpE P ops Q S z fuel (listed.setIfInBounds i true) a' w') a w
section
variable {P : Program} {ops : Array Oper} {Q : Exit → Act → World → Prop} {S : World → Prop} {z : Nat}
theorem wpAny_of_E : ∀ (fuel : Nat) (listed : Array Bool) (a : Act) (w : World), wpE P ops Q S z fuel listed a w → wpAny P .any ops Q fuel listed a w
  | 0, _, _, _, h => h
  | fuel + 1, _, _, _, h => ⟨h.1, fun i hi => wpOp_mono (fun a' w' h' => wpAny_of_E fuel _ a' w' h'.2) (h.2 i hi)⟩
/-- z waits for i: by itself, or by another one that does -/
def direct (ops : Array Oper) (z i : Nat) : Bool := match ops[z]? with | none => false | some o => o.after.any fun e => Region.binds .any e && e.on == i
/-- z waits for the first of ps, that one for the next, .., the last for i -/
def chainE (ops : Array Oper) : Nat → List Nat → Nat → Bool
  | z, [], i => direct ops z i
  | z, p :: ps, i => direct ops z p && chainE ops p ps i
def Closed (ops : Array Oper) (listed : Array Bool) : Prop := ∀ j o, ops[j]? = some o → listed.getD j false = true → ∀ e ∈ o.after, Region.binds .any e = true → listed.getD e.on false = true
def closedB (ops : Array Oper) (listed : Array Bool) : Bool := (List.range ops.size).all fun j => !listed.getD j false || match ops[j]? with | none => true | some o => o.after.all fun e => !Region.binds .any e || listed.getD e.on false
theorem closed_of {listed : Array Bool} (h : closedB ops listed = true) : Closed ops listed := by
  intro j o ho hj e he hb
  unfold closedB at h
  rw [List.all_eq_true] at h
  have h1 := h j (List.mem_range.2 (Array.getElem?_eq_some_iff.1 ho).1)
  rw [hj, ho] at h1
  simp only [Bool.not_true, Bool.false_or, Array.all_eq_true] at h1
  obtain ⟨k, hk, rfl⟩ := Array.mem_iff_getElem.1 he
  have h2 := h1 k hk
  rw [hb] at h2
  simpa using h2
theorem direct_spec {z i : Nat} (h : direct ops z i = true) : ∃ o, ops[z]? = some o ∧ ∃ e ∈ o.after, Region.binds .any e = true ∧ e.on = i := by
  unfold direct at h
  cases ho : ops[z]? with
  | none => rw [ho] at h; cases h
  | some o =>
    rw [ho] at h
    simp only [Array.any_eq_true, Bool.and_eq_true, beq_iff_eq] at h
    obtain ⟨k, hk, hb, he⟩ := h
    exact ⟨o, rfl, _, Array.getElem_mem hk, hb, he⟩
theorem chain_listed {listed : Array Bool} (hcl : Closed ops listed) : ∀ (ps : List Nat) (z i : Nat), (∀ o, ops[z]? = some o → ∀ e ∈ o.after, Region.binds .any e = true → listed.getD e.on false = true) → chainE ops z ps i = true → listed.getD i false = true
  | [], z, i, hall, hz => by
    obtain ⟨o, ho, e, he, hb, rfl⟩ := direct_spec hz
    exact hall o ho e he hb
  | p :: ps, z, i, hall, hz => by
    rw [chainE, Bool.and_eq_true] at hz
    obtain ⟨o, ho, e, he, hb, rfl⟩ := direct_spec hz.1
    exact chain_listed hcl ps e.on i (fun o' ho' => hcl _ o' ho' (hall o ho e he hb)) hz.2
theorem waits_not {listed : Array Bool} {z i : Nat} {ps : List Nat} (hcl : Closed ops listed) (hz : chainE ops z ps i = true) (hr : z ∈ Region.ready .any ops listed) (hi : listed.getD i true = false) : False := by
  obtain ⟨_, o, ho, hall⟩ := mem_ready.1 hr
  have h := chain_listed hcl ps z i (fun o' ho' => by rw [ho] at ho'; cases ho'; exact hall) hz
  rcases Nat.lt_or_ge i listed.size with h' | h'
  · simp [h'] at h hi; rw [hi] at h; cases h
  · simp [Array.getElem?_eq_none h'] at h
theorem wpE_first {i : Nat} {oi : Oper} {v : Value} (hi : ops[i]? = some oi) {ps : List Nat} (hz : chainE ops z ps i = true) (hsel : ∀ (j : Nat) (o : Oper) cs b, ops[j]? = some o → o.op ≠ .select cs b)
    (hQ : ∀ c a w, Q (.panic c) (a.put oi.dst v) w → Q (.panic c) a w) :
    ∀ (fuel : Nat) (listed : Array Bool) (a : Act) (w : World),
      (∀ j oj, ops[j]? = some oj → j ≠ i → listed.getD j true = false → (∀ e ∈ oj.after, Region.binds .any e = true → e.on ≠ i) → oi.apart ops oj = true) →
      Closed ops listed → i ∈ Region.ready .any ops listed → YieldsIf P ops S oi v a → S w →
      wpE P ops Q S z fuel (listed.setIfInBounds i true) (a.put oi.dst v) w → wpE P ops Q S z (fuel + 1) listed a w := by
  intro fuel
  induction fuel with
  | zero =>
    intro listed a w _ _ hr hy hS H
    refine ⟨fun h => (by rw [h] at hr; cases hr), fun j hj => ?_⟩
    by_cases hji : j = i
    · subst hji; exact hy.wpOp hi hS ⟨.inr hS, H⟩
    · have := ready_mono hj hji
      rw [H.1] at this
      cases this
  | succ fuel ih =>
    intro listed a w hfree hcl hr hy hS H
    refine ⟨fun h => (by rw [h] at hr; cases hr), fun j hj => ?_⟩
    by_cases hji : j = i
    · subst hji; exact hy.wpOp hi hS ⟨.inr hS, H⟩
    · have h1 := H.2 j (ready_mono hj hji)
      obtain ⟨hjun, oj, hoj, hall⟩ := mem_ready.1 hj
      have hnot : ∀ e ∈ oj.after, Region.binds .any e = true → e.on ≠ i := fun e he hb heq => by
        have h1 := hall e he hb
        have h0 := (mem_ready.1 hr).1
        rw [heq] at h1
        rcases Nat.lt_or_ge i listed.size with h' | h'
        · simp [h'] at h0 h1; rw [h0] at h1; cases h1
        · simp [Array.getElem?_eq_none h'] at h1
      have hjz : j ≠ z := by
        rintro rfl
        exact waits_not hcl hz hj (mem_ready.1 hr).1
      have hcl' : Closed ops (listed.setIfInBounds j true) := fun k ok hk hkl e he hb => by
        by_cases hjk : j = k
        · subst hjk
          rw [hoj] at hk
          cases hk
          exact getD_set_true (hall e he hb)
        · rw [getD_set_ne false hjk] at hkl
          exact getD_set_true (hcl k ok hk hkl e he hb)
      have h2 := wpOp_putIf hoj (hfree j oj hoj hji hjun hnot) (fun cs b => hsel i oi cs b hi) (fun cs b => hsel j oj cs b hoj) hQ hy h1
      have hfree' : ∀ k ok, ops[k]? = some ok → k ≠ i → (listed.setIfInBounds j true).getD k true = false →
          (∀ e ∈ ok.after, Region.binds .any e = true → e.on ≠ i) → oi.apart ops ok = true := fun k ok hk hki hun hno => by
        refine hfree k ok hk hki ?_ hno
        by_cases hjk : j = k
        · subst hjk; exact hjun
        · rw [getD_set_ne true hjk] at hun; exact hun
      refine wpOp_mono (fun a' w' h3 => ?_) h2
      have hSw : S w' := h3.2.1.resolve_left hjz
      refine ⟨.inr hSw, ih (listed.setIfInBounds j true) a' w' hfree' hcl' (ready_mono hr (Ne.symm hji)) h3.1 hSw ?_⟩
      rw [Array.setIfInBounds_comm _ _ hji]
      exact h3.2.2
theorem bstartE (S : World → Prop) (z : Nat) {id : Nat} {a : Act} {w : World} (hm : P.follows .mixedOrders = true) (hh : wpE P ops Q S z ops.size (Array.replicate ops.size false) a w.drew) : (Code.region id ops true).wp P Q a w :=
  wp_region_any hm (wpAny_of_E _ _ _ _ hh)
def okTakeE (ops : Array Oper) (listed : Array Bool) (z i : Nat) (ps : List Nat) : Bool := okTake ops listed i && chainE ops z ps i && closedB ops listed
theorem btakeE (i : Nat) (ps : List Nat) {oi : Oper} {v : Value} {fuel : Nat} {listed : Array Bool} {a : Act} {w : World} (hi : ops[i]? = some oi) (hok : okTakeE ops listed z i ps = true)
    (hQ : ∀ c a w, Q (.panic c) (a.put oi.dst v) w → Q (.panic c) a w) (hS : S w)
    (hy : (Region.wanted oi (yielded ops a.tmps) = true ∧ ∀ W, S W → (execOp a.eval oi).run P W = .ok (.value v) W) ∨ (Region.wanted oi (yielded ops a.tmps) = false ∧ v = undef))
    (hr : wpE P ops Q S z fuel (listed.setIfInBounds i true) (a.put oi.dst v) w) : wpE P ops Q S z (fuel + 1) listed a w := by
  simp only [okTakeE, okTake, Bool.and_eq_true] at hok
  exact wpE_first hi hok.1.2 (Region.noSelect_spec hok.1.1.1.1) hQ fuel listed a w (Region.free_spec hi hok.1.1.1.2) (closed_of hok.2) (by simpa using hok.1.1.2) hy hS hr
theorem bopE (i : Nat) {o : Oper} {fuel : Nat} {listed : Array Bool} {a : Act} {w : World} (hi : ops[i]? = some o) (hok : okOp ops listed i = true)
    (hw : Region.wanted o (yielded ops a.tmps) = true)
    (hr : ∀ K : Act → World → Prop, Shut (∀ a' w', S w' → wpE P ops Q S z fuel (listed.setIfInBounds i true) a' w' → K a' w') → o.wp P a w K Q) : wpE P ops Q S z (fuel + 1) listed a w := by
  have hok' : Region.ready .any ops listed = [i] := by simpa [okOp] using hok
  refine ⟨fun h0 => (by rw [hok'] at h0; cases h0), fun j hj => ?_⟩
  obtain rfl : j = i := by rw [hok'] at hj; simpa using hj
  unfold wpOp
  simp only [hi, hw, if_true]
  exact .inl (hr _ (fun a' w' hk hb => ⟨.inr hk, hb⟩))
theorem blastE (i : Nat) {o : Oper} {fuel : Nat} {listed : Array Bool} {a : Act} {w : World} (hi : ops[i]? = some o) (hok : okOp ops listed i = true) (hz : i = z)
    (hw : Region.wanted o (yielded ops a.tmps) = true)
    (hr : ∀ K : Act → World → Prop, Shut (∀ a' w', wpE P ops Q S z fuel (listed.setIfInBounds i true) a' w' → K a' w') → o.wp P a w K Q) : wpE P ops Q S z (fuel + 1) listed a w := by
  have hok' : Region.ready .any ops listed = [i] := by simpa [okOp] using hok
  refine ⟨fun h0 => (by rw [hok'] at h0; cases h0), fun j hj => ?_⟩
  obtain rfl : j = i := by rw [hok'] at hj; simpa using hj
  unfold wpOp
  simp only [hi, hw, if_true]
  exact .inl (hr _ (fun a' w' hb => ⟨.inl hz, hb⟩))
theorem bdoneE {fuel : Nat} {listed : Array Bool} {a : Act} {w : World} (hr : Region.ready .any ops listed = []) (hq : Q .normal a w) : wpE P ops Q S z fuel listed a w :=
  match fuel with
  | 0 => ⟨hr, hq⟩
  | _ + 1 => ⟨fun _ => hq, by rw [hr]; simp⟩
end
end Go.Proofs.Ytaflikgdlkaefaa
/- Vectors: the document's parts. -/
namespace Go.Proofs.Ytaflikgdlkaefaa
open Go.RowKit Go.Maps Go.Proofs.Ytaflikgdlkaefaa.Pl Go.Proofs.Ytaflikgdlkaefaa.Sp Go.Proofs.Ytaflikgdlkaefaa.Ve
set_option maxRecDepth 20000

/-- 64 slices: each replica's ranges -/
def XA (w : World) (X : List RSl) (f : Int → List Rg) : Prop := X.length = 64 ∧ ∀ (i : Nat), i < 64 → ∃ s, X[i]? = some s ∧ s.n = (f i).length ∧ RSt w ⟨i, s.A, s.c, f i⟩
def XA.us (X : List RSl) : List Value := X.map RSl.v
theorem XA.below {w w' : World} {X : List RSl} {f : Int → List Rg} (h : XA w X f) (hb : Below w.heap.size w w') : XA w' X f := ⟨h.1, fun i hi => by
  obtain ⟨s, h1, h2, h3⟩ := h.2 i hi
  exact ⟨s, h1, h2, h3.below hb⟩⟩
theorem rowsF_snoc (f : Int → List Rg) : ∀ (n : Nat) (lo : Int), rowsF f lo (n + 1) = rowsF f lo n ++ (if f (lo + n) = [] then [] else [(lo + n, f (lo + n))])
  | 0, lo => by simp [rowsF]
  | n + 1, lo => by
    have ih := rowsF_snoc f n (lo + 1)
    rw [show lo + 1 + (n : Int) = lo + ((n + 1 : Nat) : Int) by omega] at ih
    conv => lhs; unfold rowsF
    conv => rhs; unfold rowsF
    rw [ih]
    by_cases h : f lo = []
    · rw [if_pos h, if_pos h]
    · rw [if_neg h, if_neg h]; rfl
theorem vecAgg (w : World) : (isAgg 27).run Try.prog w = .ok true w := by first | exact Try.isAgg27 w | go_simp
theorem vecSize (w : World) : (Go.sizeOf 27).run Try.prog w = .ok 1 w := by first | exact Try.sizeOf27 w | go_simp
theorem results_vec {w : World} {fn : Func} {t : Tmp} (h : fn.results = #[.cell t 27]) (tmps : Array Value) {g : Nat} {v : Value} (hx : tmps.getD t undef = .pointer (some ⟨g, 0, none⟩)) (hA : At w g [v]) :
    (results fn tmps).run Try.prog w = .ok (.agg #[v]) w := by
  have hl := run_loadCells_list (P := Try.prog) w ⟨g, 0, none⟩ [v] (fun j u hu => by rw [addN]; exact hA.c j hu)
  have hx' : tmps[t]?.getD undef = .pointer (some ⟨g, 0, none⟩) := by simpa using hx
  have hl' : (loadCells ⟨g, 0, none⟩ 1 : Sem (Array Value)).run Try.prog w = .ok #[v] w := hl
  simp [results, h, hx', asAddr, loadVar, hl']
/-- what the walk of parts holds: the box, the vector -/
def QP (w0 : World) (n g : Nat) (u : List Value) (v : Value) (W : World) : Prop := At W n u ∧ At W g [v] ∧ w0.heap.size ≤ W.heap.size
theorem QP.grow {w0 W W' : World} {n g : Nat} {u : List Value} {v : Value} (h : QP w0 n g u v W) (hb : Below w0.heap.size W W') (hn : n < w0.heap.size) (hg : g < w0.heap.size) : QP w0 n g u v W' :=
  ⟨h.1.belowB hn hb hb.size, h.2.1.belowB hg hb hb.size, Nat.le_trans h.2.2 hb.size⟩
set_option maxRecDepth 100000 in
set_option maxHeartbeats 6400000 in
theorem parts_own (w : World) (X : List RSl) (f : Int → List Rg) (hX : XA w X f) (hm : ∀ i, (f i).length ≤ 1000000) :
    Calls Try.prog 55 #[.agg (XA.us X).toArray] w (PAns w (vecOf f)) := by
  obtain ⟨us, hus⟩ : ∃ us, XA.us X = us := ⟨_, rfl⟩
  rw [hus]
  have HU := Lib.hid hus
  clear hus
  go_enter Try.func55, Try.ntmps55
  have hb0 : Below w.heap.size w (((w.alloc (.cells us.toArray 83)).alloc (.cells #[.slice none 0 0] 27)).alloc (.cells #[.slice none 0 0] 27)) := balloc (balloc (balloc (Below.refl _ _) _) _) _
  have a0 : At (((w.alloc (.cells us.toArray 83)).alloc (.cells #[.slice none 0 0] 27)).alloc (.cells #[.slice none 0 0] 27)) w.heap.size us := ((At.new w 83 us.toArray).alloc _).alloc _
  have a1 : At (((w.alloc (.cells us.toArray 83)).alloc (.cells #[.slice none 0 0] 27)).alloc (.cells #[.slice none 0 0] 27)) (w.heap.size + 1) [.slice none 0 0] := by
    have := (At.new (w.alloc (.cells us.toArray 83)) 27 #[.slice none 0 0]).alloc (.cells #[.slice none 0 0] 27)
    rw [World.size_alloc] at this
    exact this
  have a2 : At (((w.alloc (.cells us.toArray 83)).alloc (.cells #[.slice none 0 0] 27)).alloc (.cells #[.slice none 0 0] 27)) (w.heap.size + 2) [.slice none 0 0] := by
    have := At.new ((w.alloc (.cells us.toArray 83)).alloc (.cells #[.slice none 0 0] 27)) 27 #[.slice none 0 0]
    rw [World.size_alloc, World.size_alloc] at this
    exact this
  have hsz : (((w.alloc (.cells us.toArray 83)).alloc (.cells #[.slice none 0 0] 27)).alloc (.cells #[.slice none 0 0] 27)).heap.size = w.heap.size + 3 := by simp
  have HXL := Lib.hid hX.1
  go_wp2_with (refine opVal rfl (ex_boxT rfl (us := us) rfl) ?_)
  generalize ((w.alloc (.cells us.toArray 83)).alloc (.cells #[.slice none 0 0] 27)).alloc (.cells #[.slice none 0 0] 27) = W at *
  go_loopw [4] (fun x4 wr => ∃ (k : Nat) (v : Value) (R : List RA), k ≤ 64 ∧ x4 = .int .i64 (k : Int) ∧ VOwn wr (w.heap.size + 3) v R ∧ R.map RA.p = rowsF f 0 k ∧ At wr w.heap.size us ∧ At wr (w.heap.size + 1) [.slice none 0 0] ∧ At wr (w.heap.size + 2) [v] ∧ w.heap.size + 3 ≤ wr.heap.size ∧ Below w.heap.size w wr) (fun x4 _ => 64 - (intOf x4).toNat)
  case atStart => exact ⟨0, _, [], by omega, rfl, VOwn.nil _ _, rfl, a0, a1, a2, by omega, hb0⟩
  case round =>
    clear a0 a1 a2 hb0
    obtain ⟨k, v, R, hk, rfl, hvo, hR, h0, h1, h2, hs3, hbel⟩ := hrel
    by_cases hlt : k < 64
    · obtain ⟨s, hs, hsn, hst⟩ := hX.2 k hlt
      have hd1 : decide ((k : Int) < 64) = true := by rw [decide_eq_true_eq]; omega
      have hn0 : (0 : Int) ≤ (k : Int) := by omega
      have hn1 : (k : Int) < 64 := by omega
      have c0 : wr.cell? ⟨w.heap.size, k, none⟩ = some (.slice s.A s.n s.c) := h0.c k (by rw [← HU.out, XA.us, List.getElem?_map, hs]; rfl)
      have hrs := rowsF_snoc f k 0
      rw [Int.zero_add] at hrs
      obtain ⟨A, n, c⟩ := s
      dsimp only at *
      by_cases hl : f k = []
      · have hn : n = 0 := by rw [hsn, hl]; rfl
        subst hn
        rw [if_pos hl, List.append_nil] at hrs
        have HZ := Lib.hid (And.intro hvo (And.intro (hR.trans hrs.symm) (And.intro h0 (And.intro h1 h2))))
        clear hl hrs hR hvo h0 h1 h2 hst hs hsn
        go_wp2_with fail
        go_roundw
        case rel => exact ⟨k + 1, v, R, by omega, by go_num, HZ.out.1, HZ.out.2.1, HZ.out.2.2.1, HZ.out.2.2.2.1, HZ.out.2.2.2.2, hs3, hbel⟩
        case measure => simp [intOf]; omega
      · have hnp : 0 < n := by
          have : (f k).length ≠ 0 := fun e => hl (List.length_eq_zero_iff.1 e)
          omega
        rw [if_neg hl] at hrs
        have HR0 := Lib.hid (And.intro hvo (And.intro hR (And.intro h0 (And.intro h1 (And.intro h2 (And.intro (hst.below hbel) (And.intro hsn (And.intro hrs (And.intro hl (hm k))))))))))
        have HBW := Lib.hid (And.intro hs3 hbel)
        have g0 := h2.c 0 rfl
        clear hl hrs hR hvo h0 h1 h2 hst hs hsn hm hX
        go_wp2_with fail
        have hS0 : QP wr w.heap.size (w.heap.size + 2) us v wr.drew := ⟨HR0.out.2.2.1, HR0.out.2.2.2.2.1, Nat.le_refl _⟩
        have hn1l : w.heap.size < wr.heap.size := by have := HBW.out.1; omega
        have hn2l : w.heap.size + 2 < wr.heap.size := by have := HBW.out.1; omega
        have e0 : ∀ W, QP wr w.heap.size (w.heap.size + 2) us v W → W.cell? ⟨w.heap.size, k, none⟩ = some (.slice A n c) := fun W h => h.1.c k (by
          have hA := HR0.out.2.2.1
          obtain ⟨u, hu⟩ : ∃ u, us[k]? = some u := ⟨_, List.getElem?_eq_getElem (by rw [← HU.out, XA.us, List.length_map]; have := HXL.out; omega)⟩
          have := hA.c k hu
          rw [c0] at this
          rw [hu, ← this])
        have e1 : ∀ W, QP wr w.heap.size (w.heap.size + 2) us v W → W.cell? ⟨w.heap.size + 2, 0, none⟩ = some v := fun W h => h.2.1.c 0 rfl
        refine bstartE (QP wr w.heap.size (w.heap.size + 2) us v) 11 (by kernel_rfl) ?_
        refine btakeE 0 [] (oi := _) (v := ?_) (by simp only [List.getElem?_toArray, List.getElem?_cons_zero]; rfl) (by kernel_rfl) (by exact fun _ _ _ h => h) (by first | assumption | exact KB.refl _) (.inl ⟨by rfl, fun W hW => ?_⟩) ?_; rotate_left
        · (go_simp; first | done | with_reducible rfl)
        try simp only [Act.put, List.setIfInBounds_toArray, List.set_cons_zero, List.set_cons_succ]
        refine btakeE 1 [] (oi := _) (v := ?_) (by simp only [List.getElem?_toArray, List.getElem?_cons_succ, List.getElem?_cons_zero]; rfl) (by kernel_rfl) (by exact fun _ _ _ h => h) (by first | assumption | exact KB.refl _) (.inl ⟨by rfl, fun W hW => ?_⟩) ?_; rotate_left
        · (go_simp; first | done | with_reducible rfl)
        try simp only [Act.put, List.setIfInBounds_toArray, List.set_cons_zero, List.set_cons_succ]
        refine btakeE 2 [] (oi := _) (v := ?_) (by simp only [List.getElem?_toArray, List.getElem?_cons_succ, List.getElem?_cons_zero]; rfl) (by kernel_rfl) (by exact fun _ _ _ h => h) (by first | assumption | exact KB.refl _) (.inl ⟨by rfl, fun W hW => ?_⟩) ?_; rotate_left
        · (go_simp; first | done | with_reducible rfl)
        try simp only [Act.put, List.setIfInBounds_toArray, List.set_cons_zero, List.set_cons_succ]
        refine btakeE 3 [] (oi := _) (v := ?_) (by simp only [List.getElem?_toArray, List.getElem?_cons_succ, List.getElem?_cons_zero]; rfl) (by kernel_rfl) (by exact fun _ _ _ h => h) (by first | assumption | exact KB.refl _) (.inl ⟨by rfl, fun W hW => ?_⟩) ?_; rotate_left
        · (go_simp; first | done | with_reducible rfl)
        try simp only [Act.put, List.setIfInBounds_toArray, List.set_cons_zero, List.set_cons_succ]
        refine btakeE 4 [] (oi := _) (v := ?_) (by simp only [List.getElem?_toArray, List.getElem?_cons_succ, List.getElem?_cons_zero]; rfl) (by kernel_rfl) (by exact fun _ _ _ h => h) (by first | assumption | exact KB.refl _) (.inl ⟨by rfl, fun W hW => ?_⟩) ?_; rotate_left
        · (go_simp; first | done | with_reducible rfl)
        try simp only [Act.put, List.setIfInBounds_toArray, List.set_cons_zero, List.set_cons_succ]
        refine btakeE 5 [] (oi := _) (v := ?_) (by simp only [List.getElem?_toArray, List.getElem?_cons_succ, List.getElem?_cons_zero]; rfl) (by kernel_rfl) (by exact fun _ _ _ h => h) (by first | assumption | exact KB.refl _) (.inl ⟨by rfl, fun W hW => ?_⟩) ?_; rotate_left
        · (go_simp; first | done | with_reducible rfl)
        try simp only [Act.put, List.setIfInBounds_toArray, List.set_cons_zero, List.set_cons_succ]
        -- 6: Op.call { callee := Callee.builtin Builtin.append, args := #[Operand.const (Value.slice none 0 0), Operand.tmp 19], argTypes := #[40, 40] }
        refine bopE 6 (o := _) (by simp only [List.getElem?_toArray, List.getElem?_cons_succ, List.getElem?_cons_zero]; rfl) (by kernel_rfl) (by rfl) (fun K hK => ?_)
        refine wp_appR rfl (OwnR.nil wr.drew wr.heap.size) (B := wr.heap.size) (k := f k) (show Sl wr.drew wr.heap.size A (rv (f k)) from HR0.out.2.2.2.2.2.1.1) HR0.out.2.2.2.2.2.2.1 rfl rfl (by have := HR0.out.2.2.2.2.2.2.2.2.2; simp; omega) (Nat.le_refl _) ?_
        intro v2 w2 hown2 hg2 hat2
        rw [List.nil_append] at hown2
        have hb2 : Below wr.heap.size wr w2 := (Below.refl _ wr).drew.trans (below_of_grown hg2 (by simp [Value.ownBlock]) (Nat.le_refl _))
        obtain ⟨A2, c2, rfl, hf1, hf2, hf3, hf4⟩ := hown2.form
        have hkb := hS0.grow (show Below wr.heap.size wr.drew w2 from ⟨hb2.os, hb2.tape, hb2.output, hb2.size, hb2.block⟩) hn1l hn2l
        have HK2 := Lib.hid hkb
        have HQ := Lib.hid (And.intro hown2 (And.intro hb2 (And.intro hf1 (And.intro hf2 hf3))))
        have HQ4 := Lib.hid hf4.2
        clear hown2 hb2 hf1 hf2 hf3 hf4 hg2 hat2
        refine hK.out _ _ hkb ?_; clear hK K
        try simp only [Act.put, List.setIfInBounds_toArray, List.set_cons_zero, List.set_cons_succ]
        refine btakeE 7 [] (oi := _) (v := ?_) (by simp only [List.getElem?_toArray, List.getElem?_cons_succ, List.getElem?_cons_zero]; rfl) (by kernel_rfl) (by exact fun _ _ _ h => h) (by first | assumption | exact KB.refl _) (.inl ⟨by rfl, fun W hW => ?_⟩) ?_; rotate_left
        · (go_simp; first | done | with_reducible rfl)
        try simp only [Act.put, List.setIfInBounds_toArray, List.set_cons_zero, List.set_cons_succ]
        -- 8: Op.buildSlice 25 1 #[(0, Operand.tmp 21)]
        refine bopE 8 (o := _) (by simp only [List.getElem?_toArray, List.getElem?_cons_succ, List.getElem?_cons_zero]; rfl) (by kernel_rfl) (by rfl) (fun K hK => ?_)
        refine wpVal (EV.ex_bs1 (by rfl) ⟨(k : Int), A2, c2, f k⟩ (by rfl)) ?_
        have hb3 := balloc (Below.refl w2.heap.size w2) (.cells (EV.cells ⟨(k : Int), A2, c2, f k⟩).toArray 61)
        have hol := EV.own1 w2 ⟨(k : Int), A2, c2, f k⟩
        have hkb := HK2.out.grow (hb3.mono HQ.out.2.1.size) hn1l hn2l
        have HK3 := Lib.hid hkb
        have H3 := Lib.hid (And.intro hb3 hol)
        clear hb3 hol
        refine hK.out _ _ hkb ?_; clear hK K
        try simp only [Act.put, List.setIfInBounds_toArray, List.set_cons_zero, List.set_cons_succ]
        -- 9: Op.call { callee := Callee.builtin Builtin.append, args := #[Operand.tmp 15, Operand.tmp 22], argTypes := #[25, 25] }
        refine bopE 9 (o := _) (by simp only [List.getElem?_toArray, List.getElem?_cons_succ, List.getElem?_cons_zero]; rfl) (by kernel_rfl) (by rfl) (fun K hK => ?_)
        have hb23 : Below wr.heap.size wr (w2.alloc (.cells (EV.cells ⟨(k : Int), A2, c2, f k⟩).toArray 61)) := HQ.out.2.1.trans (H3.out.1.mono HQ.out.2.1.size)
        have hvo3 := HR0.out.1.below hb23
        have hlenR : R.length ≤ 64 := by
          have := congrArg List.length HR0.out.2.1
          rw [List.length_map] at this
          have h2 := rowsF_length f k 0
          omega
        refine wp_appE rfl hvo3.own (ET.Own.row (c := 1) H3.out.2).sl rfl rfl rfl (by simp; omega) (by have := hb23.size; have := HBW.out.1; omega) ?_
        intro v4 w4 hown4 hg4 hat4
        obtain ⟨A4, c4, rfl, _, _, _, _⟩ := hown4.form
        have hq2 : RSt w2 ⟨(k : Int), A2, c2, f k⟩ := ⟨HQ.out.2.2.2.2, HQ.out.2.2.1, HQ.out.2.2.2.1⟩
        have hvo4 := hvo3.app (q := ⟨(k : Int), A2, c2, f k⟩) (hq2.below H3.out.1) (fun _ b o s' e => by
          have h5 := (HQ4.out ⟨b, o, s'⟩ e).1
          dsimp only at h5
          refine ⟨by have := HBW.out.1; omega, fun e' => ?_⟩
          have h6 := HR0.out.1.own.lt' b e'
          omega) hown4 hg4 hat4
        have hkb : QP wr w.heap.size (w.heap.size + 2) us v w4 := ⟨HK3.out.1.grown hg4 (fun e => by have := (hvo3.own.lt' _ e).1; omega), HK3.out.2.1.grown hg4 (fun e => by have := (hvo3.own.lt' _ e).1; omega), Nat.le_trans HK3.out.2.2 hg4.size⟩
        have zc := hkb.2.1.c 0 rfl
        have zf := hkb.2.1.f 0 rfl
        have H4 := Lib.hid (And.intro hvo4 (And.intro hb23 (And.intro hg4 hkb)))
        clear hvo4 hvo3 hb23 hown4 hat4 hq2
        refine hK.out _ _ hkb ?_; clear hK K
        try simp only [Act.put, List.setIfInBounds_toArray, List.set_cons_zero, List.set_cons_succ]
        refine btakeE 10 [] (oi := _) (v := ?_) (by simp only [List.getElem?_toArray, List.getElem?_cons_succ, List.getElem?_cons_zero]; rfl) (by kernel_rfl) (by exact fun _ _ _ h => h) (by first | assumption | exact KB.refl _) (.inl ⟨by rfl, fun W hW => ?_⟩) ?_; rotate_left
        · (go_simp; first | done | with_reducible rfl)
        try simp only [Act.put, List.setIfInBounds_toArray, List.set_cons_zero, List.set_cons_succ]
        -- 11: Op.store 25 (Operand.tmp 24) (Operand.tmp 23)
        refine blastE 11 (o := _) (by simp only [List.getElem?_toArray, List.getElem?_cons_succ, List.getElem?_cons_zero]; rfl) (by kernel_rfl) (by rfl) (by rfl) (fun K hK => ?_)
        go_simp
        skip
        refine hK.out _ _ ?_; clear hK K
        try simp only [Act.put, List.setIfInBounds_toArray, List.set_cons_zero, List.set_cons_succ]
        refine bdoneE (by kernel_rfl) ?_
        have hR5 : (R ++ [(⟨(k : Int), A2, c2, f k⟩ : RA)]).map RA.p = rowsF f 0 (k + 1) := by
          rw [HR0.out.2.2.2.2.2.2.2.1, List.map_append, HR0.out.2.1]; rfl
        obtain ⟨R5, hRR⟩ : ∃ R5, R ++ [(⟨(k : Int), A2, c2, f k⟩ : RA)] = R5 := ⟨_, rfl⟩
        have hl5 : R5.length = R.length + 1 := by rw [← hRR]; simp
        rw [hRR] at H4 hR5
        rw [hl5] at H4
        obtain ⟨v5, hv5⟩ : ∃ v5, Value.slice A4 (R.length + 1) c4 = v5 := ⟨_, rfl⟩
        rw [hv5] at H4
        have hgs := grownS w4 (w.heap.size + 2) 0 v5
        have hvo5 := H4.out.1.kept hgs (by omega)
        have h05 := H4.out.2.2.2.1.grown hgs (fun e => by have := Option.some.inj e; omega)
        have h25 := H4.out.2.2.2.2.1.set 0 v5 (by simp)
        have h15 : At w4 (w.heap.size + 1) [.slice none 0 0] := (HR0.out.2.2.2.1.belowB (by have := HBW.out.1; omega) H4.out.2.1 H4.out.2.1.size).grown H4.out.2.2.1 (fun e => by have := (HR0.out.1.own.lt' _ e).1; omega)
        have h15' := h15.grown hgs (fun e => by have := Option.some.inj e; omega)
        have hb5 : Below w.heap.size w (w4.setCell ⟨w.heap.size + 2, 0, none⟩ v5) := (((HBW.out.2.trans (H4.out.2.1.mono HBW.out.2.size)).grown H4.out.2.2.1 (by have := H4.out.2.1.size; have := HBW.out.2.size; omega) (fun g e => by have := (HR0.out.1.own.lt' _ e).1; omega))).setCell (show w.heap.size ≤ w.heap.size + 2 by omega) v5
        have HZ := Lib.hid (And.intro hvo5 (And.intro hR5 (And.intro h05 (And.intro h15' (And.intro h25 hb5)))))
        have hsz5 : w.heap.size + 3 ≤ (w4.setCell ⟨w.heap.size + 2, 0, none⟩ v5).heap.size := by
          have a1 := H4.out.2.1.size
          have a2 := H4.out.2.2.1.size
          have a3 := HBW.out.1
          have a4 := hgs.size
          omega
        have HS5 := Lib.hid hsz5
        clear hvo5 hR5 h05 h15 h15' h25 hb5 hgs hkb zc zf hRR hl5 hsz5
        subst hv5
        go_wp2_with fail
        go_roundw
        case rel => exact ⟨k + 1, _, R5, by omega, by go_num, HZ.out.1, HZ.out.2.1, HZ.out.2.2.1, HZ.out.2.2.2.1, HZ.out.2.2.2.2.1, HS5.out, HZ.out.2.2.2.2.2⟩
        case measure => simp [intOf]; omega
    · obtain rfl : k = 64 := by omega
      have hd1 : decide ((64 : Int) < 64) = false := by decide
      obtain ⟨A5, c5, rfl, _⟩ := hvo.vs
      have hgs := grownS wr (w.heap.size + 1) 0 (.slice A5 R.length c5)
      have hvo5 := hvo.kept hgs (by omega)
      have h15 := h1.set 0 (.slice A5 R.length c5) (by simp)
      have hb5 : Below w.heap.size w (wr.setCell ⟨w.heap.size + 1, 0, none⟩ (.slice A5 R.length c5)) := hbel.setCell (show w.heap.size ≤ w.heap.size + 1 by omega) _
      have HZ := Lib.hid (And.intro hvo5 (And.intro hR (And.intro h15 hb5)))
      have g0 := h2.c 0 rfl
      have g1 := h1.c 0 rfl
      have f1 := h1.f 0 rfl
      have r1 : (wr.setCell ⟨w.heap.size + 1, 0, none⟩ (.slice A5 R.length c5)).cell? ⟨w.heap.size + 1, 0, none⟩ = some (.slice A5 R.length c5) := h15.c 0 rfl
      clear hvo5 h15 hb5 hgs hvo hR h0 h1 h2 hX hm
      go_wp2_with fail
      exact bodyPost_ret (results_vec rfl _ rfl HZ.out.2.2.1) rfl ⟨A5, c5, R, rfl, HZ.out.1.lower (by omega), HZ.out.2.1, HZ.out.2.2.2⟩
theorem parts_any (w : World) (X : List RSl) (f : Int → List Rg) (hX : XA w X f) (hm : ∀ i, (f i).length ≤ 1000000) :
    Calls Try.prog 55 #[.agg (XA.us X).toArray] w (VAns w (vecOf f)) := (parts_own w X f hX hm).mono fun _ _ h => h.ans
end Go.Proofs.Ytaflikgdlkaefaa
/- Ranges: slices.Clone. -/
namespace Go.Proofs.Ytaflikgdlkaefaa
open Go.RowKit Go.Proofs.Ytaflikgdlkaefaa.Pl Go.Proofs.Ytaflikgdlkaefaa.Sp
set_option maxRecDepth 20000
set_option maxRecDepth 100000 in
set_option maxHeartbeats 800000 in
theorem CloneR_any (w : World) (A : Option Addr) (n c : Nat) (l : List Rg) (hb : Sl w w.heap.size A (rv l)) (h0 : n = l.length) (hl : l.length ≤ 1000000000) :
    Calls Try.prog 39 #[.slice A n c] w fun e w' => ∃ v, e = .returned v ∧ OwnR w' w.heap.size v l ∧ Below w.heap.size w w' := by
  subst h0
  rcases A with _ | ad
  · have hk : l = [] := by
      rcases hb with h | ⟨b, o, h, _⟩
      · have := rv_len l
        rw [h] at this
        exact List.eq_nil_of_length_eq_zero (by simp at this; omega)
      · cases h
    subst hk
    have heq := Lib.run_eql_slice_nil (P := Try.prog) w 40 44 none 0 c 0 0 Try.underlying40
    simp only [Option.isNone_none, List.length_nil] at heq ⊢
    go_enter Try.func39, Try.ntmps39
    go_wp2_with fail
    go_ret
    exact ⟨_, rfl, OwnR.nil _ _, Below.refl _ _⟩
  · have hown : OwnR (w.alloc (.cells #[] 44)) w.heap.size (.slice (some ⟨w.heap.size, 0, none⟩) 0 0) [] := by
      have := World.ownsRow_lit (base := w.heap.size) (e := 44) (size := 2) w #[] 0 (Nat.le_refl _) (by simp [maxLen]) rfl
      exact this
    have hba := balloc (Below.refl w.heap.size w) (.cells #[] 44)
    have hb2 := (hb.below hba).more hba.size
    have heq := Lib.run_eql_slice_nil (P := Try.prog) w 40 44 (some ad) l.length c 0 0 Try.underlying40
    simp only [Option.isNone_some] at heq
    go_enter Try.func39, Try.ntmps39
    go_wp2_with (at_builtin; go_loud (refine appRG (by rfl) rfl hown hb2 rfl rfl rfl (by simp; omega) hba.size ?_); intro v3 w3 hown3 hg3 hat3)
    rw [List.nil_append] at hown3
    go_ret
    exact ⟨_, rfl, hown3, own_belowR hba hba.size hown hg3⟩
theorem CloneR_ans (w : World) (A : Option Addr) (n c : Nat) (l : List Rg) (hb : Sl w w.heap.size A (rv l)) (h0 : n = l.length) (hl : l.length ≤ 1000000000) :
    Calls Try.prog 39 #[.slice A n c] w (RAns w l) :=
  (CloneR_any w A n c l hb h0 hl).mono fun _e _w1 ⟨_, h1, h2, h3⟩ => h1 ▸ RAns.of h2 h3
end Go.Proofs.Ytaflikgdlkaefaa
/- Vectors: plain mathematics of rows put in order, of joins by table. -/
namespace Go.Proofs.Ytaflikgdlkaefaa.Ve
open Go.Proofs.Ytaflikgdlkaefaa.Sp Go.Proofs.Ytaflikgdlkaefaa.Dt

/-- a row out of a key -/
def row1 (f : Int → List Rg) (k : Int) : VL := if f k = [] then [] else [(k, f k)]
/-- rows out of keys -/
def rowsOf (f : Int → List Rg) : List Int → VL
  | [] => []
  | k :: K => row1 f k ++ rowsOf f K
theorem rowsOf_append (f : Int → List Rg) : ∀ K L : List Int, rowsOf f (K ++ L) = rowsOf f K ++ rowsOf f L
  | [], L => rfl
  | k :: K, L => by rw [List.cons_append, rowsOf, rowsOf, rowsOf_append f K L, List.append_assoc]
theorem rowsOf_snoc (f : Int → List Rg) (K : List Int) (k : Int) : rowsOf f (K ++ [k]) = rowsOf f K ++ row1 f k := by
  rw [rowsOf_append, rowsOf, rowsOf, List.append_nil]
theorem rowsOf_mem {f : Int → List Rg} : ∀ {K : List Int} {p : Int × List Rg}, p ∈ rowsOf f K → p.1 ∈ K ∧ p.2 = f p.1 ∧ p.2 ≠ []
  | [], p, h => by simp [rowsOf] at h
  | k :: K, p, h => by
    rw [rowsOf, List.mem_append] at h
    rcases h with h | h
    · unfold row1 at h
      split at h
      · simp at h
      · rename_i hne
        obtain rfl := List.mem_singleton.1 h
        exact ⟨by simp, rfl, hne⟩
    · obtain ⟨h1, h2⟩ := rowsOf_mem h
      exact ⟨List.mem_cons_of_mem _ h1, h2⟩
theorem rowsOf_up {f : Int → List Rg} : ∀ {K : List Int}, K.Pairwise (· < ·) → Up (rowsOf f K)
  | [], _ => ⟨.nil, by simp [rowsOf]⟩
  | k :: K, h => by
    obtain ⟨h1, h2⟩ := List.pairwise_cons.1 h
    obtain ⟨k1, k2⟩ := rowsOf_up (f := f) h2
    unfold rowsOf row1
    split
    · exact ⟨k1, k2⟩
    · rename_i hne
      refine ⟨.cons (fun p hp => h1 _ (rowsOf_mem hp).1) k1, fun p hp => ?_⟩
      rcases List.mem_cons.1 hp with rfl | hp
      · exact hne
      · exact k2 p hp
theorem rowsOf_part {f : Int → List Rg} : ∀ {K : List Int} (r : Int), partV (rowsOf f K) r = if r ∈ K then f r else []
  | [], r => by simp [rowsOf, partV, look]
  | k :: K, r => by
    have ih := rowsOf_part (f := f) (K := K) r
    unfold rowsOf row1
    by_cases hk : f k = []
    · rw [if_pos hk, List.nil_append, ih]
      by_cases h : r = k
      · subst h
        rw [if_pos (List.mem_cons_self ..), hk]
        split <;> rfl
      · by_cases h2 : r ∈ K
        · rw [if_pos h2, if_pos (List.mem_cons_of_mem _ h2)]
        · rw [if_neg h2, if_neg (by simp [h, h2])]
    · rw [if_neg hk, List.singleton_append, partV, look_cons]
      by_cases h : k = r
      · subst h; rw [if_pos rfl, if_pos (List.mem_cons_self ..)]; rfl
      · rw [if_neg h]
        change partV (rowsOf f K) r = _
        rw [ih]
        by_cases h2 : r ∈ K
        · rw [if_pos h2, if_pos (List.mem_cons_of_mem _ h2)]
        · rw [if_neg h2, if_neg (by simp [h2]; exact fun e => h e.symm)]
theorem rowsOf_eq {f : Int → List Rg} {K : List Int} (hK : K.Pairwise (· < ·)) (hr : ∀ k ∈ K, 0 ≤ k ∧ k < 64) (hall : ∀ k, f k ≠ [] → k ∈ K) : rowsOf f K = vecOf f :=
  up_one (rowsOf_up hK) (rowsF_up f 64 0) fun r => by
    change _ = partV (vecOf f) r
    rw [rowsOf_part, vecOf_part]
    by_cases h : f r = []
    · rw [h]
      split <;> split <;> rfl
    · have h1 := hall r h
      have h2 := hr r h1
      rw [if_pos h1, if_pos h2]
theorem rowsOf_len (f : Int → List Rg) : ∀ K : List Int, (rowsOf f K).length ≤ K.length
  | [] => Nat.le_refl _
  | k :: K => by
    have := rowsOf_len f K
    unfold rowsOf row1
    split
    · simp; omega
    · simp; omega
/-- a replica's ranges, when the rows up to k of the other one are joined -/
theorem part_cons_lt {V : VL} {r : Int} (h : ∀ p ∈ V, p.1 ≠ r) : partV V r = [] := by
  unfold partV look
  rw [List.find?_eq_none.2 (fun p hp => by simpa using h p hp)]
  rfl
end Go.Proofs.Ytaflikgdlkaefaa.Ve
