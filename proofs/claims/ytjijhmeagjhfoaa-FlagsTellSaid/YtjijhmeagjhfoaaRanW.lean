/- A range over a function that walks a map: what it hands on is put into a variable of the round's own. -/
import Derived.Test.YtjijhmeagjhfoaaVal
import Derived.RangeFuncGives
import Derived.RangeFuncNested
import Derived.RangeFuncBound
import Derived.RangeFuncCalls
import Derived.RangeFuncLeaves
import Derived.Shelf.Abstract
import Derived.Shelf.RegionOpen
import Derived.WalkKit
import Derived.OwnWalkIn
import Derived.TacticsInMore
import Derived.LoopNIn
import Derived.LoopIn
namespace Go.Proofs.Ytjijhmeagjhfoaa
open Go.RowKit Go.Shelf

def bodyG {α : Type} (B : Nat) (I : List α → World → Prop) (xs : List α) (W : World) : Exit → Act → World → Prop
  | .normal, _, W' => KeepsFrom B W W' ∧ KeepsWalks W W' ∧ I xs W'
  | _, _, _ => False
theorem walk_not_cells {o : Obj} (h : o.isWalk = true) : o.isCells = false := by cases o <;> first | rfl | cases h
theorem KeepsWalks.of_below {W W' : World} (h : Below W.heap.size W W') : KeepsWalks W W' := ⟨h.size, fun k _o hk _ => (h.block k (Array.getElem?_eq_some_iff.1 hk).1).trans hk⟩
theorem range_G {α : Type} {g : Operand} {ps : Array Tmp} {assign body : Code} {Q : Exit → Act → World → Prop} {a : Act} {w : World} {n : Nat} {P : Program}
    {gf : Nat} {lb : Array Value} (hg : a.eval g = .func (.func gf) #[] lb) (eg : ∀ args w, (callFunc gf args).run P w = .ok (.enter gf args) w)
    {enc : α → Value} {S : List α → Prop} {N : Nat} {w0 : World} (hseq : SeqGives Fence.wide (n - 1) P gf lb enc S N w0) (hb0 : Below w0.heap.size w0 w) (hps : 1 = ps.size)
    (I : List α → World → Prop) (hI : OwnFrom w.heap.size I) (h0 : I [] w) (A : α → Act → World → Prop) (hA : ∀ x a', OwnFrom w.heap.size (fun (_ : Unit) W => A x a' W))
    (hassign : ∀ (l : Nat) (x : α) (W : World) (K : Act → World → Prop), w.heap.size ≤ W.heap.size → (∀ a' W', Below W.heap.size W W' → A x a' W' → K a' W') →
      assign.wpIn (Fence.wide.inRound l) (n - 1 - 1) P (Exit.then K (fun _ _ _ => False)) { tmps := (ps.zip #[enc x]).foldl (fun t (p, v) => t.setIfInBounds p v) a.tmps, defers := [] } W)
    (hbody : ∀ (l : Nat) (pre : List α) (x : α) (a' : Act) (W : World), I pre W → pre.length < N → A x a' W → w.heap.size ≤ W.heap.size → body.wpIn (Fence.wide.inRound l) (n - 1 - 1) P (bodyG w.heap.size I (pre ++ [x]) W) a' W)
    (hdone : ∀ (D : Nat) (xs : List α) (W : World), w.heap.size ≤ D → S xs → I xs W → W.heap[D]? = some (.deferred (some [])) → Q .normal { a with defers := { target := .collected D, args := #[] } :: a.defers } W) :
    (Code.rangeFunc g ps assign body).wpIn Fence.wide n P Q a w := by
  refine wpIn_rangeFunc fun fn hfn => ?_
  obtain ⟨rec, hrec⟩ : ∃ rec : LoopState → Loop, rec = fun st => { state := st, pending := none, fn, tmps := a.tmps, params := ps, assign, body, defers := w.heap.size } := ⟨_, rfl⟩
  obtain ⟨D, hD⟩ : ∃ D, w.heap.size = D := ⟨_, rfl⟩
  obtain ⟨W1, hW1⟩ : ∃ W1, (w.alloc (.deferred (some []))).alloc (.loop (rec .ready)) = W1 := ⟨_, rfl⟩
  have r1 : W1.heap[D + 1]? = some (.loop (rec .ready)) := by
    have := World.alloc_heap_new (w.alloc (.deferred (some []))) (.loop (rec .ready))
    rw [World.size_alloc, hW1, hD] at this
    exact this
  have m1 : W1.heap[D]? = some (.deferred (some [])) := by
    rw [← hW1, ← hD]
    exact (Below.heap_alloc _ _ _ (by simp)).trans (World.alloc_heap_new w _)
  have b1 : Below w.heap.size w W1 := by rw [← hW1]; exact ((Below.refl _ w).alloc (Nat.le_refl _) _).alloc (by simp) _
  have gB : ∀ {X Y : World}, Below X.heap.size X Y → X.grownBy Y none := fun hb => ⟨hb.os, hb.tape, hb.output, hb.size, fun k hk _ => hb.block k hk⟩
  have i1 : I [] W1 := hI [] w W1 none h0 (gB b1) (fun r e => by cases e)
  refine ⟨D + 1, [{ target := .collected D, args := #[] }], W1, { target := .fn (.func gf) lb, args := #[.func (.yield (D + 1)) #[] #[]] }, W1, gf, #[.func (.yield (D + 1)) #[] #[]] ++ lb, W1, ?_, ?_, fun _ _ => trivial, ?_, fun h => (by simp [Fence.wide] at h), ?_⟩
  · rw [← hW1, hrec, ← hD]; exact run_enterLoop_outer _ _ _ _ _
  · simp only [resolve, hg]
    simp [go_sem]
  · simp [invoke, go_sem, eg]
  refine (hseq (D + 1) (fun pre W => I pre W ∧ W.heap[D + 1]? = some (.loop (rec .ready)) ∧ W.heap[D]? = some (.deferred (some []))) W1 (hb0.trans (b1.mono hb0.size)) ?_ ?_ ⟨i1, r1, m1⟩).mono ?_
  · rintro s X Y row ⟨hi, hl, hk⟩ hgr hr
    have hlt1 : D + 1 < W1.heap.size := (Array.getElem?_eq_some_iff.1 r1).1
    refine ⟨hI s X Y row hi hgr (fun r e => ⟨by have := (hr r e).1; omega, by obtain ⟨o, ho, hw⟩ := (hr r e).2; exact ⟨o, ho, walk_not_cells hw⟩⟩), ?_, ?_⟩
    · exact (hgr.block _ (Array.getElem?_eq_some_iff.1 hl).1 (fun e => by have := (hr _ e.symm).1; omega)).trans hl
    · exact (hgr.block _ (Array.getElem?_eq_some_iff.1 hk).1 (fun e => by have := (hr _ e.symm).1; omega)).trans hk
  · rintro pre x W ⟨hi, hl, hk⟩ hx
    have hlt : D + 1 < W.heap.size := (Array.getElem?_eq_some_iff.1 hl).1
    have hy := run_yield (P := P) (args := #[enc x]) hl (by rw [hrec]; exact hps)
    rw [hrec] at hy
    refine ⟨fn, _, assign, body, hy, roundIn_of_wpIn hfn (hassign _ x W _ (by omega) ?_)⟩
    intro a' Wa hba hax
    have hla := (hba.block _ hlt).trans hl
    have hka := (hba.block D (by omega)).trans hk
    have hia : I pre Wa := hI pre W Wa none hi (gB hba) (fun r e => by cases e)
    refine ⟨_, run_beginRound hla (by rw [hrec]), ?_⟩
    have hlta : D + 1 < Wa.heap.size := (Array.getElem?_eq_some_iff.1 hla).1
    obtain ⟨W2, hW2⟩ : ∃ W2, Wa.putObj (D + 1) (.loop { rec .ready with state := .busy }) = W2 := ⟨_, rfl⟩
    rw [hW2]
    have hl2 : W2.heap[D + 1]? = some (.loop { rec .ready with state := .busy }) := by rw [← hW2]; exact World.putObj_heap_same hlta
    have hk2 : W2.heap[D]? = some (.deferred (some [])) := by rw [← hW2]; exact (World.putObj_heap_other (by omega)).trans hka
    have hs2 : Wa.heap.size ≤ W2.heap.size := by rw [← hW2]; exact (grownBy_putObj' Wa (D + 1) _).size
    have hi2 : I pre W2 := by rw [← hW2]; exact hI.putObj _ hia (by omega) hla rfl
    have hx2 : A x a' W2 := by rw [← hW2]; exact (hA x a').putObj (s := ()) _ hax (by omega) hla rfl
    have hkw2 : KeepsWalks W W2 := (KeepsWalks.of_below hba).trans (by rw [← hW2]; exact KeepsWalks.putObj _ hla rfl)
    refine wpIn_mono (hbody _ pre x a' W2 hi2 hx hx2 (by omega)) ?_
    rintro e a3 W3 hp
    cases e with
    | normal =>
      obtain ⟨hk3, hb3, hi3⟩ := hp
      have hl3 := hk3.same _ _ (by omega) hl2 rfl
      have hm3 := hk3.same _ _ (by omega) hk2 rfl
      refine ⟨_, _, run_endRound (P := P) none hl3, rfl, ⟨hI.putObj _ hi3 (by omega) hl3 rfl, ?_, (World.putObj_heap_other (by omega)).trans hm3⟩, (hkw2.trans hb3).trans (KeepsWalks.putObj _ hl3 rfl)⟩
      rw [World.putObj_heap_same (Array.getElem?_eq_some_iff.1 hl3).1, hrec]
      rfl
    | _ => exact hp.elim
  · rintro e W2 ⟨⟨v, rfl⟩, xs, hS, hi, hl, hk⟩
    exact ⟨none, _, by have := run_endLoop (P := P) hl (by rw [hrec]; simp); rw [hrec] at this; exact this, hdone D xs _ (by omega) hS (hI.putObj _ hi (by omega) hl rfl) ((World.putObj_heap_other (by omega)).trans hk)⟩
end Go.Proofs.Ytjijhmeagjhfoaa

