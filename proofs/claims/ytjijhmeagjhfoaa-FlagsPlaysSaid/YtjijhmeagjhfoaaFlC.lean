/- Flags: Copy. -/
import Derived.Test.YtjijhmeagjhfoaaFl
import Derived.Shelf.SlMaps.Clone
import Derived.Shelf.Lay
import Derived.Ground.SlmcProg
import Derived.Ground.NamesProg
namespace Go.Proofs
open Go.Shelf Go.RowKit Go.Lib
shelf_lay_g SlLaysW.n5 Slmc 5 at Try 27 as Try.cloneFlags
end Go.Proofs
namespace Go.Proofs.Ytjijhmeagjhfoaa
open Go.RowKit Go.Maps
set_option maxRecDepth 20000

theorem MapIs.cloned {P : Program} {t k e : TypeId} {α β : Type} [DecidableEq α] {T : MT P t k e α β} {w w' : World} {b b' : Nat} {L : List (α × β)} (h : MapIs T w b L) (hb : w'.heap[b']? = w.heap[b]?) : MapIs T w' b' L := by
  obtain ⟨h0, es, ⟨es', clock, h1, h2⟩, h3⟩ := h
  exact ⟨h0, es, ⟨es', clock, hb.trans h1, h2⟩, h3⟩
theorem MapIs.block {P : Program} {t k e : TypeId} {α β : Type} [DecidableEq α] {T : MT P t k e α β} {w : World} {b : Nat} {L : List (α × β)} (h : MapIs T w b L) : ∃ es clock, w.heap[b]? = some (.map es clock) := by
  obtain ⟨_, _, ⟨es', clock, h1, _⟩, _⟩ := h
  exact ⟨es', clock, h1⟩
theorem Copy_any (w : World) (m b : Nat) (R : List FE) (h : FS w m b R) : Calls Try.prog 16 #[.pointer (some ⟨m, 0, none⟩)] w fun e w' => e = .returned (.pointer (some ⟨w.heap.size + 1, 0, none⟩)) ∧ FS w' (w.heap.size + 1) w.heap.size R ∧ Below w.heap.size w w' := by
  obtain ⟨h1, ⟨L, h2, h3⟩, h4, h5⟩ := h
  have hc := h1.c 0 (v := .map (some b)) rfl
  obtain ⟨es, clock, hb⟩ := h2.block
  have hcl := Lib.hid (AnyW.maps_Clone (P := Try.prog) (ρ := Try.cloneFlags_ren) Try.cloneFlags b es clock w hb)
  have HB := Lib.hid hb
  clear hb
  go_enter Try.func16, Try.ntmps16
  go_wp2_with fail
  refine hcl.out.mono ?_
  rintro e w1 ⟨rfl, rfl⟩
  go_wp2
  go_ret
  have hm := h2.cloned (w' := w.alloc (.map es clock)) (b' := w.heap.size) ((World.alloc_heap_new w _).trans HB.out.symm)
  have h6 := At.new (w.alloc (.map es clock)) 66 #[.map (some w.heap.size)]
  rw [World.size_alloc] at h6
  refine ⟨by simp, ⟨h6, ⟨L, hm.below ((Below.refl _ _).alloc (Nat.le_refl _) _), h3⟩, h4, h5⟩, ((Below.refl _ w).alloc (Nat.le_refl _) _).alloc (by simp) _⟩
end Go.Proofs.Ytjijhmeagjhfoaa

