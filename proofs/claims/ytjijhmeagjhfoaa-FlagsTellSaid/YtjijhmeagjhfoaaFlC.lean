/- Flags: Copy. -/
import Derived.Test.YtjijhmeagjhfoaaFl
import Derived.Shelf.SlMaps.Clone
import Derived.Shelf.Abstract
import Derived.Ground.SlmcProg
import Derived.Ground.NamesProg
namespace Go.Proofs
open Go.Shelf Go.RowKit Go.Lib
def Try.cloneFlags_ren : Go.Shelf.Ren := ⟨fun | 5 => 27 | 7 => 36 | n => n, fun | 23 => 64 | 25 => 25 | 3 => 68 | 4 => 4 | 20 => 20 | n => n, fun | n => n⟩
theorem Try.cloneFlags : Go.Proofs.SlLaysW.n5 Try.prog Try.cloneFlags_ren := {
  mixed := by kernel_rfl
  f5 := ⟨Try.f27.name, by decide, Try.func27.trans (congrArg some (by kernel_rfl))⟩
  f7 := Try.func36.trans (congrArg some (by kernel_rfl))
  t4 := Try.underlying4
  a4 := Try.isAgg4
  z4 := Try.sizeOf4
  v4 := Try.zeroValue4
  t20 := Try.underlying20
  a20 := Try.isAgg20
  z20 := Try.sizeOf20
  v20 := Try.zeroValue20
  t23 := Try.underlying64
  a23 := Try.isAgg64
  z23 := Try.sizeOf64
  v23 := Try.zeroValue64 }
end Go.Proofs
namespace Go.Proofs.Ytjijhmeagjhfoaa
open Go.RowKit Go.Maps
set_option maxRecDepth 20000

theorem MapIs.cloned {P : Program} {t k e : TypeId} {α β : Type} [DecidableEq α] {T : MT P t k e α β} {w w' : World} {b b' : Nat} {L : List (α × β)} (h : MapIs T w b L) (hb : w'.heap[b']? = w.heap[b]?) : MapIs T w' b' L := by
  obtain ⟨h0, es, ⟨es', clock, h1, h2⟩, h3⟩ := h
  exact ⟨h0, es, ⟨es', clock, hb.trans h1, h2⟩, h3⟩
theorem MapIs.block {P : Program} {t k e : TypeId} {α β : Type} [DecidableEq α] {T : MT P t k e α β} {w : World} {b : Nat} {L : List (α × β)} (h : MapIs T w b L) : ∃ es clock, w.heap[b]? = some (.map es clock) := by
  obtain ⟨_, _, ⟨es', clock, h1, _⟩, _⟩ := h
  exact ⟨es', clock, h1⟩
theorem Copy_any (w : World) (m b : Nat) (R : List FE) (h : FSt w m b R) : Calls Try.prog 16 #[.pointer (some ⟨m, 0, none⟩)] w fun e w' => e = .returned (.pointer (some ⟨w.heap.size + 1, 0, none⟩)) ∧ FSt w' (w.heap.size + 1) w.heap.size R ∧ Below w.heap.size w w' := by
  obtain ⟨h1, ⟨L, h2, h3⟩, h4, h5⟩ := h
  have hc := h1.c 0 (v := .map (some b)) rfl
  obtain ⟨es, clock, hb⟩ := h2.block
  have hcl := Lib.hid (AnyW.maps_Clone (P := Try.prog) (ρ := Try.cloneFlags_ren) Try.cloneFlags b es clock w hb)
  have HB := Lib.hid hb
  clear hb
  go_enter Try.func16, Try.ntmps16
  go_wp2_with fail
  refine hcl.out.mono ?_
  rintro e w1 ⟨rfl, rfl⟩
  go_wp2
  go_ret
  have hm := h2.cloned (w' := w.alloc (.map es clock)) (b' := w.heap.size) ((World.alloc_heap_new w _).trans HB.out.symm)
  have h6 := At.new (w.alloc (.map es clock)) 66 #[.map (some w.heap.size)]
  rw [World.size_alloc] at h6
  refine ⟨by simp, ⟨h6, ⟨L, hm.below ((Below.refl _ _).alloc (Nat.le_refl _) _), h3⟩, h4, h5⟩, ((Below.refl _ w).alloc (Nat.le_refl _) _).alloc (by simp) _⟩
end Go.Proofs.Ytjijhmeagjhfoaa

