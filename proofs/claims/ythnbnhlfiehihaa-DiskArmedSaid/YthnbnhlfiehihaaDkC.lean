/- Disks: the program's Copy. -/
import Derived.Test.YthnbnhlfiehihaaDk9
import Derived.Shelf.SlMaps.Clone
import Derived.Shelf.Abstract
import Derived.Ground.SlmcProg
import Derived.Ground.NamesProg
namespace Go.Proofs
open Go.Shelf Go.RowKit Go.Lib
def Try.cloneFiles_ren : Go.Shelf.Ren := ⟨fun | 5 => 51 | 7 => 60 | n => n, fun | 23 => 53 | 25 => 9 | 3 => 59 | 4 => 4 | 20 => 20 | n => n, fun | n => n⟩
theorem Try.cloneFiles : Go.Proofs.SlLaysW.n5 Try.prog Try.cloneFiles_ren := {
  mixed := by kernel_rfl
  f5 := ⟨Try.f51.name, by decide, Try.func51.trans (congrArg some (by kernel_rfl))⟩
  f7 := Try.func60.trans (congrArg some (by kernel_rfl))
  t4 := Try.underlying4
  a4 := Try.isAgg4
  z4 := Try.sizeOf4
  v4 := Try.zeroValue4
  t20 := Try.underlying20
  a20 := Try.isAgg20
  z20 := Try.sizeOf20
  v20 := Try.zeroValue20
  t23 := Try.underlying53
  a23 := Try.isAgg53
  z23 := Try.sizeOf53
  v23 := Try.zeroValue53 }
end Go.Proofs
namespace Go.Proofs.Ythnbnhlfiehihaa
open Go.RowKit Go.Maps
set_option maxRecDepth 20000

theorem MapIs.block {P : Program} {t k e : TypeId} {α β : Type} {T : MT P t k e α β} {w : World} {b : Nat} {L : List (α × β)} (h : MapIs T w b L) : ∃ es clock, w.heap[b]? = some (.map es clock) := by
  obtain ⟨_, _, ⟨es', clock, h1, _⟩, _⟩ := h
  exact ⟨es', clock, h1⟩
theorem MapIs.cloned {P : Program} {t k e : TypeId} {α β : Type} {T : MT P t k e α β} {w w' : World} {b b' : Nat} {L : List (α × β)} (h : MapIs T w b L) (hb : w'.heap[b']? = w.heap[b]?) : MapIs T w' b' L := by
  obtain ⟨h0, es, ⟨es', clock, h1, h2⟩, h3⟩ := h
  exact ⟨h0, es, ⟨es', clock, hb.trans h1, h2⟩, h3⟩
theorem Copy_any (w : World) (p : Nat) (F H : Nat → Prop) (s : DK) (h : PD w p F H s) :
    Calls Try.prog 23 #[.pointer (some ⟨p, 0, none⟩)] w fun e w' => ∃ (q : Nat) (F' H' : Nat → Prop), e = .returned (.pointer (some ⟨q, 0, none⟩)) ∧ PD w' q F' H' s ∧ (∀ k, F' k → w.heap.size ≤ k) ∧ (∀ k, H' k → (H k ∧ ¬ F k) ∨ w.heap.size ≤ k) ∧ Below w.heap.size w w' := by
  obtain ⟨mb, G, h1, h2, h3, h4, h5, h6, h7, h8⟩ := h
  have hb1 : Below w.heap.size w (w.alloc (.cells (boxP mb s).toArray 55)) := (Below.refl _ w).alloc (Nat.le_refl _) _
  have hpl := h1.1
  have c0 := h1.c 0 rfl
  have c1 := h1.c 1 rfl
  have c2 := h1.c 2 rfl
  have c3 := h1.c 3 rfl
  have c4 := h1.c 4 rfl
  have c5 := h1.c 5 rfl
  have c6 := h1.c 6 rfl
  have k1 := h1.below hb1
  have d0 := k1.c 0 rfl
  obtain ⟨es, clock, hb⟩ := h2.block
  have hcl := Lib.hid (AnyW.maps_Clone (P := Try.prog) (ρ := Try.cloneFiles_ren) Try.cloneFiles mb es clock _ ((hb1.block mb h2.lt).trans hb))
  have HX := Lib.hid (And.intro h2 (And.intro h3 (And.intro h4 (And.intro h8 hb))))
  have hbox := (At.new w 55 (boxP mb s).toArray).alloc (.map es clock)
  have z0 := hbox.c 0 rfl
  have y0 := hbox.f 0 rfl
  clear hb h1 h2 h3 h4 h5 h6 h7 h8 k1 hbox hb1
  unfold boxP at *
  go_enter Try.func23, Try.ntmps23
  go_wp2_with fail
  refine hcl.out.mono ?_
  rintro e w1 ⟨rfl, rfl⟩
  go_wp2
  go_ret
  obtain ⟨h2, h3, h4, h8, hb⟩ := HX.out
  have hbox := (At.new w 55 (boxP (w.heap.size + 1) s).toArray).alloc (.map es clock)
  have hb2 : Below w.heap.size w ((w.alloc (.cells (boxP (w.heap.size + 1) s).toArray 55)).alloc (.map es clock)) := ((Below.refl _ w).alloc (Nat.le_refl _) _).alloc (by simp) _
  have hm := h2.cloned (w' := (w.alloc (.cells (boxP (w.heap.size + 1) s).toArray 55)).alloc (.map es clock)) (b' := w.heap.size + 1) (by
    have := World.alloc_heap_new (w.alloc (.cells (boxP (w.heap.size + 1) s).toArray 55)) (.map es clock)
    rw [World.size_alloc] at this
    exact this.trans hb.symm)
  refine ⟨w.heap.size, fun k => k = w.heap.size ∨ k = w.heap.size + 1, fun k => (k = w.heap.size ∨ k = w.heap.size + 1) ∨ (H k ∧ ¬ F k), rfl, ⟨w.heap.size + 1, G, hbox, hm, h3, fun q hq => ?_, .inl rfl, .inr rfl, fun _ => .inl, fun k hk => ?_⟩, fun k hk => by omega, fun k hk => ?_, hb2⟩
  · obtain ⟨a1, a2, a3, a4⟩ := h4 q hq
    refine ⟨(a1.below' hb2).more hb2.size, a2, a3, a4.imp id fun ⟨r, b1, b2, b3⟩ => ⟨r, b1, .inr ⟨b2, b3⟩, fun hk => ?_⟩⟩
    have := h8 _ b2
    omega
  · rw [World.size_alloc, World.size_alloc]
    rcases hk with hk | ⟨hk, _⟩
    · omega
    · have := h8 k hk; omega
  · rcases hk with hk | hk
    · right; omega
    · exact .inl hk
end Go.Proofs.Ythnbnhlfiehihaa

