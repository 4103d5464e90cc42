/- Disks: what is known. -/
import Derived.Test.YthnbnhlfiehihaaDkL
import Derived.Lib.SlBytesConst
namespace Go.Proofs.Ythnbnhlfiehihaa
open Go.RowKit Go.Maps
set_option maxRecDepth 20000

theorem PD.newNF {W : World} {p : Nat} {F H : Nat → Prop} {s : DK} (h : PD W p F H s) : ∀ a, (some ⟨W.heap.size, 0, none⟩ : Option Addr) = some a → ¬ F a.block := fun a e hk => by
  cases e
  exact absurd (h.lt _ (h.fh hk)) (Nat.lt_irrefl _)
theorem PD.al {W : World} {p : Nat} {F H : Nat → Prop} {s : DK} (h : PD W p F H s) (o : Obj) : PD (W.alloc o) p F H s := h.below ((Below.refl _ _).alloc (Nat.le_refl _) _)
theorem newB (W : World) (l : List UInt8) (fr : Nat × Nat) : Sl (W.alloc (.cells (bv l).toArray 5 fr)) (W.alloc (.cells (bv l).toArray 5 fr)).heap.size (some ⟨W.heap.size, 0, none⟩) (bv l) := by
  have := Sl.new W 5 (bv l).toArray fr
  rw [World.size_alloc]
  exact this
theorem below_no {w w' : World} (hg : w.grownBy w' none) : Below w.heap.size w w' := ⟨hg.os, hg.tape, hg.output, hg.size, fun k hk => hg.block k hk (fun e => by cases e)⟩
set_option maxRecDepth 100000 in
set_option maxHeartbeats 6400000 in
theorem known_any (w : World) : Calls Try.prog 7 #[] w fun e w' => e = .returned (.bool true) ∧ Below w.heap.size w w' := by
  have hcv := fun (w : World) (C : Array Value) (n c : Nat) => Lib.run_convert_bytes_const (P := Try.prog) w 22 5 C n c Try.underlying22 Try.underlying5
  go_enter Try.func7, Try.ntmps7
  go_wp2_with (first
    | (go_at_call 8; refine (New_any _ 10).mono ?_; rintro e w1 ⟨p, F, H, rfl, hp1, hH, hb1⟩; have hFw : ∀ k, F k → w.heap.size ≤ k := (fun k hk => hH k (hp1.fh hk)))
    | (go_at_call 9; refine (Create_lit _ p F H 10 k1 (r := 0) rfl hp1 o0 (by omega) (by decide)).mono ?_; rintro e w2 ⟨rfl, hp2, hg2⟩; clear hp1; have nb2 := newB w2 [97, 98, 99] (3, 4))
    | (go_at_call 10; refine (Append_lit _ p F H 11 k2 (r := 0) rfl (hp2.al _) o1 (by omega) (by decide) _ _ 3 rfl (by omega) (by omega) nb2 (.inr hp2.newNF)).mono ?_; rintro e w3 ⟨rfl, H3, hp3, hg3⟩; clear hp2 nb2)
    | (at_make; refine mkZ (n := 8) rfl rfl rfl rfl rfl rfl (by omega) ?_; intro wz hownz hgz; have hbz := below_no hgz; have hz3 := hp3.newNF; have nb3 : Sl wz wz.heap.size (some ⟨w3.heap.size, 0, none⟩) (bv [0, 0, 0, 0, 0, 0, 0, 0]) := (OwnB.sl (l := [0, 0, 0, 0, 0, 0, 0, 0]) hownz).1)
    | (go_at_call 10; refine (Append_lit _ p F H3 12 k3 (r := 33) rfl (hp3.below hbz) o2 (by omega) (by decide) _ _ 8 rfl (by omega) (by omega) nb3 (.inr hz3)).mono ?_; rintro e w4 ⟨rfl, H4, hp4, hg4⟩; clear hp3 nb3)
    | (go_at_call 9; refine (Create_lit _ p F H4 12 k4 (r := 32) rfl hp4 o2 (by omega) (by decide)).mono ?_; rintro e w5 ⟨rfl, hp5, hg5⟩; clear hp4)
    | (go_at_call 12; refine (Sync_lit _ p F H4 12 k5 (r := 31) rfl hp5 o2 (by omega) (by decide)).mono ?_; rintro e w6 ⟨rfl, hp6, hg6⟩; clear hp5; have hU := Used_lit w6 p F H4 (r := 3) (by kernel_rfl) hp6; have hCl := Calls_lit w6 p F H4 (r := 2) (by kernel_rfl) hp6; have nb6 := Sl.ints w6 3 [2] (0, 0); have nz6 := hp6.newNF)
    | (go_at_call 16; refine hU.mono ?_; rintro e w7 ⟨rfl, rfl⟩)
    | (go_at_call 14; refine hCl.mono ?_; rintro e w7 ⟨rfl, rfl⟩)
    | (go_at_call 17; refine (Sure_lit _ p F H4 (s := K2) (x := [120]) (r := 0) (by kernel_rfl) hp6 (by decide)).mono ?_; rintro e w7 ⟨rfl, rfl⟩)
    | (go_at_call 18; refine (Crash_lit _ p F H4 12 k6 (hp6.al _) o2 (by omega) _ 1 1 rfl nb6 (.inr nz6) (by omega)).mono ?_; rintro e w8 ⟨rfl, H8, hp8, hg8⟩; clear hp6 nb6 nz6 hU hCl)
    | (go_at_call 15; refine (Read_lit _ p F H8 12 k7 hp8 o3 (by decide)).mono ?_; rintro e w9 ⟨A9, c9, rfl, hs9, hn9, hb9⟩; have hnf9 : ∀ a, A9 = some a → ¬ F a.block := (fun a h hk => absurd (hp8.lt _ (hp8.fh hk)) (Nat.not_lt.2 (hn9 a h))); have hp9 := hp8.below hb9; clear hp8)
    | (go_at_call 11; refine (Arm_lit _ p F H8 k8 hp9 (by omega) (by omega)).mono ?_; rintro e wa ⟨rfl, hpa, hga⟩)
    | (go_at_call 12; refine (Sync_lit _ p F H8 12 k9 (r := 34) rfl hpa o4 (by omega) (by decide)).mono ?_; rintro e wb ⟨rfl, hpb, hgb⟩; clear hpa; have hsb := (hs9.grewF hga hnf9).grewF hgb hnf9; have hcb := conv hsb 2 c9 rfl; have hSb := Sure_lit wb p F H8 (s := K5) (x := [120]) (r := 2) (by kernel_rfl) hpb (by decide); have hDb := Down_lit wb p F H8 (s := K5) (t := true) rfl hpb; have hNb := Names_lit wb p F H8 13 (s := K5) (m := 1) rfl hpb o5 (by omega))
    | (go_at_call 17; refine hSb.mono ?_; rintro e wc ⟨rfl, rfl⟩)
    | (go_at_call 13; refine hDb.mono ?_; rintro e wc ⟨rfl, rfl⟩)
    | (go_at_call 25; refine hNb.mono ?_; rintro e wc ⟨Ac, cc, rfl, _, hbc⟩))
  go_ret
  have q2 := hg2.belowB hb1 (Nat.le_refl _) hFw
  have q3 := hg3.belowB (q2.alloc q2.size _) (Nat.le_refl _) hFw
  have q4 := hg4.belowB (q3.trans (hbz.mono q3.size)) (Nat.le_refl _) hFw
  have q6 := hg6.belowB (hg5.belowB q4 (Nat.le_refl _) hFw) (Nat.le_refl _) hFw
  have q8 := hg8.belowB (q6.alloc q6.size _) (Nat.le_refl _) hFw
  have qb := hgb.belowB (hga.belowB (q8.trans (hb9.mono q8.size)) (Nat.le_refl _) hFw) (Nat.le_refl _) hFw
  exact ⟨rfl, qb.trans (hbc.mono qb.size)⟩
end Go.Proofs.Ythnbnhlfiehihaa

