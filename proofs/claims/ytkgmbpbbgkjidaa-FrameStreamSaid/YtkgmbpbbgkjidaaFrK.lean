/- Frames: the known frame; contracts with written-out answers. -/
import Derived.Test.YtkgmbpbbgkjidaaFrS
import Derived.Test.YtkgmbpbbgkjidaaFrP
namespace Go.Proofs.Ytkgmbpbbgkjidaa
open Go.RowKit Go.Proofs.Ytkgmbpbbgkjidaa.Pl Go.Proofs.Ytkgmbpbbgkjidaa.Pc

def PutLit (w : World) (r1 : List UInt8) (r2 : Int) (e : Ending) (w' : World) : Prop := ∃ A c, e = .returned (.tuple #[.slice A r1.length c, .int .i64 r2]) ∧ Sl w' w'.heap.size A (bv r1) ∧ r1.length ≤ c ∧ c ≤ maxLen ∧ Below w.heap.size w w'
theorem FPut_lit (w : World) (k f t : Int) (g : Nat) (p : List UInt8) (A : Option Addr) (n c : Nat) (limit : Int) (r1 : List UInt8) (r2 : Int) (hb : Sl w w.heap.size A (bv p)) (h0 : n = p.length) (hc : n ≤ c) (hm : c ≤ maxLen) (hl : p.length ≤ 70368744177664) (hg : g < 4294967296) (h : putF ⟨k, g, f, t, p⟩ limit = (r1, r2)) :
    Calls Try.prog 27 #[.agg #[.int .i64 k, .int .u32 (g : Int), .int .i64 f, .int .i64 t, .slice A n c], .int .i64 limit] w (PutLit w r1 r2) := by
  subst h0
  have := FPut_any w ⟨k, g, f, t, p⟩ A c limit hb hc hm hl hg
  rw [h] at this
  exact this
theorem RPut_lit (w : World) (k f t : Int) (g : Nat) (p : List UInt8) (A : Option Addr) (n c : Nat) (limit : Int) (r1 : List UInt8) (r2 : Int) (hb : Sl w w.heap.size A (bv p)) (h0 : n = p.length) (hc : n ≤ c) (hm : c ≤ maxLen) (hl : p.length ≤ 70368744177664) (hg : g < 4294967296) (h : putF ⟨k, g, f, t, p⟩ limit = (r1, r2)) :
    Calls Try.prog 28 #[.agg #[.int .i64 k, .int .u32 (g : Int), .int .i64 f, .int .i64 t, .slice A n c], .int .i64 limit] w (PutLit w r1 r2) := by
  subst h0
  have := RPut_any w ⟨k, g, f, t, p⟩ A c limit hb hc hm hl hg
  rw [h] at this
  exact this
def ReadLit (w : World) (k f t : Int) (g : Nat) (p : List UInt8) (e0 : Nat) (e : Ending) (w' : World) : Prop := ∃ A c, e = .returned (.tuple #[.agg #[.int .i64 k, .int .u32 (g : Int), .int .i64 f, .int .i64 t, .slice A p.length c], .int .i64 (e0 : Int)]) ∧ Sl w' w'.heap.size A (bv p) ∧ p.length ≤ c ∧ c ≤ maxLen ∧ Below w.heap.size w w'
theorem FRead_lit (w : World) (A : Option Addr) (n c : Nat) (b : List UInt8) (limit : Int) (k f t : Int) (g : Nat) (p : List UInt8) (e0 : Nat) (hb : Sl w w.heap.size A (bv b)) (h0 : n = b.length) (hc : n ≤ c) (hm : c ≤ maxLen) (h : readF b limit = (⟨k, g, f, t, p⟩, e0)) :
    Calls Try.prog 29 #[.slice A n c, .int .i64 limit] w (ReadLit w k f t g p e0) := by
  have := FRead_any w A n c b limit hb h0 hc hm
  rw [h] at this
  exact this
theorem RRead_lit (w : World) (A : Option Addr) (n c : Nat) (b : List UInt8) (limit : Int) (k f t : Int) (g : Nat) (p : List UInt8) (e0 : Nat) (hb : Sl w w.heap.size A (bv b)) (h0 : n = b.length) (hc : n ≤ c) (hm : c ≤ maxLen) (h : readF b limit = (⟨k, g, f, t, p⟩, e0)) :
    Calls Try.prog 51 #[.slice A n c, .int .i64 limit] w (ReadLit w k f t g p e0) := by
  have := RRead_any w A n c b limit hb h0 hc hm
  rw [h] at this
  exact this
theorem RCut_lit (w : World) (A : Option Addr) (n c : Nat) (b : List UInt8) (limit : Int) (r1 r2 : Nat) (hb : Sl w w.heap.size A (bv b)) (h0 : n = b.length) (hc : n ≤ c) (hm : c ≤ maxLen) (h : cutF b limit = (r1, r2)) :
    Calls Try.prog 52 #[.slice A n c, .int .i64 limit] w fun e w' => e = .returned (.tuple #[.int .i64 (r1 : Int), .int .i64 (r2 : Int)]) ∧ Below w.heap.size w w' := by
  have := RCut_any w A n c b limit hb h0 hc hm
  rw [h] at this
  exact this
def kB : List UInt8 := [78, 82, 1, 0, 0, 0, 7, 1, 2, 1, 9, 44, 252, 39, 205]
def kC : List UInt8 := [78, 82, 2, 0, 0, 0, 0, 0, 0, 0, 125, 120, 49, 232]
theorem k_put : putF ⟨1, 7, 1, 2, [9]⟩ 100 = (kB, 0) := by decide +kernel
theorem k_cut : cutF kB 100 = (15, 0) := by decide +kernel
theorem k_read : readF kB 100 = (⟨1, 7, 1, 2, [9]⟩, 0) := by decide +kernel
theorem k_put2 : putF ⟨1, 7, 1, 2, [9]⟩ 14 = ([], 23) := by decide +kernel
theorem k_put3 : putF ⟨2, 0, 0, 0, []⟩ 14 = (kC, 0) := by decide +kernel
set_option maxRecDepth 100000 in
set_option maxHeartbeats 3200000 in
theorem frKnown_any (w : World) : Calls Try.prog 26 #[] w fun e w' => e = .returned (.bool true) ∧ Below w.heap.size w w' := by
  have s0 : Sl (w.alloc (.cells #[.int .u8 9] 5)) (w.heap.size + 1) (some ⟨w.heap.size, 0, none⟩) (bv [9]) := Sl.new w 5 #[.int .u8 9] (0, 0)
  have b0 := balloc (Below.refl w.heap.size w) (.cells #[.int .u8 9] 5)
  have hz0 : (w.alloc (.cells #[.int .u8 9] 5)).heap.size = w.heap.size + 1 := by simp
  go_enter Try.func26, Try.ntmps26
  have bF := balloc (Below.refl _ (w.alloc (.cells #[.int .u8 9] 5))) (.cells #[.int .i64 1, .int .u32 7, .int .i64 1, .int .i64 2, .slice (some ⟨w.heap.size, 0, none⟩) 1 1] 47)
  have hF := At.new (w.alloc (.cells #[.int .u8 9] 5)) 47 #[.int .i64 1, .int .u32 7, .int .i64 1, .int .i64 2, .slice (some ⟨w.heap.size, 0, none⟩) 1 1]
  have s1 : Sl ((w.alloc (.cells #[.int .u8 9] 5)).alloc (.cells #[.int .i64 1, .int .u32 7, .int .i64 1, .int .i64 2, .slice (some ⟨w.heap.size, 0, none⟩) 1 1] 47)) _ (some ⟨w.heap.size, 0, none⟩) (bv [9]) := (s0.alloc _).more (show w.heap.size + 1 ≤ ((w.alloc (.cells #[.int .u8 9] 5)).alloc (.cells #[.int .i64 1, .int .u32 7, .int .i64 1, .int .i64 2, .slice (some ⟨w.heap.size, 0, none⟩) 1 1] 47)).heap.size by simp)
  have b1 := b0.trans (bF.mono b0.size)
  rw [hz0] at hF
  clear bF s0 b0 hz0
  have a0 := hF.c 0 rfl
  have a1 := hF.c 1 rfl
  have a2 := hF.c 2 rfl
  have a3 := hF.c 3 rfl
  have a4 := hF.c 4 rfl
  go_wp2_with fail
  generalize (w.alloc (.cells #[.int .u8 9] 5)).alloc (.cells #[.int .i64 1, .int .u32 7, .int .i64 1, .int .i64 2, .slice (some ⟨w.heap.size, 0, none⟩) 1 1] 47) = w1 at *
  refine (FPut_lit w1 1 1 2 7 [9] (some ⟨w.heap.size, 0, none⟩) 1 1 100 kB 0 s1 rfl (Nat.le_refl _) (by simp [maxLen]) (by simp) (by omega) k_put).mono ?_
  rintro e w2 ⟨A2, c2, rfl, sB, hc2, hm2, hb2⟩
  have hkl : kB.length = 15 := rfl
  rw [hkl] at hc2 ⊢
  clear hkl
  replace s1 := (s1.below hb2).more hb2.size
  replace hF := hF.below hb2
  have b2 := b1.trans (hb2.mono b1.size)
  clear a0 a1 a2 a3 a4 b1 hb2
  go_wp2_with fail
  refine (Cut_lit w2 A2 15 c2 kB 100 15 0 sB rfl hc2 hm2 k_cut).mono ?_
  rintro e w3 ⟨rfl, hb3⟩
  replace s1 := (s1.below hb3).more hb3.size
  replace sB := (sB.below hb3).more hb3.size
  replace hF := hF.below hb3
  have b3 := b2.trans (hb3.mono b2.size)
  clear b2 hb3
  go_wp2_with fail
  refine (FRead_lit w3 A2 15 c2 kB 100 1 1 2 7 [9] 0 sB rfl hc2 hm2 k_read).mono ?_
  rintro e w4 ⟨A4, c4, rfl, s4, hc4, hm4, hb4⟩
  have bG := balloc (Below.refl w4.heap.size w4) (.cells #[.int .i64 1, .int .u32 7, .int .i64 1, .int .i64 2, .slice A4 1 c4] 47)
  have hG := At.new w4 47 #[.int .i64 1, .int .u32 7, .int .i64 1, .int .i64 2, .slice A4 1 c4]
  replace s1 := (((s1.below hb4).more hb4.size).below bG).more bG.size
  replace sB := (((sB.below hb4).more hb4.size).below bG).more bG.size
  replace s4 := (s4.below bG).more bG.size
  replace hF := (hF.below hb4).below bG
  have b4' := b3.trans (hb4.mono b3.size)
  have b4 := b4'.trans (bG.mono b4'.size)
  clear b3 hb4 bG b4'
  have a0 := hF.c 0 rfl
  have a1 := hF.c 1 rfl
  have a2 := hF.c 2 rfl
  have a3 := hF.c 3 rfl
  have a4 := hF.c 4 rfl
  go_wp2_with fail
  simp only [List.length_cons, List.length_nil, Nat.zero_add] at hc4 ⊢
  generalize w4.alloc (.cells #[.int .i64 1, .int .u32 7, .int .i64 1, .int .i64 2, .slice A4 1 c4] 47) = w5 at *
  generalize w4.heap.size = gG at *
  refine (FPut_lit w5 1 1 2 7 [9] (some ⟨w.heap.size, 0, none⟩) 1 1 14 [] 23 s1 rfl (Nat.le_refl _) (by simp [maxLen]) (by simp) (by omega) k_put2).mono ?_
  rintro e w6 ⟨A6, c6, rfl, _, _, _, hb6⟩
  replace s1 := (s1.below hb6).more hb6.size
  replace sB := (sB.below hb6).more hb6.size
  replace s4 := (s4.below hb6).more hb6.size
  replace hF := hF.below hb6
  replace hG := hG.below hb6
  have b6 := b4.trans (hb6.mono b4.size)
  clear a0 a1 a2 a3 a4 b4 hb6
  go_wp2_with fail
  refine (FPut_lit w6 2 0 0 0 [] none 0 0 14 kC 0 Sl.nil rfl (Nat.le_refl _) (by simp [maxLen]) (by simp) (by omega) k_put3).mono ?_
  rintro e w7 ⟨A7, c7, rfl, _, _, _, hb7⟩
  have hkl : kC.length = 14 := rfl
  rw [hkl]
  clear hkl
  replace s1 := (s1.below hb7).more hb7.size
  replace sB := (sB.below hb7).more hb7.size
  replace s4 := (s4.below hb7).more hb7.size
  replace hF := hF.below hb7
  replace hG := hG.below hb7
  have b7 := b6.trans (hb7.mono b6.size)
  clear b6 hb7
  have a0 := hF.c 0 rfl
  have a1 := hF.c 1 rfl
  have a2 := hF.c 2 rfl
  have a3 := hF.c 3 rfl
  have a4 := hF.c 4 rfl
  have d0 := hG.c 0 rfl
  have d1 := hG.c 1 rfl
  have d2 := hG.c 2 rfl
  have d3 := hG.c 3 rfl
  have d4 := hG.c 4 rfl
  go_wp2_with fail
  refine (Same_eq w7 1 1 2 7 [9] 1 1 c4 1 A4 (some ⟨w.heap.size, 0, none⟩) s4 s1 rfl rfl).mono ?_
  rintro e w8 ⟨rfl, hb8⟩
  have s8 := (sB.below hb8).more hb8.size
  have b8 := b7.trans (hb8.mono b7.size)
  have s11 : Sl w8 w8.heap.size A2 (bv [78, 82, 1, 0, 0, 0, 7, 1, 2, 1, 9]) := s8.tk 11
  have k11 := conv s11 11 c2 rfl
  have hc11 : 11 ≤ c2 := by omega
  clear a0 a1 a2 a3 a4 d0 d1 d2 d3 d4 s11 s8 sB s4 s1
  go_wp2_with fail
  go_ret
  exact ⟨rfl, b8⟩
end Go.Proofs.Ytkgmbpbbgkjidaa

