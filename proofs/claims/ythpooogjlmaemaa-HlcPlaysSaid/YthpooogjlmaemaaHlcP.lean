/- Clocks: an act played on both. -/
import Derived.Test.YthpooogjlmaemaaHlcDW
import Derived.Test.YthpooogjlmaemaaRegS
import Derived.Laws.BitsAllLaws
namespace Go.Proofs.Ythpooogjlmaemaa
open Go.RowKit

theorem i64_and2' (n : Int) : bits .and .i64 n 3 = n % 4 := by
  have h127 : (BitVec.ofInt 64 3).toNat = 2 ^ 2 - 1 := by decide
  have key : (BitVec.ofInt 64 n &&& BitVec.ofInt 64 3).toNat = (n % ((2 ^ 64 : Nat) : Int)).toNat % 2 ^ 2 := by
    rw [BitVec.toNat_and, BitVec.toNat_ofInt, h127, Nat.and_two_pow_sub_one_eq_mod]
  show IntKind.i64.wrap ((BitVec.ofInt 64 n &&& BitVec.ofInt 64 3).toNat : Nat) = n % 4
  rw [key, IntKind.wrap_i64]
  omega
theorem i64_and4' (n : Int) : bits .and .i64 n 15 = n % 16 := by
  have h127 : (BitVec.ofInt 64 15).toNat = 2 ^ 4 - 1 := by decide
  have key : (BitVec.ofInt 64 n &&& BitVec.ofInt 64 15).toNat = (n % ((2 ^ 64 : Nat) : Int)).toNat % 2 ^ 4 := by
    rw [BitVec.toNat_and, BitVec.toNat_ofInt, h127, Nat.and_two_pow_sub_one_eq_mod]
  show IntKind.i64.wrap ((BitVec.ofInt 64 n &&& BitVec.ofInt 64 15).toNat : Nat) = n % 16
  rw [key, IntKind.wrap_i64]
  omega
theorem i64_and5' (n : Int) : bits .and .i64 n 31 = n % 32 := by
  have h127 : (BitVec.ofInt 64 31).toNat = 2 ^ 5 - 1 := by decide
  have key : (BitVec.ofInt 64 n &&& BitVec.ofInt 64 31).toNat = (n % ((2 ^ 64 : Nat) : Int)).toNat % 2 ^ 5 := by
    rw [BitVec.toNat_and, BitVec.toNat_ofInt, h127, Nat.and_two_pow_sub_one_eq_mod]
  show IntKind.i64.wrap ((BitVec.ofInt 64 n &&& BitVec.ofInt 64 31).toNat : Nat) = n % 32
  rw [key, IntKind.wrap_i64]
  omega
theorem i64_and6' (n : Int) : bits .and .i64 n 63 = n % 64 := by
  have h127 : (BitVec.ofInt 64 63).toNat = 2 ^ 6 - 1 := by decide
  have key : (BitVec.ofInt 64 n &&& BitVec.ofInt 64 63).toNat = (n % ((2 ^ 64 : Nat) : Int)).toNat % 2 ^ 6 := by
    rw [BitVec.toNat_and, BitVec.toNat_ofInt, h127, Nat.and_two_pow_sub_one_eq_mod]
  show IntKind.i64.wrap ((BitVec.ofInt 64 n &&& BitVec.ofInt 64 63).toNat : Nat) = n % 64
  rw [key, IntKind.wrap_i64]
  omega
/-- something that is done with a clock -/
structure Act5 where
  k : Nat
  now : Int
  s : S3
def Act5.ok (a : Act5) : Prop := a.k < 256 ∧ i64ok a.now ∧ a.s.ok
def Act5.v (a : Act5) : Value := .agg #[.int .u8 (a.k : Int), .int .i64 a.now, .int .i64 a.s.p, .int .i64 a.s.l, .int .i64 a.s.r]
def Act5.cells (a : Act5) : List Value := [.int .u8 (a.k : Int), .int .i64 a.now, .int .i64 a.s.p, .int .i64 a.s.l, .int .i64 a.s.r]
def nearA (a : Act5) : Act5 := ⟨a.k, a.now % 16, ⟨a.s.p % 32, a.s.l % 4, a.s.r % 64⟩⟩
set_option maxRecDepth 100000 in
set_option maxHeartbeats 1600000 in
theorem near_any (w : World) (a : Act5) : Calls Try.prog 31 #[a.v] w fun e w' => e = .returned (nearA a).v ∧ Below w.heap.size w w' := by
  obtain ⟨k, now, p, l, r⟩ := a
  unfold nearA Act5.v
  simp only
  have h1 := i64_and4' now
  have h2 := i64_and5' p
  have h3 := i64_and2' l
  have h4 := i64_and6' r
  generalize now % 16 = n1 at *
  generalize p % 32 = n2 at *
  generalize l % 4 = n3 at *
  generalize r % 64 = n4 at *
  have hA := (At.new w 55 #[.int .u8 (k : Int), .int .i64 now, .int .i64 p, .int .i64 l, .int .i64 r]).alloc (.cells #[.int .u8 0, .int .i64 0, .int .i64 0, .int .i64 0, .int .i64 0] 55)
  have a0 := hA.c 0 rfl
  have a1 := hA.c 1 rfl
  have a2 := hA.c 2 rfl
  have a3 := hA.c 3 rfl
  have a4 := hA.c 4 rfl
  go_enter Try.func31, Try.ntmps31
  go_wp2_with fail
  exact bodyPost_ret (v := .agg #[.int .u8 (k : Int), .int .i64 n1, .int .i64 n2, .int .i64 n3, .int .i64 n4]) (by simp [results, Try.results31, go_sem]) rfl ⟨rfl, (by repeat (first | exact Below.refl _ _ | refine Below.drew ?_ | refine Below.alloc ?_ (by simp) _ | refine Below.setCell ?_ (by simp) _))⟩
/-- nothing that was there but the two blocks is another one -/
def Both (g gd : Nat) (w w' : World) : Prop := w.heap.size ≤ w'.heap.size ∧ (∀ k, k < w.heap.size → k ≠ g → k ≠ gd → w'.heap[k]? = w.heap[k]?) ∧ ∀ B, B ≤ g → B ≤ gd → B ≤ w.heap.size → Below B w w'
section
variable {w w' w'' : World} {g gd gt : Nat} {vs : List Value}
theorem Both.of_below (h : Below w.heap.size w w') : Both g gd w w' := ⟨h.size, fun k hk _ _ => h.block k hk, fun _ _ _ hB => h.mono hB⟩
theorem Both.of_g (h : w.grownBy w' (some g)) : Both g gd w w' := ⟨h.size, fun k hk h1 _ => h.block k hk (fun e => h1 (by cases e; rfl)), fun B h1 _ hB => below_of_grown h (fun k e => by cases e; exact h1) hB⟩
theorem Both.of_gd (h : w.grownBy w' (some gd)) : Both g gd w w' := ⟨h.size, fun k hk _ h1 => h.block k hk (fun e => h1 (by cases e; rfl)), fun B _ h1 hB => below_of_grown h (fun k e => by cases e; exact h1) hB⟩
theorem Both.trans (h : Both g gd w w') (h' : Both g gd w' w'') : Both g gd w w'' :=
  ⟨Nat.le_trans h.1 h'.1, fun k hk h1 h2 => (h'.2.1 k (Nat.lt_of_lt_of_le hk h.1) h1 h2).trans (h.2.1 k hk h1 h2), fun B h1 h2 h3 => (h.2.2 B h1 h2 h3).trans (h'.2.2 B h1 h2 (Nat.le_trans h3 h.1))⟩
theorem At.both (h : At w gt vs) (hb : Both g gd w w') (h1 : gt ≠ g) (h2 : gt ≠ gd) : At w' gt vs := by
  have e := hb.2.1 gt h.1 h1 h2
  exact ⟨Nat.lt_of_lt_of_le h.1 hb.1, fun i v hv => ⟨(World.cell?_of_block (w := w) e).trans (h.c i hv), (World.frozen?_of_block (w := w) e).trans (h.f i hv)⟩⟩
theorem StandsC.grown {c : Clk} (h : StandsC w g c) (hg : w.grownBy w' (some gd)) (hne : g ≠ gd) : StandsC w' g c := by
  have hb := hg.block g h.1.1 (fun e => hne (by injection e))
  exact ⟨h.1.grown hg hne, (World.cell?_of_block (w := w) hb).trans h.2.1, (World.cell?_of_block (w := w) hb).trans h.2.2⟩
end
theorem cells_of_At {w : World} {g : Nat} {c : Clk} (h : StandsD w g c) : w.cell? ⟨g, 2, none⟩ = some (.int .i64 c.s.p) ∧ w.cell? ⟨g, 3, none⟩ = some (.int .i64 c.s.l) ∧ w.cell? ⟨g, 4, none⟩ = some (.int .i64 c.s.r) := ⟨h.c 2 rfl, h.c 3 rfl, h.c 4 rfl⟩
def PlayPost (w : World) (g gd : Nat) (e : Ending) (w' : World) : Prop := e = .returned (.bool true) ∧ ∃ c' : Clk, c'.ok ∧ StandsC w' g c' ∧ StandsD w' gd c' ∧ Both g gd w w'
set_option maxRecDepth 100000 in
set_option maxHeartbeats 3200000 in
theorem play_0 (w : World) (g gd : Nat) (c : Clk) (a : Act5) (hk : a.k % 6 = 0) (h : StandsC w g c) (hd : StandsD w gd c) (hne : g ≠ gd) (hc : c.ok) :
    Calls Try.prog 30 #[.pointer (some ⟨g, 0, none⟩), .pointer (some ⟨gd, 0, none⟩), a.v] w (PlayPost w g gd) := by
  obtain ⟨k, now, ap, al, ar⟩ := a
  unfold Act5.v
  simp only at hk ⊢
  have k6 : (k : Int) % 6 = 0 := by omega
  clear hk
  have hA := At.new w 55 #[.int .u8 (k : Int), .int .i64 now, .int .i64 ap, .int .i64 al, .int .i64 ar]
  have hw := h.alloc (.cells #[.int .u8 (k : Int), .int .i64 now, .int .i64 ap, .int .i64 al, .int .i64 ar] 55)
  have hdw := At.alloc hd (.cells #[.int .u8 (k : Int), .int .i64 now, .int .i64 ap, .int .i64 al, .int .i64 ar] 55)
  have b0 : Both g gd w (w.alloc (.cells #[.int .u8 (k : Int), .int .i64 now, .int .i64 ap, .int .i64 al, .int .i64 ar] 55)) := Both.of_below (balloc (Below.refl _ _) _)
  have hg1 : w.heap.size ≠ g := by have := h.1.1; omega
  have hg2 : w.heap.size ≠ gd := by have := hd.1; omega
  go_enter Try.func30, Try.ntmps30
  have a0 := hA.c 0 rfl
  have a1 := hA.c 1 rfl
  go_wp2_with fail
  generalize w.alloc (.cells #[.int .u8 (k : Int), .int .i64 now, .int .i64 ap, .int .i64 al, .int .i64 ar] 55) = w1 at *
  generalize w.heap.size = ga at *
  obtain ⟨y, hy⟩ : ∃ y, peekS c now = y := ⟨_, rfl⟩
  have hq1 := fun W h => Next_any W g c now h hc
  have hq2 := fun W h => NextD_any W gd c now h hc
  rw [hy] at hq1 hq2
  obtain ⟨⟨yp, yl, yr⟩, ye⟩ := y
  obtain ⟨c1, hc1⟩ : ∃ c1, nextC c now = c1 := ⟨_, rfl⟩
  have hok : c1.ok := by rw [← hc1]; exact nextC_ok hc now
  rw [hc1] at hq1 hq2
  simp only at hq1 hq2
  clear hy
  have HQ := Lib.hid (And.intro hq1 hq2)
  clear hq1 hq2
  refine (HQ.out.1 w1 hw).mono ?_
  rintro e w2 ⟨rfl, hs2, hg2w⟩
  have hA2 := hA.both (Both.of_g hg2w) hg1 hg2
  have hd2 : StandsD w2 gd c := At.grown hdw hg2w (fun e => hne (by injection e))
  have bb2 := b0.trans (Both.of_g hg2w)
  clear a0 a1
  have hA3 := hA2.alloc (.cells #[.int .i64 yp, .int .i64 yl, .int .i64 yr] 23)
  have a1 := hA3.c 1 rfl
  have hd3 : StandsD _ gd c := At.alloc hd2 (.cells #[.int .i64 yp, .int .i64 yl, .int .i64 yr] 23)
  have hs3 := hs2.alloc (.cells #[.int .i64 yp, .int .i64 yl, .int .i64 yr] 23)
  have v3 := Stands.new w2 23 ⟨yp, yl, yr⟩
  have bb3 := bb2.trans (Both.of_below (balloc (Below.refl _ _) (.cells #[.int .i64 yp, .int .i64 yl, .int .i64 yr] 23)))
  have hgb : w2.heap.size ≠ gd := by have := hd2.1; omega
  unfold S3.v
  go_wp2_with fail
  generalize w2.alloc (.cells #[.int .i64 yp, .int .i64 yl, .int .i64 yr] 23) = w3 at *
  generalize w2.heap.size = gb at *
  refine (HQ.out.2 w3 hd3).mono ?_
  rintro e w4 ⟨rfl, hd4, hg4⟩
  have hs4 := hs3.grown hg4 hne
  have v4 := v3.grown hg4 hgb
  have bb4 := bb3.trans (Both.of_gd hg4)
  have v5 := v4.alloc (.cells #[.int .i64 yp, .int .i64 yl, .int .i64 yr] 23)
  have hst := hs4.alloc (.cells #[.int .i64 yp, .int .i64 yl, .int .i64 yr] 23)
  have hsd := At.alloc hd4 (.cells #[.int .i64 yp, .int .i64 yl, .int .i64 yr] 23)
  have u5 := Stands.new w4 23 ⟨yp, yl, yr⟩
  have bb := bb4.trans (Both.of_below (balloc (Below.refl _ _) (.cells #[.int .i64 yp, .int .i64 yl, .int .i64 yr] 23)))
  obtain ⟨_, x0, x1, x2, _, _, _⟩ := v5
  obtain ⟨_, z0, z1, z2, _, _, _⟩ := u5
  simp only at x0 x1 x2 z0 z1 z2
  unfold S3.v
  go_wp2_with fail
  generalize w4.alloc (.cells #[.int .i64 yp, .int .i64 yl, .int .i64 yr] 23) = w5 at *
  obtain ⟨⟨cp, cl, cr⟩, cm, cd⟩ := c1
  have e2 := cellB (hsd.c 2 rfl)
  have e3 := cellB (hsd.c 3 rfl)
  have e4 := cellB (hsd.c 4 rfl)
  simp only at e2 e3 e4
  refine bstart (by kernel_rfl) ?_
  refine btake 0 (oi := _) (v := ?_) (by simp only [List.getElem?_toArray, List.getElem?_cons_succ, List.getElem?_cons_zero]; rfl) (by kernel_rfl) (by exact fun _ _ _ h => h) (by first | assumption | exact KB.refl _) (.inl ⟨by rfl, fun W hW => ?_⟩) ?_; rotate_left
  · (go_simp; first | done | with_reducible rfl)
  try simp only [Act.put, List.setIfInBounds_toArray, List.set_cons_zero, List.set_cons_succ]
  refine btake 2 (oi := _) (v := ?_) (by simp only [List.getElem?_toArray, List.getElem?_cons_succ, List.getElem?_cons_zero]; rfl) (by kernel_rfl) (by exact fun _ _ _ h => h) (by first | assumption | exact KB.refl _) (.inl ⟨by rfl, fun W hW => ?_⟩) ?_; rotate_left
  · (go_simp; first | done | with_reducible rfl)
  try simp only [Act.put, List.setIfInBounds_toArray, List.set_cons_zero, List.set_cons_succ]
  refine btake 3 (oi := _) (v := ?_) (by simp only [List.getElem?_toArray, List.getElem?_cons_succ, List.getElem?_cons_zero]; rfl) (by kernel_rfl) (by exact fun _ _ _ h => h) (by first | assumption | exact KB.refl _) (.inl ⟨by rfl, fun W hW => ?_⟩) ?_; rotate_left
  · (go_simp; first | done | with_reducible rfl)
  try simp only [Act.put, List.setIfInBounds_toArray, List.set_cons_zero, List.set_cons_succ]
  refine btake 4 (oi := _) (v := ?_) (by simp only [List.getElem?_toArray, List.getElem?_cons_succ, List.getElem?_cons_zero]; rfl) (by kernel_rfl) (by exact fun _ _ _ h => h) (by first | assumption | exact KB.refl _) (.inl ⟨by rfl, fun W hW => ?_⟩) ?_; rotate_left
  · (go_simp; first | done | with_reducible rfl)
  try simp only [Act.put, List.setIfInBounds_toArray, List.set_cons_zero, List.set_cons_succ]
  refine btake 5 (oi := _) (v := ?_) (by simp only [List.getElem?_toArray, List.getElem?_cons_succ, List.getElem?_cons_zero]; rfl) (by kernel_rfl) (by exact fun _ _ _ h => h) (by first | assumption | exact KB.refl _) (.inl ⟨by rfl, fun W hW => ?_⟩) ?_; rotate_left
  · (go_simp; first | done | with_reducible rfl)
  try simp only [Act.put, List.setIfInBounds_toArray, List.set_cons_zero, List.set_cons_succ]
  -- 1: (*newsreel/hlc.Clock).Last
  refine bop 1 (o := _) (by simp only [List.getElem?_toArray, List.getElem?_cons_succ, List.getElem?_cons_zero]; rfl) (by kernel_rfl) (by first | assumption | exact KB.refl _) (by rfl) (fun K hK => ?_)
  go_simp
  refine (Last_any _ g _ (hst.below (Below.refl _ _).drew)).mono ?_
  rintro e w9 ⟨rfl, hb9⟩
  have hb9' : Below w5.heap.size w5 w9 := (Below.refl _ w5).drew.trans hb9
  have hkb := KB.of hb9'
  unfold S3.v
  refine hK.out _ _ hkb ?_; clear hK K
  try simp only [Act.put, List.setIfInBounds_toArray, List.set_cons_zero, List.set_cons_succ]
  refine btake 6 (oi := _) (v := ?_) (by simp only [List.getElem?_toArray, List.getElem?_cons_succ, List.getElem?_cons_zero]; rfl) (by kernel_rfl) (by exact fun _ _ _ h => h) (by first | assumption | exact KB.refl _) (.inl ⟨by rfl, fun W hW => ?_⟩) ?_; rotate_left
  · (go_simp; first | done | with_reducible rfl)
  try simp only [Act.put, List.setIfInBounds_toArray, List.set_cons_zero, List.set_cons_succ]
  refine btake 7 (oi := _) (v := ?_) (by simp only [List.getElem?_toArray, List.getElem?_cons_succ, List.getElem?_cons_zero]; rfl) (by kernel_rfl) (by exact fun _ _ _ h => h) (by first | assumption | exact KB.refl _) (.inl ⟨by rfl, fun W hW => ?_⟩) ?_; rotate_left
  · (go_simp; first | done | with_reducible rfl)
  try simp only [Act.put, List.setIfInBounds_toArray, List.set_cons_zero, List.set_cons_succ]
  refine bdone (by kernel_rfl) ?_
  go_wp2_with fail
  go_ret
  exact ⟨rfl, _, hok, hst.below hb9', hsd.below hb9', bb.trans (Both.of_below hb9')⟩
set_option maxRecDepth 100000 in
set_option maxHeartbeats 3200000 in
theorem play_1 (w : World) (g gd : Nat) (c : Clk) (a : Act5) (hk : a.k % 6 = 1) (h : StandsC w g c) (hd : StandsD w gd c) (hne : g ≠ gd) (hc : c.ok) :
    Calls Try.prog 30 #[.pointer (some ⟨g, 0, none⟩), .pointer (some ⟨gd, 0, none⟩), a.v] w (PlayPost w g gd) := by
  obtain ⟨k, now, ap, al, ar⟩ := a
  unfold Act5.v
  simp only at hk ⊢
  have k6 : (k : Int) % 6 = 1 := by omega
  clear hk
  have hA := At.new w 55 #[.int .u8 (k : Int), .int .i64 now, .int .i64 ap, .int .i64 al, .int .i64 ar]
  have hw := h.alloc (.cells #[.int .u8 (k : Int), .int .i64 now, .int .i64 ap, .int .i64 al, .int .i64 ar] 55)
  have hdw := At.alloc hd (.cells #[.int .u8 (k : Int), .int .i64 now, .int .i64 ap, .int .i64 al, .int .i64 ar] 55)
  have b0 : Both g gd w (w.alloc (.cells #[.int .u8 (k : Int), .int .i64 now, .int .i64 ap, .int .i64 al, .int .i64 ar] 55)) := Both.of_below (balloc (Below.refl _ _) _)
  have hg1 : w.heap.size ≠ g := by have := h.1.1; omega
  have hg2 : w.heap.size ≠ gd := by have := hd.1; omega
  go_enter Try.func30, Try.ntmps30
  have a0 := hA.c 0 rfl
  have a1 := hA.c 1 rfl
  go_wp2_with fail
  generalize w.alloc (.cells #[.int .u8 (k : Int), .int .i64 now, .int .i64 ap, .int .i64 al, .int .i64 ar] 55) = w1 at *
  generalize w.heap.size = ga at *
  obtain ⟨y, hy⟩ : ∃ y, peekS c now = y := ⟨_, rfl⟩
  have hq1 := fun W h => Next_any W g c now h hc
  have hq2 := fun W h => NextD_any W gd c now h hc
  rw [hy] at hq1 hq2
  obtain ⟨⟨yp, yl, yr⟩, ye⟩ := y
  obtain ⟨c1, hc1⟩ : ∃ c1, nextC c now = c1 := ⟨_, rfl⟩
  have hok : c1.ok := by rw [← hc1]; exact nextC_ok hc now
  rw [hc1] at hq1 hq2
  simp only at hq1 hq2
  clear hy
  have HQ := Lib.hid (And.intro hq1 hq2)
  clear hq1 hq2
  refine (HQ.out.1 w1 hw).mono ?_
  rintro e w2 ⟨rfl, hs2, hg2w⟩
  have hA2 := hA.both (Both.of_g hg2w) hg1 hg2
  have hd2 : StandsD w2 gd c := At.grown hdw hg2w (fun e => hne (by injection e))
  have bb2 := b0.trans (Both.of_g hg2w)
  clear a0 a1
  have hA3 := hA2.alloc (.cells #[.int .i64 yp, .int .i64 yl, .int .i64 yr] 23)
  have a1 := hA3.c 1 rfl
  have hd3 : StandsD _ gd c := At.alloc hd2 (.cells #[.int .i64 yp, .int .i64 yl, .int .i64 yr] 23)
  have hs3 := hs2.alloc (.cells #[.int .i64 yp, .int .i64 yl, .int .i64 yr] 23)
  have v3 := Stands.new w2 23 ⟨yp, yl, yr⟩
  have bb3 := bb2.trans (Both.of_below (balloc (Below.refl _ _) (.cells #[.int .i64 yp, .int .i64 yl, .int .i64 yr] 23)))
  have hgb : w2.heap.size ≠ gd := by have := hd2.1; omega
  unfold S3.v
  go_wp2_with fail
  generalize w2.alloc (.cells #[.int .i64 yp, .int .i64 yl, .int .i64 yr] 23) = w3 at *
  generalize w2.heap.size = gb at *
  refine (HQ.out.2 w3 hd3).mono ?_
  rintro e w4 ⟨rfl, hd4, hg4⟩
  have hs4 := hs3.grown hg4 hne
  have v4 := v3.grown hg4 hgb
  have bb4 := bb3.trans (Both.of_gd hg4)
  have v5 := v4.alloc (.cells #[.int .i64 yp, .int .i64 yl, .int .i64 yr] 23)
  have hst := hs4.alloc (.cells #[.int .i64 yp, .int .i64 yl, .int .i64 yr] 23)
  have hsd := At.alloc hd4 (.cells #[.int .i64 yp, .int .i64 yl, .int .i64 yr] 23)
  have u5 := Stands.new w4 23 ⟨yp, yl, yr⟩
  have bb := bb4.trans (Both.of_below (balloc (Below.refl _ _) (.cells #[.int .i64 yp, .int .i64 yl, .int .i64 yr] 23)))
  obtain ⟨_, x0, x1, x2, _, _, _⟩ := v5
  obtain ⟨_, z0, z1, z2, _, _, _⟩ := u5
  simp only at x0 x1 x2 z0 z1 z2
  unfold S3.v
  go_wp2_with fail
  generalize w4.alloc (.cells #[.int .i64 yp, .int .i64 yl, .int .i64 yr] 23) = w5 at *
  obtain ⟨⟨cp, cl, cr⟩, cm, cd⟩ := c1
  have e2 := cellB (hsd.c 2 rfl)
  have e3 := cellB (hsd.c 3 rfl)
  have e4 := cellB (hsd.c 4 rfl)
  simp only at e2 e3 e4
  refine bstart (by kernel_rfl) ?_
  refine btake 0 (oi := _) (v := ?_) (by simp only [List.getElem?_toArray, List.getElem?_cons_succ, List.getElem?_cons_zero]; rfl) (by kernel_rfl) (by exact fun _ _ _ h => h) (by first | assumption | exact KB.refl _) (.inl ⟨by rfl, fun W hW => ?_⟩) ?_; rotate_left
  · (go_simp; first | done | with_reducible rfl)
  try simp only [Act.put, List.setIfInBounds_toArray, List.set_cons_zero, List.set_cons_succ]
  refine btake 2 (oi := _) (v := ?_) (by simp only [List.getElem?_toArray, List.getElem?_cons_succ, List.getElem?_cons_zero]; rfl) (by kernel_rfl) (by exact fun _ _ _ h => h) (by first | assumption | exact KB.refl _) (.inl ⟨by rfl, fun W hW => ?_⟩) ?_; rotate_left
  · (go_simp; first | done | with_reducible rfl)
  try simp only [Act.put, List.setIfInBounds_toArray, List.set_cons_zero, List.set_cons_succ]
  refine btake 3 (oi := _) (v := ?_) (by simp only [List.getElem?_toArray, List.getElem?_cons_succ, List.getElem?_cons_zero]; rfl) (by kernel_rfl) (by exact fun _ _ _ h => h) (by first | assumption | exact KB.refl _) (.inl ⟨by rfl, fun W hW => ?_⟩) ?_; rotate_left
  · (go_simp; first | done | with_reducible rfl)
  try simp only [Act.put, List.setIfInBounds_toArray, List.set_cons_zero, List.set_cons_succ]
  refine btake 4 (oi := _) (v := ?_) (by simp only [List.getElem?_toArray, List.getElem?_cons_succ, List.getElem?_cons_zero]; rfl) (by kernel_rfl) (by exact fun _ _ _ h => h) (by first | assumption | exact KB.refl _) (.inl ⟨by rfl, fun W hW => ?_⟩) ?_; rotate_left
  · (go_simp; first | done | with_reducible rfl)
  try simp only [Act.put, List.setIfInBounds_toArray, List.set_cons_zero, List.set_cons_succ]
  refine btake 5 (oi := _) (v := ?_) (by simp only [List.getElem?_toArray, List.getElem?_cons_succ, List.getElem?_cons_zero]; rfl) (by kernel_rfl) (by exact fun _ _ _ h => h) (by first | assumption | exact KB.refl _) (.inl ⟨by rfl, fun W hW => ?_⟩) ?_; rotate_left
  · (go_simp; first | done | with_reducible rfl)
  try simp only [Act.put, List.setIfInBounds_toArray, List.set_cons_zero, List.set_cons_succ]
  -- 1: (*newsreel/hlc.Clock).Last
  refine bop 1 (o := _) (by simp only [List.getElem?_toArray, List.getElem?_cons_succ, List.getElem?_cons_zero]; rfl) (by kernel_rfl) (by first | assumption | exact KB.refl _) (by rfl) (fun K hK => ?_)
  go_simp
  refine (Last_any _ g _ (hst.below (Below.refl _ _).drew)).mono ?_
  rintro e w9 ⟨rfl, hb9⟩
  have hb9' : Below w5.heap.size w5 w9 := (Below.refl _ w5).drew.trans hb9
  have hkb := KB.of hb9'
  unfold S3.v
  refine hK.out _ _ hkb ?_; clear hK K
  try simp only [Act.put, List.setIfInBounds_toArray, List.set_cons_zero, List.set_cons_succ]
  refine btake 6 (oi := _) (v := ?_) (by simp only [List.getElem?_toArray, List.getElem?_cons_succ, List.getElem?_cons_zero]; rfl) (by kernel_rfl) (by exact fun _ _ _ h => h) (by first | assumption | exact KB.refl _) (.inl ⟨by rfl, fun W hW => ?_⟩) ?_; rotate_left
  · (go_simp; first | done | with_reducible rfl)
  try simp only [Act.put, List.setIfInBounds_toArray, List.set_cons_zero, List.set_cons_succ]
  refine btake 7 (oi := _) (v := ?_) (by simp only [List.getElem?_toArray, List.getElem?_cons_succ, List.getElem?_cons_zero]; rfl) (by kernel_rfl) (by exact fun _ _ _ h => h) (by first | assumption | exact KB.refl _) (.inl ⟨by rfl, fun W hW => ?_⟩) ?_; rotate_left
  · (go_simp; first | done | with_reducible rfl)
  try simp only [Act.put, List.setIfInBounds_toArray, List.set_cons_zero, List.set_cons_succ]
  refine bdone (by kernel_rfl) ?_
  go_wp2_with fail
  go_ret
  exact ⟨rfl, _, hok, hst.below hb9', hsd.below hb9', bb.trans (Both.of_below hb9')⟩
set_option maxRecDepth 100000 in
set_option maxHeartbeats 3200000 in
theorem play_2 (w : World) (g gd : Nat) (c : Clk) (a : Act5) (hk : a.k % 6 = 2) (h : StandsC w g c) (hd : StandsD w gd c) (hne : g ≠ gd) (hc : c.ok) :
    Calls Try.prog 30 #[.pointer (some ⟨g, 0, none⟩), .pointer (some ⟨gd, 0, none⟩), a.v] w (PlayPost w g gd) := by
  obtain ⟨k, now, ap, al, ar⟩ := a
  unfold Act5.v
  simp only at hk ⊢
  have k6 : (k : Int) % 6 = 2 := by omega
  clear hk
  have hA := At.new w 55 #[.int .u8 (k : Int), .int .i64 now, .int .i64 ap, .int .i64 al, .int .i64 ar]
  have hw := h.alloc (.cells #[.int .u8 (k : Int), .int .i64 now, .int .i64 ap, .int .i64 al, .int .i64 ar] 55)
  have hdw := At.alloc hd (.cells #[.int .u8 (k : Int), .int .i64 now, .int .i64 ap, .int .i64 al, .int .i64 ar] 55)
  have b0 : Both g gd w (w.alloc (.cells #[.int .u8 (k : Int), .int .i64 now, .int .i64 ap, .int .i64 al, .int .i64 ar] 55)) := Both.of_below (balloc (Below.refl _ _) _)
  have hg1 : w.heap.size ≠ g := by have := h.1.1; omega
  have hg2 : w.heap.size ≠ gd := by have := hd.1; omega
  go_enter Try.func30, Try.ntmps30
  have a0 := hA.c 0 rfl
  have a1 := hA.c 1 rfl
  go_wp2_with fail
  generalize w.alloc (.cells #[.int .u8 (k : Int), .int .i64 now, .int .i64 ap, .int .i64 al, .int .i64 ar] 55) = w1 at *
  generalize w.heap.size = ga at *
  obtain ⟨y, hy⟩ : ∃ y, peekS c now = y := ⟨_, rfl⟩
  have hq1 := fun W h => Peek_any W g c now h hc
  have hq2 := fun W h => PeekD_any W gd c now h hc
  rw [hy] at hq1 hq2
  obtain ⟨⟨yp, yl, yr⟩, ye⟩ := y
  have hok := hc
  simp only at hq1 hq2
  clear hy
  have HQ := Lib.hid (And.intro hq1 hq2)
  clear hq1 hq2
  refine (HQ.out.1 w1 hw).mono ?_
  rintro e w2 ⟨rfl, hb2⟩
  have hs2 := hw.below hb2
  have hA2 := hA.both (Both.of_below hb2) hg1 hg2
  have hd2 : StandsD w2 gd c := At.below hdw hb2
  have bb2 := b0.trans (Both.of_below hb2)
  clear a0 a1
  have hA3 := hA2.alloc (.cells #[.int .i64 yp, .int .i64 yl, .int .i64 yr] 23)
  have a1 := hA3.c 1 rfl
  have hd3 : StandsD _ gd c := At.alloc hd2 (.cells #[.int .i64 yp, .int .i64 yl, .int .i64 yr] 23)
  have hs3 := hs2.alloc (.cells #[.int .i64 yp, .int .i64 yl, .int .i64 yr] 23)
  have v3 := Stands.new w2 23 ⟨yp, yl, yr⟩
  have bb3 := bb2.trans (Both.of_below (balloc (Below.refl _ _) (.cells #[.int .i64 yp, .int .i64 yl, .int .i64 yr] 23)))
  have hgb : w2.heap.size ≠ gd := by have := hd2.1; omega
  unfold S3.v
  go_wp2_with fail
  generalize w2.alloc (.cells #[.int .i64 yp, .int .i64 yl, .int .i64 yr] 23) = w3 at *
  generalize w2.heap.size = gb at *
  refine (HQ.out.2 w3 hd3).mono ?_
  rintro e w4 ⟨rfl, hb4⟩
  have hd4 : StandsD w4 gd c := At.below hd3 hb4
  have hs4 := hs3.below hb4
  have v4 := v3.below hb4
  have bb4 := bb3.trans (Both.of_below hb4)
  have v5 := v4.alloc (.cells #[.int .i64 yp, .int .i64 yl, .int .i64 yr] 23)
  have hst := hs4.alloc (.cells #[.int .i64 yp, .int .i64 yl, .int .i64 yr] 23)
  have hsd := At.alloc hd4 (.cells #[.int .i64 yp, .int .i64 yl, .int .i64 yr] 23)
  have u5 := Stands.new w4 23 ⟨yp, yl, yr⟩
  have bb := bb4.trans (Both.of_below (balloc (Below.refl _ _) (.cells #[.int .i64 yp, .int .i64 yl, .int .i64 yr] 23)))
  obtain ⟨_, x0, x1, x2, _, _, _⟩ := v5
  obtain ⟨_, z0, z1, z2, _, _, _⟩ := u5
  simp only at x0 x1 x2 z0 z1 z2
  unfold S3.v
  go_wp2_with fail
  generalize w4.alloc (.cells #[.int .i64 yp, .int .i64 yl, .int .i64 yr] 23) = w5 at *
  obtain ⟨⟨cp, cl, cr⟩, cm, cd⟩ := c
  have e2 := cellB (hsd.c 2 rfl)
  have e3 := cellB (hsd.c 3 rfl)
  have e4 := cellB (hsd.c 4 rfl)
  simp only at e2 e3 e4
  refine bstart (by kernel_rfl) ?_
  refine btake 0 (oi := _) (v := ?_) (by simp only [List.getElem?_toArray, List.getElem?_cons_succ, List.getElem?_cons_zero]; rfl) (by kernel_rfl) (by exact fun _ _ _ h => h) (by first | assumption | exact KB.refl _) (.inl ⟨by rfl, fun W hW => ?_⟩) ?_; rotate_left
  · (go_simp; first | done | with_reducible rfl)
  try simp only [Act.put, List.setIfInBounds_toArray, List.set_cons_zero, List.set_cons_succ]
  refine btake 2 (oi := _) (v := ?_) (by simp only [List.getElem?_toArray, List.getElem?_cons_succ, List.getElem?_cons_zero]; rfl) (by kernel_rfl) (by exact fun _ _ _ h => h) (by first | assumption | exact KB.refl _) (.inl ⟨by rfl, fun W hW => ?_⟩) ?_; rotate_left
  · (go_simp; first | done | with_reducible rfl)
  try simp only [Act.put, List.setIfInBounds_toArray, List.set_cons_zero, List.set_cons_succ]
  refine btake 3 (oi := _) (v := ?_) (by simp only [List.getElem?_toArray, List.getElem?_cons_succ, List.getElem?_cons_zero]; rfl) (by kernel_rfl) (by exact fun _ _ _ h => h) (by first | assumption | exact KB.refl _) (.inl ⟨by rfl, fun W hW => ?_⟩) ?_; rotate_left
  · (go_simp; first | done | with_reducible rfl)
  try simp only [Act.put, List.setIfInBounds_toArray, List.set_cons_zero, List.set_cons_succ]
  refine btake 4 (oi := _) (v := ?_) (by simp only [List.getElem?_toArray, List.getElem?_cons_succ, List.getElem?_cons_zero]; rfl) (by kernel_rfl) (by exact fun _ _ _ h => h) (by first | assumption | exact KB.refl _) (.inl ⟨by rfl, fun W hW => ?_⟩) ?_; rotate_left
  · (go_simp; first | done | with_reducible rfl)
  try simp only [Act.put, List.setIfInBounds_toArray, List.set_cons_zero, List.set_cons_succ]
  refine btake 5 (oi := _) (v := ?_) (by simp only [List.getElem?_toArray, List.getElem?_cons_succ, List.getElem?_cons_zero]; rfl) (by kernel_rfl) (by exact fun _ _ _ h => h) (by first | assumption | exact KB.refl _) (.inl ⟨by rfl, fun W hW => ?_⟩) ?_; rotate_left
  · (go_simp; first | done | with_reducible rfl)
  try simp only [Act.put, List.setIfInBounds_toArray, List.set_cons_zero, List.set_cons_succ]
  -- 1: (*newsreel/hlc.Clock).Last
  refine bop 1 (o := _) (by simp only [List.getElem?_toArray, List.getElem?_cons_succ, List.getElem?_cons_zero]; rfl) (by kernel_rfl) (by first | assumption | exact KB.refl _) (by rfl) (fun K hK => ?_)
  go_simp
  refine (Last_any _ g _ (hst.below (Below.refl _ _).drew)).mono ?_
  rintro e w9 ⟨rfl, hb9⟩
  have hb9' : Below w5.heap.size w5 w9 := (Below.refl _ w5).drew.trans hb9
  have hkb := KB.of hb9'
  unfold S3.v
  refine hK.out _ _ hkb ?_; clear hK K
  try simp only [Act.put, List.setIfInBounds_toArray, List.set_cons_zero, List.set_cons_succ]
  refine btake 6 (oi := _) (v := ?_) (by simp only [List.getElem?_toArray, List.getElem?_cons_succ, List.getElem?_cons_zero]; rfl) (by kernel_rfl) (by exact fun _ _ _ h => h) (by first | assumption | exact KB.refl _) (.inl ⟨by rfl, fun W hW => ?_⟩) ?_; rotate_left
  · (go_simp; first | done | with_reducible rfl)
  try simp only [Act.put, List.setIfInBounds_toArray, List.set_cons_zero, List.set_cons_succ]
  refine btake 7 (oi := _) (v := ?_) (by simp only [List.getElem?_toArray, List.getElem?_cons_succ, List.getElem?_cons_zero]; rfl) (by kernel_rfl) (by exact fun _ _ _ h => h) (by first | assumption | exact KB.refl _) (.inl ⟨by rfl, fun W hW => ?_⟩) ?_; rotate_left
  · (go_simp; first | done | with_reducible rfl)
  try simp only [Act.put, List.setIfInBounds_toArray, List.set_cons_zero, List.set_cons_succ]
  refine bdone (by kernel_rfl) ?_
  go_wp2_with fail
  go_ret
  exact ⟨rfl, _, hok, hst.below hb9', hsd.below hb9', bb.trans (Both.of_below hb9')⟩
set_option maxRecDepth 100000 in
set_option maxHeartbeats 3200000 in
theorem play_3 (w : World) (g gd : Nat) (c : Clk) (a : Act5) (hk : a.k % 6 = 3) (h : StandsC w g c) (hd : StandsD w gd c) (hne : g ≠ gd) (hc : c.ok) :
    Calls Try.prog 30 #[.pointer (some ⟨g, 0, none⟩), .pointer (some ⟨gd, 0, none⟩), a.v] w (PlayPost w g gd) := by
  obtain ⟨k, now, ap, al, ar⟩ := a
  unfold Act5.v
  simp only at hk ⊢
  have k6 : (k : Int) % 6 = 3 := by omega
  clear hk
  have hA := At.new w 55 #[.int .u8 (k : Int), .int .i64 now, .int .i64 ap, .int .i64 al, .int .i64 ar]
  have hw := h.alloc (.cells #[.int .u8 (k : Int), .int .i64 now, .int .i64 ap, .int .i64 al, .int .i64 ar] 55)
  have hdw := At.alloc hd (.cells #[.int .u8 (k : Int), .int .i64 now, .int .i64 ap, .int .i64 al, .int .i64 ar] 55)
  have b0 : Both g gd w (w.alloc (.cells #[.int .u8 (k : Int), .int .i64 now, .int .i64 ap, .int .i64 al, .int .i64 ar] 55)) := Both.of_below (balloc (Below.refl _ _) _)
  have hg1 : w.heap.size ≠ g := by have := h.1.1; omega
  have hg2 : w.heap.size ≠ gd := by have := hd.1; omega
  go_enter Try.func30, Try.ntmps30
  have a0 := hA.c 0 rfl
  have a1 := hA.c 1 rfl
  go_wp2_with fail
  generalize w.alloc (.cells #[.int .u8 (k : Int), .int .i64 now, .int .i64 ap, .int .i64 al, .int .i64 ar] 55) = w1 at *
  generalize w.heap.size = ga at *
  have e1 := cellB a1
  have e2 := cellB (hA.c 2 rfl)
  have e3 := cellB (hA.c 3 rfl)
  have e4 := cellB (hA.c 4 rfl)
  have HQ := Lib.hid (And.intro (fun W h => Check_any W g c now ⟨ap, al, ar⟩ h hc) (fun W h => CheckD_any W gd c now ⟨ap, al, ar⟩ h hc))
  generalize checkS c now ⟨ap, al, ar⟩ = E at *
  refine bstart (by kernel_rfl) ?_
  refine btake 0 (oi := _) (v := ?_) (by simp only [List.getElem?_toArray, List.getElem?_cons_succ, List.getElem?_cons_zero]; rfl) (by kernel_rfl) (by exact fun _ _ _ h => h) (by first | assumption | exact KB.refl _) (.inl ⟨by rfl, fun W hW => ?_⟩) ?_; rotate_left
  · (go_simp; first | done | with_reducible rfl)
  try simp only [Act.put, List.setIfInBounds_toArray, List.set_cons_zero, List.set_cons_succ]
  refine btake 1 (oi := _) (v := ?_) (by simp only [List.getElem?_toArray, List.getElem?_cons_succ, List.getElem?_cons_zero]; rfl) (by kernel_rfl) (by exact fun _ _ _ h => h) (by first | assumption | exact KB.refl _) (.inl ⟨by rfl, fun W hW => ?_⟩) ?_; rotate_left
  · (go_simp; first | done | with_reducible rfl)
  try simp only [Act.put, List.setIfInBounds_toArray, List.set_cons_zero, List.set_cons_succ]
  refine btake 2 (oi := _) (v := ?_) (by simp only [List.getElem?_toArray, List.getElem?_cons_succ, List.getElem?_cons_zero]; rfl) (by kernel_rfl) (by exact fun _ _ _ h => h) (by first | assumption | exact KB.refl _) (.inl ⟨by rfl, fun W hW => ?_⟩) ?_; rotate_left
  · (go_simp; first | done | with_reducible rfl)
  try simp only [Act.put, List.setIfInBounds_toArray, List.set_cons_zero, List.set_cons_succ]
  refine btake 3 (oi := _) (v := ?_) (by simp only [List.getElem?_toArray, List.getElem?_cons_succ, List.getElem?_cons_zero]; rfl) (by kernel_rfl) (by exact fun _ _ _ h => h) (by first | assumption | exact KB.refl _) (.inl ⟨by rfl, fun W hW => ?_⟩) ?_; rotate_left
  · (go_simp; first | done | with_reducible rfl)
  try simp only [Act.put, List.setIfInBounds_toArray, List.set_cons_zero, List.set_cons_succ]
  refine btake 4 (oi := _) (v := ?_) (by simp only [List.getElem?_toArray, List.getElem?_cons_succ, List.getElem?_cons_zero]; rfl) (by kernel_rfl) (by exact fun _ _ _ h => h) (by first | assumption | exact KB.refl _) (.inl ⟨by rfl, fun W hW => ?_⟩) ?_; rotate_left
  · (go_simp; first | done | with_reducible rfl)
  try simp only [Act.put, List.setIfInBounds_toArray, List.set_cons_zero, List.set_cons_succ]
  refine btake 6 (oi := _) (v := ?_) (by simp only [List.getElem?_toArray, List.getElem?_cons_succ, List.getElem?_cons_zero]; rfl) (by kernel_rfl) (by exact fun _ _ _ h => h) (by first | assumption | exact KB.refl _) (.inl ⟨by rfl, fun W hW => ?_⟩) ?_; rotate_left
  · (go_simp; first | done | with_reducible rfl)
  try simp only [Act.put, List.setIfInBounds_toArray, List.set_cons_zero, List.set_cons_succ]
  refine btake 7 (oi := _) (v := ?_) (by simp only [List.getElem?_toArray, List.getElem?_cons_succ, List.getElem?_cons_zero]; rfl) (by kernel_rfl) (by exact fun _ _ _ h => h) (by first | assumption | exact KB.refl _) (.inl ⟨by rfl, fun W hW => ?_⟩) ?_; rotate_left
  · (go_simp; first | done | with_reducible rfl)
  try simp only [Act.put, List.setIfInBounds_toArray, List.set_cons_zero, List.set_cons_succ]
  refine btake 8 (oi := _) (v := ?_) (by simp only [List.getElem?_toArray, List.getElem?_cons_succ, List.getElem?_cons_zero]; rfl) (by kernel_rfl) (by exact fun _ _ _ h => h) (by first | assumption | exact KB.refl _) (.inl ⟨by rfl, fun W hW => ?_⟩) ?_; rotate_left
  · (go_simp; first | done | with_reducible rfl)
  try simp only [Act.put, List.setIfInBounds_toArray, List.set_cons_zero, List.set_cons_succ]
  refine btake 9 (oi := _) (v := ?_) (by simp only [List.getElem?_toArray, List.getElem?_cons_succ, List.getElem?_cons_zero]; rfl) (by kernel_rfl) (by exact fun _ _ _ h => h) (by first | assumption | exact KB.refl _) (.inl ⟨by rfl, fun W hW => ?_⟩) ?_; rotate_left
  · (go_simp; first | done | with_reducible rfl)
  try simp only [Act.put, List.setIfInBounds_toArray, List.set_cons_zero, List.set_cons_succ]
  refine btake 10 (oi := _) (v := ?_) (by simp only [List.getElem?_toArray, List.getElem?_cons_succ, List.getElem?_cons_zero]; rfl) (by kernel_rfl) (by exact fun _ _ _ h => h) (by first | assumption | exact KB.refl _) (.inl ⟨by rfl, fun W hW => ?_⟩) ?_; rotate_left
  · (go_simp; first | done | with_reducible rfl)
  try simp only [Act.put, List.setIfInBounds_toArray, List.set_cons_zero, List.set_cons_succ]
  -- 5: (*newsreel/hlc.Clock).Check
  refine bop 5 (o := _) (by simp only [List.getElem?_toArray, List.getElem?_cons_succ, List.getElem?_cons_zero]; rfl) (by kernel_rfl) (by first | assumption | exact KB.refl _) (by rfl) (fun K hK => ?_)
  go_simp
  refine (HQ.out.1 _ (hw.below (Below.refl _ _).drew)).mono ?_
  rintro e w2 ⟨rfl, hb2⟩
  have hB2 : Below w1.heap.size w1 w2 := (Below.refl _ w1).drew.trans hb2
  have hkb := KB.of hB2
  refine hK.out _ _ hkb ?_; clear hK K
  try simp only [Act.put, List.setIfInBounds_toArray, List.set_cons_zero, List.set_cons_succ]
  -- 11: (*newsreel/newsreelref1.Clock).Check
  refine bop 11 (o := _) (by simp only [List.getElem?_toArray, List.getElem?_cons_succ, List.getElem?_cons_zero]; rfl) (by kernel_rfl) (by first | assumption | exact KB.refl _) (by rfl) (fun K hK => ?_)
  go_simp
  refine (HQ.out.2 _ (At.below hdw hB2)).mono ?_
  rintro e w3 ⟨rfl, hb3⟩
  have hB3 : Below w1.heap.size w1 w3 := hB2.trans (hb3.mono hB2.size)
  have hkb := KB.of hb3
  refine hK.out _ _ hkb ?_; clear hK K
  try simp only [Act.put, List.setIfInBounds_toArray, List.set_cons_zero, List.set_cons_succ]
  refine btake 12 (oi := _) (v := ?_) (by simp only [List.getElem?_toArray, List.getElem?_cons_succ, List.getElem?_cons_zero]; rfl) (by kernel_rfl) (by exact fun _ _ _ h => h) (by first | assumption | exact KB.refl _) (.inl ⟨by rfl, fun W hW => ?_⟩) ?_; rotate_left
  · (go_simp; first | done | with_reducible rfl)
  try simp only [Act.put, List.setIfInBounds_toArray, List.set_cons_zero, List.set_cons_succ]
  refine bdone (by kernel_rfl) ?_
  have hst := hw.below hB3
  have hsd := At.below hdw hB3
  have bb := b0.trans (Both.of_below hB3)
  have hok := hc
  obtain ⟨c1, hc1⟩ : ∃ c1, c1 = c := ⟨_, rfl⟩
  rw [← hc1] at hst hok
  have hsd : StandsD w3 gd c1 := by rw [hc1]; exact hsd
  clear hc1 e1 e2 e3 e4 hkb hB2 hb2 hb3 HQ
  unfold StandsD at hsd
  go_wp2_with fail
  obtain ⟨⟨cp, cl, cr⟩, cm, cd⟩ := c1
  have e2 := cellB (hsd.c 2 rfl)
  have e3 := cellB (hsd.c 3 rfl)
  have e4 := cellB (hsd.c 4 rfl)
  simp only at e2 e3 e4
  refine bstart (by kernel_rfl) ?_
  refine btake 0 (oi := _) (v := ?_) (by simp only [List.getElem?_toArray, List.getElem?_cons_succ, List.getElem?_cons_zero]; rfl) (by kernel_rfl) (by exact fun _ _ _ h => h) (by first | assumption | exact KB.refl _) (.inl ⟨by rfl, fun W hW => ?_⟩) ?_; rotate_left
  · (go_simp; first | done | with_reducible rfl)
  try simp only [Act.put, List.setIfInBounds_toArray, List.set_cons_zero, List.set_cons_succ]
  refine btake 2 (oi := _) (v := ?_) (by simp only [List.getElem?_toArray, List.getElem?_cons_succ, List.getElem?_cons_zero]; rfl) (by kernel_rfl) (by exact fun _ _ _ h => h) (by first | assumption | exact KB.refl _) (.inl ⟨by rfl, fun W hW => ?_⟩) ?_; rotate_left
  · (go_simp; first | done | with_reducible rfl)
  try simp only [Act.put, List.setIfInBounds_toArray, List.set_cons_zero, List.set_cons_succ]
  refine btake 3 (oi := _) (v := ?_) (by simp only [List.getElem?_toArray, List.getElem?_cons_succ, List.getElem?_cons_zero]; rfl) (by kernel_rfl) (by exact fun _ _ _ h => h) (by first | assumption | exact KB.refl _) (.inl ⟨by rfl, fun W hW => ?_⟩) ?_; rotate_left
  · (go_simp; first | done | with_reducible rfl)
  try simp only [Act.put, List.setIfInBounds_toArray, List.set_cons_zero, List.set_cons_succ]
  refine btake 4 (oi := _) (v := ?_) (by simp only [List.getElem?_toArray, List.getElem?_cons_succ, List.getElem?_cons_zero]; rfl) (by kernel_rfl) (by exact fun _ _ _ h => h) (by first | assumption | exact KB.refl _) (.inl ⟨by rfl, fun W hW => ?_⟩) ?_; rotate_left
  · (go_simp; first | done | with_reducible rfl)
  try simp only [Act.put, List.setIfInBounds_toArray, List.set_cons_zero, List.set_cons_succ]
  refine btake 5 (oi := _) (v := ?_) (by simp only [List.getElem?_toArray, List.getElem?_cons_succ, List.getElem?_cons_zero]; rfl) (by kernel_rfl) (by exact fun _ _ _ h => h) (by first | assumption | exact KB.refl _) (.inl ⟨by rfl, fun W hW => ?_⟩) ?_; rotate_left
  · (go_simp; first | done | with_reducible rfl)
  try simp only [Act.put, List.setIfInBounds_toArray, List.set_cons_zero, List.set_cons_succ]
  -- 1: (*newsreel/hlc.Clock).Last
  refine bop 1 (o := _) (by simp only [List.getElem?_toArray, List.getElem?_cons_succ, List.getElem?_cons_zero]; rfl) (by kernel_rfl) (by first | assumption | exact KB.refl _) (by rfl) (fun K hK => ?_)
  go_simp
  refine (Last_any _ g _ (hst.below (Below.refl _ _).drew)).mono ?_
  rintro e w9 ⟨rfl, hb9⟩
  have hb9' : Below w3.heap.size w3 w9 := (Below.refl _ w3).drew.trans hb9
  have hkb := KB.of hb9'
  unfold S3.v
  refine hK.out _ _ hkb ?_; clear hK K
  try simp only [Act.put, List.setIfInBounds_toArray, List.set_cons_zero, List.set_cons_succ]
  refine btake 6 (oi := _) (v := ?_) (by simp only [List.getElem?_toArray, List.getElem?_cons_succ, List.getElem?_cons_zero]; rfl) (by kernel_rfl) (by exact fun _ _ _ h => h) (by first | assumption | exact KB.refl _) (.inl ⟨by rfl, fun W hW => ?_⟩) ?_; rotate_left
  · (go_simp; first | done | with_reducible rfl)
  try simp only [Act.put, List.setIfInBounds_toArray, List.set_cons_zero, List.set_cons_succ]
  refine btake 7 (oi := _) (v := ?_) (by simp only [List.getElem?_toArray, List.getElem?_cons_succ, List.getElem?_cons_zero]; rfl) (by kernel_rfl) (by exact fun _ _ _ h => h) (by first | assumption | exact KB.refl _) (.inl ⟨by rfl, fun W hW => ?_⟩) ?_; rotate_left
  · (go_simp; first | done | with_reducible rfl)
  try simp only [Act.put, List.setIfInBounds_toArray, List.set_cons_zero, List.set_cons_succ]
  refine bdone (by kernel_rfl) ?_
  go_wp2_with fail
  go_ret
  exact ⟨rfl, _, hok, hst.below hb9', hsd.below hb9', bb.trans (Both.of_below hb9')⟩
set_option maxRecDepth 100000 in
set_option maxHeartbeats 3200000 in
theorem play_4 (w : World) (g gd : Nat) (c : Clk) (a : Act5) (hk : a.k % 6 = 4) (h : StandsC w g c) (hd : StandsD w gd c) (hne : g ≠ gd) (hc : c.ok) :
    Calls Try.prog 30 #[.pointer (some ⟨g, 0, none⟩), .pointer (some ⟨gd, 0, none⟩), a.v] w (PlayPost w g gd) := by
  obtain ⟨k, now, ap, al, ar⟩ := a
  unfold Act5.v
  simp only at hk ⊢
  have k6 : (k : Int) % 6 = 4 := by omega
  clear hk
  have hA := At.new w 55 #[.int .u8 (k : Int), .int .i64 now, .int .i64 ap, .int .i64 al, .int .i64 ar]
  have hw := h.alloc (.cells #[.int .u8 (k : Int), .int .i64 now, .int .i64 ap, .int .i64 al, .int .i64 ar] 55)
  have hdw := At.alloc hd (.cells #[.int .u8 (k : Int), .int .i64 now, .int .i64 ap, .int .i64 al, .int .i64 ar] 55)
  have b0 : Both g gd w (w.alloc (.cells #[.int .u8 (k : Int), .int .i64 now, .int .i64 ap, .int .i64 al, .int .i64 ar] 55)) := Both.of_below (balloc (Below.refl _ _) _)
  have hg1 : w.heap.size ≠ g := by have := h.1.1; omega
  have hg2 : w.heap.size ≠ gd := by have := hd.1; omega
  go_enter Try.func30, Try.ntmps30
  have a0 := hA.c 0 rfl
  have a1 := hA.c 1 rfl
  go_wp2_with fail
  generalize w.alloc (.cells #[.int .u8 (k : Int), .int .i64 now, .int .i64 ap, .int .i64 al, .int .i64 ar] 55) = w1 at *
  generalize w.heap.size = ga at *
  have hS0 : AtS ga [.int .u8 (k : Int), .int .i64 now, .int .i64 ap, .int .i64 al, .int .i64 ar] w1.drew := hA.drew
  have e1 := AtS.e (g := ga) (vs := [.int .u8 (k : Int), .int .i64 now, .int .i64 ap, .int .i64 al, .int .i64 ar]) 1 rfl
  have e2 := AtS.e (g := ga) (vs := [.int .u8 (k : Int), .int .i64 now, .int .i64 ap, .int .i64 al, .int .i64 ar]) 2 rfl
  have e3 := AtS.e (g := ga) (vs := [.int .u8 (k : Int), .int .i64 now, .int .i64 ap, .int .i64 al, .int .i64 ar]) 3 rfl
  have e4 := AtS.e (g := ga) (vs := [.int .u8 (k : Int), .int .i64 now, .int .i64 ap, .int .i64 al, .int .i64 ar]) 4 rfl
  have HQ := Lib.hid (And.intro (fun W h => Witness_any W g c now ⟨ap, al, ar⟩ h hc) (fun W h => WitnessD_any W gd c now ⟨ap, al, ar⟩ h hc))
  have hok := witC_ok hc now ⟨ap, al, ar⟩
  generalize checkS c now ⟨ap, al, ar⟩ = E at *
  generalize witC c now ⟨ap, al, ar⟩ = c1 at *
  refine bstartS (AtS ga [.int .u8 (k : Int), .int .i64 now, .int .i64 ap, .int .i64 al, .int .i64 ar]) (by kernel_rfl) ?_
  refine btakeS 0 (oi := _) (v := ?_) (by simp only [List.getElem?_toArray, List.getElem?_cons_succ, List.getElem?_cons_zero]; rfl) (by kernel_rfl) (by exact fun _ _ _ h => h) (by first | assumption | exact KB.refl _) (.inl ⟨by rfl, fun W hW => ?_⟩) ?_; rotate_left
  · (go_simp; first | done | with_reducible rfl)
  try simp only [Act.put, List.setIfInBounds_toArray, List.set_cons_zero, List.set_cons_succ]
  refine btakeS 1 (oi := _) (v := ?_) (by simp only [List.getElem?_toArray, List.getElem?_cons_succ, List.getElem?_cons_zero]; rfl) (by kernel_rfl) (by exact fun _ _ _ h => h) (by first | assumption | exact KB.refl _) (.inl ⟨by rfl, fun W hW => ?_⟩) ?_; rotate_left
  · (go_simp; first | done | with_reducible rfl)
  try simp only [Act.put, List.setIfInBounds_toArray, List.set_cons_zero, List.set_cons_succ]
  refine btakeS 2 (oi := _) (v := ?_) (by simp only [List.getElem?_toArray, List.getElem?_cons_succ, List.getElem?_cons_zero]; rfl) (by kernel_rfl) (by exact fun _ _ _ h => h) (by first | assumption | exact KB.refl _) (.inl ⟨by rfl, fun W hW => ?_⟩) ?_; rotate_left
  · (go_simp; first | done | with_reducible rfl)
  try simp only [Act.put, List.setIfInBounds_toArray, List.set_cons_zero, List.set_cons_succ]
  refine btakeS 3 (oi := _) (v := ?_) (by simp only [List.getElem?_toArray, List.getElem?_cons_succ, List.getElem?_cons_zero]; rfl) (by kernel_rfl) (by exact fun _ _ _ h => h) (by first | assumption | exact KB.refl _) (.inl ⟨by rfl, fun W hW => ?_⟩) ?_; rotate_left
  · (go_simp; first | done | with_reducible rfl)
  try simp only [Act.put, List.setIfInBounds_toArray, List.set_cons_zero, List.set_cons_succ]
  refine btakeS 4 (oi := _) (v := ?_) (by simp only [List.getElem?_toArray, List.getElem?_cons_succ, List.getElem?_cons_zero]; rfl) (by kernel_rfl) (by exact fun _ _ _ h => h) (by first | assumption | exact KB.refl _) (.inl ⟨by rfl, fun W hW => ?_⟩) ?_; rotate_left
  · (go_simp; first | done | with_reducible rfl)
  try simp only [Act.put, List.setIfInBounds_toArray, List.set_cons_zero, List.set_cons_succ]
  refine btakeS 6 (oi := _) (v := ?_) (by simp only [List.getElem?_toArray, List.getElem?_cons_succ, List.getElem?_cons_zero]; rfl) (by kernel_rfl) (by exact fun _ _ _ h => h) (by first | assumption | exact KB.refl _) (.inl ⟨by rfl, fun W hW => ?_⟩) ?_; rotate_left
  · (go_simp; first | done | with_reducible rfl)
  try simp only [Act.put, List.setIfInBounds_toArray, List.set_cons_zero, List.set_cons_succ]
  refine btakeS 7 (oi := _) (v := ?_) (by simp only [List.getElem?_toArray, List.getElem?_cons_succ, List.getElem?_cons_zero]; rfl) (by kernel_rfl) (by exact fun _ _ _ h => h) (by first | assumption | exact KB.refl _) (.inl ⟨by rfl, fun W hW => ?_⟩) ?_; rotate_left
  · (go_simp; first | done | with_reducible rfl)
  try simp only [Act.put, List.setIfInBounds_toArray, List.set_cons_zero, List.set_cons_succ]
  refine btakeS 8 (oi := _) (v := ?_) (by simp only [List.getElem?_toArray, List.getElem?_cons_succ, List.getElem?_cons_zero]; rfl) (by kernel_rfl) (by exact fun _ _ _ h => h) (by first | assumption | exact KB.refl _) (.inl ⟨by rfl, fun W hW => ?_⟩) ?_; rotate_left
  · (go_simp; first | done | with_reducible rfl)
  try simp only [Act.put, List.setIfInBounds_toArray, List.set_cons_zero, List.set_cons_succ]
  refine btakeS 9 (oi := _) (v := ?_) (by simp only [List.getElem?_toArray, List.getElem?_cons_succ, List.getElem?_cons_zero]; rfl) (by kernel_rfl) (by exact fun _ _ _ h => h) (by first | assumption | exact KB.refl _) (.inl ⟨by rfl, fun W hW => ?_⟩) ?_; rotate_left
  · (go_simp; first | done | with_reducible rfl)
  try simp only [Act.put, List.setIfInBounds_toArray, List.set_cons_zero, List.set_cons_succ]
  refine btakeS 10 (oi := _) (v := ?_) (by simp only [List.getElem?_toArray, List.getElem?_cons_succ, List.getElem?_cons_zero]; rfl) (by kernel_rfl) (by exact fun _ _ _ h => h) (by first | assumption | exact KB.refl _) (.inl ⟨by rfl, fun W hW => ?_⟩) ?_; rotate_left
  · (go_simp; first | done | with_reducible rfl)
  try simp only [Act.put, List.setIfInBounds_toArray, List.set_cons_zero, List.set_cons_succ]
  -- 5: (*newsreel/hlc.Clock).Witness
  refine bopS 5 (o := _) (by simp only [List.getElem?_toArray, List.getElem?_cons_succ, List.getElem?_cons_zero]; rfl) (by kernel_rfl) (by rfl) (fun K hK => ?_)
  go_simp
  refine (HQ.out.1 _ (hw.below (Below.refl _ _).drew)).mono ?_
  rintro e w2 ⟨rfl, hs2, hg2w⟩
  have bb2 : Both g gd w1 w2 := (Both.of_below (Below.refl _ w1).drew).trans (Both.of_g hg2w)
  have hA2 := hA.both bb2 hg1 hg2
  have hd2 : StandsD w2 gd c := At.grown (At.drew hdw) hg2w (fun e => hne (by injection e))
  have hkb : AtS ga [.int .u8 (k : Int), .int .i64 now, .int .i64 ap, .int .i64 al, .int .i64 ar] w2 := hA2
  refine hK.out _ _ hkb ?_; clear hK K
  try simp only [Act.put, List.setIfInBounds_toArray, List.set_cons_zero, List.set_cons_succ]
  -- 11: (*newsreel/newsreelref1.Clock).Witness
  refine bopS 11 (o := _) (by simp only [List.getElem?_toArray, List.getElem?_cons_succ, List.getElem?_cons_zero]; rfl) (by kernel_rfl) (by rfl) (fun K hK => ?_)
  go_simp
  refine (HQ.out.2 _ hd2).mono ?_
  rintro e w3 ⟨rfl, hd3, hg3⟩
  have hst := hs2.grown hg3 hne
  have hkb : AtS ga [.int .u8 (k : Int), .int .i64 now, .int .i64 ap, .int .i64 al, .int .i64 ar] w3 := hA2.both (Both.of_gd hg3) hg1 hg2
  have bb := (b0.trans bb2).trans (Both.of_gd hg3)
  refine hK.out _ _ hkb ?_; clear hK K
  try simp only [Act.put, List.setIfInBounds_toArray, List.set_cons_zero, List.set_cons_succ]
  refine btakeS 12 (oi := _) (v := ?_) (by simp only [List.getElem?_toArray, List.getElem?_cons_succ, List.getElem?_cons_zero]; rfl) (by kernel_rfl) (by exact fun _ _ _ h => h) (by first | assumption | exact KB.refl _) (.inl ⟨by rfl, fun W hW => ?_⟩) ?_; rotate_left
  · (go_simp; first | done | with_reducible rfl)
  try simp only [Act.put, List.setIfInBounds_toArray, List.set_cons_zero, List.set_cons_succ]
  refine bdoneS (by kernel_rfl) ?_
  have hsd := hd3
  clear e1 e2 e3 e4 hkb HQ hS0
  unfold StandsD at hsd
  go_wp2_with fail
  obtain ⟨⟨cp, cl, cr⟩, cm, cd⟩ := c1
  have e2 := cellB (hsd.c 2 rfl)
  have e3 := cellB (hsd.c 3 rfl)
  have e4 := cellB (hsd.c 4 rfl)
  simp only at e2 e3 e4
  refine bstart (by kernel_rfl) ?_
  refine btake 0 (oi := _) (v := ?_) (by simp only [List.getElem?_toArray, List.getElem?_cons_succ, List.getElem?_cons_zero]; rfl) (by kernel_rfl) (by exact fun _ _ _ h => h) (by first | assumption | exact KB.refl _) (.inl ⟨by rfl, fun W hW => ?_⟩) ?_; rotate_left
  · (go_simp; first | done | with_reducible rfl)
  try simp only [Act.put, List.setIfInBounds_toArray, List.set_cons_zero, List.set_cons_succ]
  refine btake 2 (oi := _) (v := ?_) (by simp only [List.getElem?_toArray, List.getElem?_cons_succ, List.getElem?_cons_zero]; rfl) (by kernel_rfl) (by exact fun _ _ _ h => h) (by first | assumption | exact KB.refl _) (.inl ⟨by rfl, fun W hW => ?_⟩) ?_; rotate_left
  · (go_simp; first | done | with_reducible rfl)
  try simp only [Act.put, List.setIfInBounds_toArray, List.set_cons_zero, List.set_cons_succ]
  refine btake 3 (oi := _) (v := ?_) (by simp only [List.getElem?_toArray, List.getElem?_cons_succ, List.getElem?_cons_zero]; rfl) (by kernel_rfl) (by exact fun _ _ _ h => h) (by first | assumption | exact KB.refl _) (.inl ⟨by rfl, fun W hW => ?_⟩) ?_; rotate_left
  · (go_simp; first | done | with_reducible rfl)
  try simp only [Act.put, List.setIfInBounds_toArray, List.set_cons_zero, List.set_cons_succ]
  refine btake 4 (oi := _) (v := ?_) (by simp only [List.getElem?_toArray, List.getElem?_cons_succ, List.getElem?_cons_zero]; rfl) (by kernel_rfl) (by exact fun _ _ _ h => h) (by first | assumption | exact KB.refl _) (.inl ⟨by rfl, fun W hW => ?_⟩) ?_; rotate_left
  · (go_simp; first | done | with_reducible rfl)
  try simp only [Act.put, List.setIfInBounds_toArray, List.set_cons_zero, List.set_cons_succ]
  refine btake 5 (oi := _) (v := ?_) (by simp only [List.getElem?_toArray, List.getElem?_cons_succ, List.getElem?_cons_zero]; rfl) (by kernel_rfl) (by exact fun _ _ _ h => h) (by first | assumption | exact KB.refl _) (.inl ⟨by rfl, fun W hW => ?_⟩) ?_; rotate_left
  · (go_simp; first | done | with_reducible rfl)
  try simp only [Act.put, List.setIfInBounds_toArray, List.set_cons_zero, List.set_cons_succ]
  -- 1: (*newsreel/hlc.Clock).Last
  refine bop 1 (o := _) (by simp only [List.getElem?_toArray, List.getElem?_cons_succ, List.getElem?_cons_zero]; rfl) (by kernel_rfl) (by first | assumption | exact KB.refl _) (by rfl) (fun K hK => ?_)
  go_simp
  refine (Last_any _ g _ (hst.below (Below.refl _ _).drew)).mono ?_
  rintro e w9 ⟨rfl, hb9⟩
  have hb9' : Below w3.heap.size w3 w9 := (Below.refl _ w3).drew.trans hb9
  have hkb := KB.of hb9'
  unfold S3.v
  refine hK.out _ _ hkb ?_; clear hK K
  try simp only [Act.put, List.setIfInBounds_toArray, List.set_cons_zero, List.set_cons_succ]
  refine btake 6 (oi := _) (v := ?_) (by simp only [List.getElem?_toArray, List.getElem?_cons_succ, List.getElem?_cons_zero]; rfl) (by kernel_rfl) (by exact fun _ _ _ h => h) (by first | assumption | exact KB.refl _) (.inl ⟨by rfl, fun W hW => ?_⟩) ?_; rotate_left
  · (go_simp; first | done | with_reducible rfl)
  try simp only [Act.put, List.setIfInBounds_toArray, List.set_cons_zero, List.set_cons_succ]
  refine btake 7 (oi := _) (v := ?_) (by simp only [List.getElem?_toArray, List.getElem?_cons_succ, List.getElem?_cons_zero]; rfl) (by kernel_rfl) (by exact fun _ _ _ h => h) (by first | assumption | exact KB.refl _) (.inl ⟨by rfl, fun W hW => ?_⟩) ?_; rotate_left
  · (go_simp; first | done | with_reducible rfl)
  try simp only [Act.put, List.setIfInBounds_toArray, List.set_cons_zero, List.set_cons_succ]
  refine bdone (by kernel_rfl) ?_
  go_wp2_with fail
  go_ret
  exact ⟨rfl, _, hok, hst.below hb9', hsd.below hb9', bb.trans (Both.of_below hb9')⟩
set_option maxRecDepth 100000 in
set_option maxHeartbeats 3200000 in
theorem play_5 (w : World) (g gd : Nat) (c : Clk) (a : Act5) (hk : a.k % 6 = 5) (h : StandsC w g c) (hd : StandsD w gd c) (hne : g ≠ gd) (hc : c.ok) :
    Calls Try.prog 30 #[.pointer (some ⟨g, 0, none⟩), .pointer (some ⟨gd, 0, none⟩), a.v] w (PlayPost w g gd) := by
  obtain ⟨k, now, ap, al, ar⟩ := a
  unfold Act5.v
  simp only at hk ⊢
  have k6 : (k : Int) % 6 = 5 := by omega
  clear hk
  have hA := At.new w 55 #[.int .u8 (k : Int), .int .i64 now, .int .i64 ap, .int .i64 al, .int .i64 ar]
  have hw := h.alloc (.cells #[.int .u8 (k : Int), .int .i64 now, .int .i64 ap, .int .i64 al, .int .i64 ar] 55)
  have hdw := At.alloc hd (.cells #[.int .u8 (k : Int), .int .i64 now, .int .i64 ap, .int .i64 al, .int .i64 ar] 55)
  have b0 : Both g gd w (w.alloc (.cells #[.int .u8 (k : Int), .int .i64 now, .int .i64 ap, .int .i64 al, .int .i64 ar] 55)) := Both.of_below (balloc (Below.refl _ _) _)
  have hg1 : w.heap.size ≠ g := by have := h.1.1; omega
  have hg2 : w.heap.size ≠ gd := by have := hd.1; omega
  go_enter Try.func30, Try.ntmps30
  have a0 := hA.c 0 rfl
  have a1 := hA.c 1 rfl
  go_wp2_with fail
  generalize w.alloc (.cells #[.int .u8 (k : Int), .int .i64 now, .int .i64 ap, .int .i64 al, .int .i64 ar] 55) = w1 at *
  generalize w.heap.size = ga at *
  have hok := floorC_ok hc now
  have HQ := Lib.hid (And.intro (fun W h => Floor_any W g c now h) (fun W h => FloorD_any W gd c now h))
  generalize floorC c now = c1 at *
  refine (HQ.out.1 w1 hw).mono ?_
  rintro e w2 ⟨rfl, hs2, hg2w⟩
  have hA2 := hA.both (Both.of_g hg2w) hg1 hg2
  have hd2 : StandsD w2 gd c := At.grown hdw hg2w (fun e => hne (by injection e))
  have bb2 := b0.trans (Both.of_g hg2w)
  clear a0 a1
  have a1 := hA2.c 1 rfl
  go_wp2_with fail
  refine (HQ.out.2 w2 hd2).mono ?_
  rintro e w3 ⟨rfl, hsd, hg3⟩
  have hst := hs2.grown hg3 hne
  have bb := bb2.trans (Both.of_gd hg3)
  unfold StandsD at hsd
  go_wp2_with fail
  obtain ⟨⟨cp, cl, cr⟩, cm, cd⟩ := c1
  have e2 := cellB (hsd.c 2 rfl)
  have e3 := cellB (hsd.c 3 rfl)
  have e4 := cellB (hsd.c 4 rfl)
  simp only at e2 e3 e4
  refine bstart (by kernel_rfl) ?_
  refine btake 0 (oi := _) (v := ?_) (by simp only [List.getElem?_toArray, List.getElem?_cons_succ, List.getElem?_cons_zero]; rfl) (by kernel_rfl) (by exact fun _ _ _ h => h) (by first | assumption | exact KB.refl _) (.inl ⟨by rfl, fun W hW => ?_⟩) ?_; rotate_left
  · (go_simp; first | done | with_reducible rfl)
  try simp only [Act.put, List.setIfInBounds_toArray, List.set_cons_zero, List.set_cons_succ]
  refine btake 2 (oi := _) (v := ?_) (by simp only [List.getElem?_toArray, List.getElem?_cons_succ, List.getElem?_cons_zero]; rfl) (by kernel_rfl) (by exact fun _ _ _ h => h) (by first | assumption | exact KB.refl _) (.inl ⟨by rfl, fun W hW => ?_⟩) ?_; rotate_left
  · (go_simp; first | done | with_reducible rfl)
  try simp only [Act.put, List.setIfInBounds_toArray, List.set_cons_zero, List.set_cons_succ]
  refine btake 3 (oi := _) (v := ?_) (by simp only [List.getElem?_toArray, List.getElem?_cons_succ, List.getElem?_cons_zero]; rfl) (by kernel_rfl) (by exact fun _ _ _ h => h) (by first | assumption | exact KB.refl _) (.inl ⟨by rfl, fun W hW => ?_⟩) ?_; rotate_left
  · (go_simp; first | done | with_reducible rfl)
  try simp only [Act.put, List.setIfInBounds_toArray, List.set_cons_zero, List.set_cons_succ]
  refine btake 4 (oi := _) (v := ?_) (by simp only [List.getElem?_toArray, List.getElem?_cons_succ, List.getElem?_cons_zero]; rfl) (by kernel_rfl) (by exact fun _ _ _ h => h) (by first | assumption | exact KB.refl _) (.inl ⟨by rfl, fun W hW => ?_⟩) ?_; rotate_left
  · (go_simp; first | done | with_reducible rfl)
  try simp only [Act.put, List.setIfInBounds_toArray, List.set_cons_zero, List.set_cons_succ]
  refine btake 5 (oi := _) (v := ?_) (by simp only [List.getElem?_toArray, List.getElem?_cons_succ, List.getElem?_cons_zero]; rfl) (by kernel_rfl) (by exact fun _ _ _ h => h) (by first | assumption | exact KB.refl _) (.inl ⟨by rfl, fun W hW => ?_⟩) ?_; rotate_left
  · (go_simp; first | done | with_reducible rfl)
  try simp only [Act.put, List.setIfInBounds_toArray, List.set_cons_zero, List.set_cons_succ]
  -- 1: (*newsreel/hlc.Clock).Last
  refine bop 1 (o := _) (by simp only [List.getElem?_toArray, List.getElem?_cons_succ, List.getElem?_cons_zero]; rfl) (by kernel_rfl) (by first | assumption | exact KB.refl _) (by rfl) (fun K hK => ?_)
  go_simp
  refine (Last_any _ g _ (hst.below (Below.refl _ _).drew)).mono ?_
  rintro e w9 ⟨rfl, hb9⟩
  have hb9' : Below w3.heap.size w3 w9 := (Below.refl _ w3).drew.trans hb9
  have hkb := KB.of hb9'
  unfold S3.v
  refine hK.out _ _ hkb ?_; clear hK K
  try simp only [Act.put, List.setIfInBounds_toArray, List.set_cons_zero, List.set_cons_succ]
  refine btake 6 (oi := _) (v := ?_) (by simp only [List.getElem?_toArray, List.getElem?_cons_succ, List.getElem?_cons_zero]; rfl) (by kernel_rfl) (by exact fun _ _ _ h => h) (by first | assumption | exact KB.refl _) (.inl ⟨by rfl, fun W hW => ?_⟩) ?_; rotate_left
  · (go_simp; first | done | with_reducible rfl)
  try simp only [Act.put, List.setIfInBounds_toArray, List.set_cons_zero, List.set_cons_succ]
  refine btake 7 (oi := _) (v := ?_) (by simp only [List.getElem?_toArray, List.getElem?_cons_succ, List.getElem?_cons_zero]; rfl) (by kernel_rfl) (by exact fun _ _ _ h => h) (by first | assumption | exact KB.refl _) (.inl ⟨by rfl, fun W hW => ?_⟩) ?_; rotate_left
  · (go_simp; first | done | with_reducible rfl)
  try simp only [Act.put, List.setIfInBounds_toArray, List.set_cons_zero, List.set_cons_succ]
  refine bdone (by kernel_rfl) ?_
  go_wp2_with fail
  go_ret
  exact ⟨rfl, _, hok, hst.below hb9', hsd.below hb9', bb.trans (Both.of_below hb9')⟩
theorem play_any (w : World) (g gd : Nat) (c : Clk) (a : Act5) (h : StandsC w g c) (hd : StandsD w gd c) (hne : g ≠ gd) (hc : c.ok) :
    Calls Try.prog 30 #[.pointer (some ⟨g, 0, none⟩), .pointer (some ⟨gd, 0, none⟩), a.v] w (PlayPost w g gd) := by
  obtain q | q | q | q | q | q : a.k % 6 = 0 ∨ a.k % 6 = 1 ∨ a.k % 6 = 2 ∨ a.k % 6 = 3 ∨ a.k % 6 = 4 ∨ a.k % 6 = 5 := by omega
  · exact play_0 w g gd c a q h hd hne hc
  · exact play_1 w g gd c a q h hd hne hc
  · exact play_2 w g gd c a q h hd hne hc
  · exact play_3 w g gd c a q h hd hne hc
  · exact play_4 w g gd c a q h hd hne hc
  · exact play_5 w g gd c a q h hd hne hc
end Go.Proofs.Ythpooogjlmaemaa

