/- Disks: an act on both (3). -/
import Derived.Lib.SlBytesConst
import Derived.Test.YthnbnhlfiehihaaM05
import Derived.Test.YthnbnhlfiehihaaM11
import Derived.Test.YthnbnhlfiehihaaM12
import Derived.Test.YthnbnhlfiehihaaM13
namespace Go.Proofs.Ythnbnhlfiehihaa
open Go.RowKit Go.Maps
set_option maxRecDepth 20000

set_option maxRecDepth 100000 in
set_option maxHeartbeats 6400000 in
theorem play_rename (w0 W : World) (L : List Ob) (i j p d : Nat) (s : DK) (n : Nat) (hP : Pool w0 L W) (hi : L[i]? = some (Ob.P p s)) (hj : L[j]? = some (Ob.D d s)) (hne : i ≠ j) (hok : s.ok n) (hn : n < 999999) (a : AK) (ha : a.ok w0) (hwh : a.wh % 16 = 10 ∨ a.wh % 16 = 11) :
    Calls Try.prog 22 #[.pointer (some ⟨p, 0, none⟩), .pointer (some ⟨d, 0, none⟩), .agg a.cells.toArray] W fun e W' => e = .returned (.bool true) ∧ Pool w0 ((L.set i (Ob.P p (actK s a).2)).set j (Ob.D d (actK s a).2)) W' := by
  have hPB : Pool w0 (L ++ [Ob.B W.heap.size a.cells]) (W.alloc (.cells a.cells.toArray 43)) := hP.box 43 a.cells
  have hli := (List.getElem?_eq_some_iff.1 hi).1
  have hlj := (List.getElem?_eq_some_iff.1 hj).1
  have hi1 : (L ++ [Ob.B W.heap.size a.cells])[i]? = some (Ob.P p s) := by rw [List.getElem?_append_left hli]; exact hi
  have hj1 : (L ++ [Ob.B W.heap.size a.cells])[j]? = some (Ob.D d s) := by rw [List.getElem?_append_left hlj]; exact hj
  have hk1 : (L ++ [Ob.B W.heap.size a.cells])[L.length]? = some (Ob.B W.heap.size a.cells) := by rw [List.getElem?_append_right (Nat.le_refl _), Nat.sub_self]; rfl
  have hki : i ≠ L.length := by omega
  have hkj : j ≠ L.length := by omega
  have hfin : ∀ (W' : World) (x y : Ob), Pool w0 (((L ++ [Ob.B W.heap.size a.cells]).set i x).set j y) W' → Pool w0 ((L.set i x).set j y) W' := fun W' x y h => by
    rw [List.set_append_left _ _ hli, List.set_append_left _ _ (by rw [List.length_set]; exact hlj)] at h
    exact h.drop
  have hat := hPB.boxAt hk1
  obtain ⟨L1, hL1⟩ : ∃ L1, L ++ [Ob.B W.heap.size a.cells] = L1 := ⟨_, rfl⟩
  rw [hL1] at hPB hi1 hj1 hk1 hfin
  clear hP hi hj hli hlj hL1
  have hac : actK s a = (s.rename (nameOf a.na) (nameOf a.to)) := by
    unfold actK
    rcases hwh with h | h <;> simp [*]
  rw [hac]
  have hok1 : (s.rename (nameOf a.na) (nameOf a.to)).2.ok (n + 1) := by have := actK_ok hok (a := a) ha.n0 ha.n1; rw [hac] at this; exact this
  have hne' : j ≠ i := Ne.symm hne
  have hla := nameOf_len a.na
  have hlb := nameOf_len a.to
  have hi2 := fun o => set_apart (L := L1) (o' := o) hne' hi1
  have hj2 := fun o => set_apart (L := L1) (o' := o) hne hj1
  have hk2 := fun o => set_apart (L := L1) (o' := o) hki hk1
  have hk3 := fun x y => set_apart (L := L1.set i x) (o' := y) hkj (hk2 x)
  have hi3 : ∀ x y : Ob, ((L1.set i x).set j y)[i]? = some x := fun x y => set_apart hne' (List.getElem?_set_self (List.getElem?_eq_some_iff.1 hi1).1)
  have hj3 : ∀ x y : Ob, ((L1.set i x).set j y)[j]? = some y := fun x y => List.getElem?_set_self (by rw [List.length_set]; exact (List.getElem?_eq_some_iff.1 hj1).1)
  have HA := Lib.hid (And.intro hi1 (And.intro hj2 (And.intro hk1 (And.intro hk2 (And.intro hfin (And.intro hok (And.intro hok1 (And.intro ha (And.intro hk3 (And.intro hi3 hj3))))))))))
  have hna := ha.na
  have hto := ha.to
  have hwb := ha.wh
  have hn0 := ha.n0
  have hn1 := ha.n1
  have hbl := ha.bl
  have HPB := Lib.hid hPB
  have HAT := Lib.hid hat
  have c0 := hat.c 0 rfl
  have c1 := hat.c 1 rfl
  have c2 := hat.c 2 rfl
  have c3 := hat.c 3 rfl
  have c4 := hat.c 4 rfl
  have c5 := hat.c 5 rfl
  have hwi : ∃ v : Nat, a.wh % 16 = v ∧ (v = 10 ∨ v = 11) := ⟨_, rfl, hwh⟩
  obtain ⟨wv, hwv, hwc⟩ := hwi
  have hwz : ((a.wh : Int) % 16) = (wv : Int) := by omega
  obtain ⟨ml, hml⟩ : ∃ ml, min a.b.length 40 = ml := ⟨_, rfl⟩
  have HML := Lib.hid (And.intro (show (a.b.take 40).length = ml by rw [List.length_take, Nat.min_comm]; exact hml) (show Sl w0 w0.heap.size a.bA (bv (a.b.take 40)) by rw [← bv_take]; exact ha.b.tk 40))
  have hml40 : ml ≤ 40 := by omega
  have hmlb : ml ≤ a.bc := by omega
  clear hac hok1 hok ha hat hi1 hj1 hk1 hki hkj hfin hPB hi2 hj2 hk2 hwh hml hne hne' hk3 hi3 hj3
  rcases hwc with rfl | rfl
  · go_enter Try.func22, Try.ntmps22
    go_wp2_with fail
    generalize hbx : W.heap.size = bx at *
    generalize W.alloc (.cells a.cells.toArray 43) = W1 at *
    clear c0 c1 c2 c3 c4 c5 hwv hwz hwb
    have hq0 : Pool w0 L1 W1.drew := HPB.out.below (Below.refl _ _).drew
    have hS0 : AtS bx a.cells W1.drew := HAT.out
    have e1 : ∀ W, AtS bx a.cells W → W.cell? ⟨bx, 1, none⟩ = some (.int .u8 (a.na : Int)) := AtS.e 1 rfl
    have e2 : ∀ W, AtS bx a.cells W → W.cell? ⟨bx, 2, none⟩ = some (.int .u8 (a.to : Int)) := AtS.e 2 rfl
    have e3 : ∀ W, AtS bx a.cells W → W.cell? ⟨bx, 3, none⟩ = some (.int .i64 a.n) := AtS.e 3 rfl
    have e5 : ∀ W, AtS bx a.cells W → W.cell? ⟨bx, 5, none⟩ = some (.slice a.pA a.ps.length a.pc) := AtS.e 5 rfl
    refine bstartS (AtS bx a.cells) (by kernel_rfl) ?_
    refine btakeS 0 (oi := _) (v := ?_) (by simp only [List.getElem?_toArray, List.getElem?_cons_zero]; rfl) (by kernel_rfl) (by exact fun _ _ _ h => h) (by first | assumption | exact KB.refl _) (.inl ⟨by rfl, fun W hW => ?_⟩) ?_; rotate_left
    · (go_simp; first | done | with_reducible rfl)
    try simp only [Act.put, List.setIfInBounds_toArray, List.set_cons_zero, List.set_cons_succ]
    refine btakeS 1 (oi := _) (v := ?_) (by simp only [List.getElem?_toArray, List.getElem?_cons_succ, List.getElem?_cons_zero]; rfl) (by kernel_rfl) (by exact fun _ _ _ h => h) (by first | assumption | exact KB.refl _) (.inl ⟨by rfl, fun W hW => ?_⟩) ?_; rotate_left
    · (go_simp; first | done | with_reducible rfl)
    try simp only [Act.put, List.setIfInBounds_toArray, List.set_cons_zero, List.set_cons_succ]
    refine btakeS 2 (oi := _) (v := ?_) (by simp only [List.getElem?_toArray, List.getElem?_cons_succ, List.getElem?_cons_zero]; rfl) (by kernel_rfl) (by exact fun _ _ _ h => h) (by first | assumption | exact KB.refl _) (.inl ⟨by rfl, fun W hW => ?_⟩) ?_; rotate_left
    · (go_simp; first | done | with_reducible rfl)
    try simp only [Act.put, List.setIfInBounds_toArray, List.set_cons_zero, List.set_cons_succ]
    refine btakeS 4 (oi := _) (v := ?_) (by simp only [List.getElem?_toArray, List.getElem?_cons_succ, List.getElem?_cons_zero]; rfl) (by kernel_rfl) (by exact fun _ _ _ h => h) (by first | assumption | exact KB.refl _) (.inl ⟨by rfl, fun W hW => ?_⟩) ?_; rotate_left
    · (go_simp; first | done | with_reducible rfl)
    try simp only [Act.put, List.setIfInBounds_toArray, List.set_cons_zero, List.set_cons_succ]
    refine btakeS 5 (oi := _) (v := ?_) (by simp only [List.getElem?_toArray, List.getElem?_cons_succ, List.getElem?_cons_zero]; rfl) (by kernel_rfl) (by exact fun _ _ _ h => h) (by first | assumption | exact KB.refl _) (.inl ⟨by rfl, fun W hW => ?_⟩) ?_; rotate_left
    · (go_simp; first | done | with_reducible rfl)
    try simp only [Act.put, List.setIfInBounds_toArray, List.set_cons_zero, List.set_cons_succ]
    refine btakeS 8 (oi := _) (v := ?_) (by simp only [List.getElem?_toArray, List.getElem?_cons_succ, List.getElem?_cons_zero]; rfl) (by kernel_rfl) (by exact fun _ _ _ h => h) (by first | assumption | exact KB.refl _) (.inl ⟨by rfl, fun W hW => ?_⟩) ?_; rotate_left
    · (go_simp; first | done | with_reducible rfl)
    try simp only [Act.put, List.setIfInBounds_toArray, List.set_cons_zero, List.set_cons_succ]
    refine btakeS 9 (oi := _) (v := ?_) (by simp only [List.getElem?_toArray, List.getElem?_cons_succ, List.getElem?_cons_zero]; rfl) (by kernel_rfl) (by exact fun _ _ _ h => h) (by first | assumption | exact KB.refl _) (.inl ⟨by rfl, fun W hW => ?_⟩) ?_; rotate_left
    · (go_simp; first | done | with_reducible rfl)
    try simp only [Act.put, List.setIfInBounds_toArray, List.set_cons_zero, List.set_cons_succ]
    refine btakeS 10 (oi := _) (v := ?_) (by simp only [List.getElem?_toArray, List.getElem?_cons_succ, List.getElem?_cons_zero]; rfl) (by kernel_rfl) (by exact fun _ _ _ h => h) (by first | assumption | exact KB.refl _) (.inl ⟨by rfl, fun W hW => ?_⟩) ?_; rotate_left
    · (go_simp; first | done | with_reducible rfl)
    try simp only [Act.put, List.setIfInBounds_toArray, List.set_cons_zero, List.set_cons_succ]
    refine btakeS 12 (oi := _) (v := ?_) (by simp only [List.getElem?_toArray, List.getElem?_cons_succ, List.getElem?_cons_zero]; rfl) (by kernel_rfl) (by exact fun _ _ _ h => h) (by first | assumption | exact KB.refl _) (.inl ⟨by rfl, fun W hW => ?_⟩) ?_; rotate_left
    · (go_simp; first | done | with_reducible rfl)
    try simp only [Act.put, List.setIfInBounds_toArray, List.set_cons_zero, List.set_cons_succ]
    refine btakeS 13 (oi := _) (v := ?_) (by simp only [List.getElem?_toArray, List.getElem?_cons_succ, List.getElem?_cons_zero]; rfl) (by kernel_rfl) (by exact fun _ _ _ h => h) (by first | assumption | exact KB.refl _) (.inl ⟨by rfl, fun W hW => ?_⟩) ?_; rotate_left
    · (go_simp; first | done | with_reducible rfl)
    try simp only [Act.put, List.setIfInBounds_toArray, List.set_cons_zero, List.set_cons_succ]
    -- 3: newsreel/newsreellaw23.name
    refine bopS 3 (o := _) (by simp only [List.getElem?_toArray, List.getElem?_cons_succ, List.getElem?_cons_zero]; rfl) (by kernel_rfl) (by rfl) (fun K hK => ?_)
    go_simp
    refine (name_any _ a.na hna).mono ?_
    rintro e w1 ⟨rfl, bw1⟩
    have hq1 := hq0.below bw1
    have hkb : AtS bx a.cells w1 := hq1.boxAt HA.out.2.2.1
    refine hK.out _ _ hkb ?_; clear hK K
    try simp only [Act.put, List.setIfInBounds_toArray, List.set_cons_zero, List.set_cons_succ]
    -- 6: newsreel/newsreellaw23.name
    refine bopS 6 (o := _) (by simp only [List.getElem?_toArray, List.getElem?_cons_succ, List.getElem?_cons_zero]; rfl) (by kernel_rfl) (by rfl) (fun K hK => ?_)
    go_simp
    refine (name_any _ a.to hto).mono ?_
    rintro e w1b ⟨rfl, bw1b⟩
    have hq1b := hq1.below bw1b
    have hkb : AtS bx a.cells w1b := hq1b.boxAt HA.out.2.2.1
    refine hK.out _ _ hkb ?_; clear hK K
    try simp only [Act.put, List.setIfInBounds_toArray, List.set_cons_zero, List.set_cons_succ]
    -- 7: (*newsreel/disk.Disk).Rename
    refine bopS 7 (o := _) (by simp only [List.getElem?_toArray, List.getElem?_cons_succ, List.getElem?_cons_zero]; rfl) (by kernel_rfl) (by rfl) (fun K hK => ?_)
    go_simp
    refine (Pool.PRename hq1b HA.out.1 HA.out.2.2.2.2.2.1 (by omega) _ _ hla hlb).mono ?_
    rintro e w2 ⟨rfl, hq2⟩
    have hkb : AtS bx a.cells w2 := hq2.boxAt (HA.out.2.2.2.1 _)
    refine hK.out _ _ hkb ?_; clear hK K
    try simp only [Act.put, List.setIfInBounds_toArray, List.set_cons_zero, List.set_cons_succ]
    -- 11: newsreel/newsreellaw23.name
    refine bopS 11 (o := _) (by simp only [List.getElem?_toArray, List.getElem?_cons_succ, List.getElem?_cons_zero]; rfl) (by kernel_rfl) (by rfl) (fun K hK => ?_)
    go_simp
    refine (name_any _ a.na hna).mono ?_
    rintro e w3 ⟨rfl, bw3⟩
    have hq3 := hq2.below bw3
    have hkb : AtS bx a.cells w3 := hq3.boxAt (HA.out.2.2.2.1 _)
    refine hK.out _ _ hkb ?_; clear hK K
    try simp only [Act.put, List.setIfInBounds_toArray, List.set_cons_zero, List.set_cons_succ]
    -- 14: newsreel/newsreellaw23.name
    refine bopS 14 (o := _) (by simp only [List.getElem?_toArray, List.getElem?_cons_succ, List.getElem?_cons_zero]; rfl) (by kernel_rfl) (by rfl) (fun K hK => ?_)
    go_simp
    refine (name_any _ a.to hto).mono ?_
    rintro e w3b ⟨rfl, bw3b⟩
    have hq3b := hq3.below bw3b
    have hkb : AtS bx a.cells w3b := hq3b.boxAt (HA.out.2.2.2.1 _)
    refine hK.out _ _ hkb ?_; clear hK K
    try simp only [Act.put, List.setIfInBounds_toArray, List.set_cons_zero, List.set_cons_succ]
    -- 15: (*newsreel/newsreelref23.Disk).Rename
    refine bopS 15 (o := _) (by simp only [List.getElem?_toArray, List.getElem?_cons_succ, List.getElem?_cons_zero]; rfl) (by kernel_rfl) (by rfl) (fun K hK => ?_)
    go_simp
    refine (Pool.DRename hq3b (HA.out.2.1 _) HA.out.2.2.2.2.2.1 (by omega) _ _).mono ?_
    rintro e wz ⟨rfl, hqz⟩
    have hkb : AtS bx a.cells wz := hqz.boxAt (HA.out.2.2.2.2.2.2.2.2.1 _ _)
    refine hK.out _ _ hkb ?_; clear hK K
    try simp only [Act.put, List.setIfInBounds_toArray, List.set_cons_zero, List.set_cons_succ]
    refine btakeS 16 (oi := _) (v := ?_) (by simp only [List.getElem?_toArray, List.getElem?_cons_succ, List.getElem?_cons_zero]; rfl) (by kernel_rfl) (by exact fun _ _ _ h => h) (by first | assumption | exact KB.refl _) (.inl ⟨by rfl, fun W hW => ?_⟩) ?_; rotate_left
    · (go_simp; first | done | with_reducible rfl)
    try simp only [Act.put, List.setIfInBounds_toArray, List.set_cons_zero, List.set_cons_succ]
    refine btakeS 17 (oi := _) (v := ?_) (by simp only [List.getElem?_toArray, List.getElem?_cons_succ, List.getElem?_cons_zero]; rfl) (by kernel_rfl) (by exact fun _ _ _ h => h) (by first | assumption | exact KB.refl _) (.inl ⟨by rfl, fun W hW => ?_⟩) ?_; rotate_left
    · (go_simp; first | done | with_reducible rfl)
    try simp only [Act.put, List.setIfInBounds_toArray, List.set_cons_zero, List.set_cons_succ]
    refine bdoneS (by kernel_rfl) ?_
    clear e1 e2 e3 e5 hS0
    obtain ⟨F, H, hp, _⟩ := hqz.usePD (HA.out.2.2.2.2.2.2.2.2.2.1 _ _)
    obtain ⟨F2, H2, hd, _⟩ := hqz.useDD (HA.out.2.2.2.2.2.2.2.2.2.2 _ _)
    have HL := Lib.hid (And.intro (alike_any wz p d F H F2 H2 _ (n + 1) hp hd HA.out.2.2.2.2.2.2.1 (by omega)) hqz)
    clear hp hd hqz HPB HAT HML
    go_wp2_with (go_at_call 21; refine HL.out.1.mono ?_; rintro e wy ⟨rfl, hby⟩)
    go_ret
    exact ⟨rfl, HA.out.2.2.2.2.1 _ _ _ (HL.out.2.below hby)⟩
  · go_enter Try.func22, Try.ntmps22
    go_wp2_with fail
    generalize hbx : W.heap.size = bx at *
    generalize W.alloc (.cells a.cells.toArray 43) = W1 at *
    clear c0 c1 c2 c3 c4 c5 hwv hwz hwb
    have hq0 : Pool w0 L1 W1.drew := HPB.out.below (Below.refl _ _).drew
    have hS0 : AtS bx a.cells W1.drew := HAT.out
    have e1 : ∀ W, AtS bx a.cells W → W.cell? ⟨bx, 1, none⟩ = some (.int .u8 (a.na : Int)) := AtS.e 1 rfl
    have e2 : ∀ W, AtS bx a.cells W → W.cell? ⟨bx, 2, none⟩ = some (.int .u8 (a.to : Int)) := AtS.e 2 rfl
    have e3 : ∀ W, AtS bx a.cells W → W.cell? ⟨bx, 3, none⟩ = some (.int .i64 a.n) := AtS.e 3 rfl
    have e5 : ∀ W, AtS bx a.cells W → W.cell? ⟨bx, 5, none⟩ = some (.slice a.pA a.ps.length a.pc) := AtS.e 5 rfl
    refine bstartS (AtS bx a.cells) (by kernel_rfl) ?_
    refine btakeS 0 (oi := _) (v := ?_) (by simp only [List.getElem?_toArray, List.getElem?_cons_zero]; rfl) (by kernel_rfl) (by exact fun _ _ _ h => h) (by first | assumption | exact KB.refl _) (.inl ⟨by rfl, fun W hW => ?_⟩) ?_; rotate_left
    · (go_simp; first | done | with_reducible rfl)
    try simp only [Act.put, List.setIfInBounds_toArray, List.set_cons_zero, List.set_cons_succ]
    refine btakeS 1 (oi := _) (v := ?_) (by simp only [List.getElem?_toArray, List.getElem?_cons_succ, List.getElem?_cons_zero]; rfl) (by kernel_rfl) (by exact fun _ _ _ h => h) (by first | assumption | exact KB.refl _) (.inl ⟨by rfl, fun W hW => ?_⟩) ?_; rotate_left
    · (go_simp; first | done | with_reducible rfl)
    try simp only [Act.put, List.setIfInBounds_toArray, List.set_cons_zero, List.set_cons_succ]
    refine btakeS 2 (oi := _) (v := ?_) (by simp only [List.getElem?_toArray, List.getElem?_cons_succ, List.getElem?_cons_zero]; rfl) (by kernel_rfl) (by exact fun _ _ _ h => h) (by first | assumption | exact KB.refl _) (.inl ⟨by rfl, fun W hW => ?_⟩) ?_; rotate_left
    · (go_simp; first | done | with_reducible rfl)
    try simp only [Act.put, List.setIfInBounds_toArray, List.set_cons_zero, List.set_cons_succ]
    refine btakeS 4 (oi := _) (v := ?_) (by simp only [List.getElem?_toArray, List.getElem?_cons_succ, List.getElem?_cons_zero]; rfl) (by kernel_rfl) (by exact fun _ _ _ h => h) (by first | assumption | exact KB.refl _) (.inl ⟨by rfl, fun W hW => ?_⟩) ?_; rotate_left
    · (go_simp; first | done | with_reducible rfl)
    try simp only [Act.put, List.setIfInBounds_toArray, List.set_cons_zero, List.set_cons_succ]
    refine btakeS 5 (oi := _) (v := ?_) (by simp only [List.getElem?_toArray, List.getElem?_cons_succ, List.getElem?_cons_zero]; rfl) (by kernel_rfl) (by exact fun _ _ _ h => h) (by first | assumption | exact KB.refl _) (.inl ⟨by rfl, fun W hW => ?_⟩) ?_; rotate_left
    · (go_simp; first | done | with_reducible rfl)
    try simp only [Act.put, List.setIfInBounds_toArray, List.set_cons_zero, List.set_cons_succ]
    refine btakeS 8 (oi := _) (v := ?_) (by simp only [List.getElem?_toArray, List.getElem?_cons_succ, List.getElem?_cons_zero]; rfl) (by kernel_rfl) (by exact fun _ _ _ h => h) (by first | assumption | exact KB.refl _) (.inl ⟨by rfl, fun W hW => ?_⟩) ?_; rotate_left
    · (go_simp; first | done | with_reducible rfl)
    try simp only [Act.put, List.setIfInBounds_toArray, List.set_cons_zero, List.set_cons_succ]
    refine btakeS 9 (oi := _) (v := ?_) (by simp only [List.getElem?_toArray, List.getElem?_cons_succ, List.getElem?_cons_zero]; rfl) (by kernel_rfl) (by exact fun _ _ _ h => h) (by first | assumption | exact KB.refl _) (.inl ⟨by rfl, fun W hW => ?_⟩) ?_; rotate_left
    · (go_simp; first | done | with_reducible rfl)
    try simp only [Act.put, List.setIfInBounds_toArray, List.set_cons_zero, List.set_cons_succ]
    refine btakeS 10 (oi := _) (v := ?_) (by simp only [List.getElem?_toArray, List.getElem?_cons_succ, List.getElem?_cons_zero]; rfl) (by kernel_rfl) (by exact fun _ _ _ h => h) (by first | assumption | exact KB.refl _) (.inl ⟨by rfl, fun W hW => ?_⟩) ?_; rotate_left
    · (go_simp; first | done | with_reducible rfl)
    try simp only [Act.put, List.setIfInBounds_toArray, List.set_cons_zero, List.set_cons_succ]
    refine btakeS 12 (oi := _) (v := ?_) (by simp only [List.getElem?_toArray, List.getElem?_cons_succ, List.getElem?_cons_zero]; rfl) (by kernel_rfl) (by exact fun _ _ _ h => h) (by first | assumption | exact KB.refl _) (.inl ⟨by rfl, fun W hW => ?_⟩) ?_; rotate_left
    · (go_simp; first | done | with_reducible rfl)
    try simp only [Act.put, List.setIfInBounds_toArray, List.set_cons_zero, List.set_cons_succ]
    refine btakeS 13 (oi := _) (v := ?_) (by simp only [List.getElem?_toArray, List.getElem?_cons_succ, List.getElem?_cons_zero]; rfl) (by kernel_rfl) (by exact fun _ _ _ h => h) (by first | assumption | exact KB.refl _) (.inl ⟨by rfl, fun W hW => ?_⟩) ?_; rotate_left
    · (go_simp; first | done | with_reducible rfl)
    try simp only [Act.put, List.setIfInBounds_toArray, List.set_cons_zero, List.set_cons_succ]
    -- 3: newsreel/newsreellaw23.name
    refine bopS 3 (o := _) (by simp only [List.getElem?_toArray, List.getElem?_cons_succ, List.getElem?_cons_zero]; rfl) (by kernel_rfl) (by rfl) (fun K hK => ?_)
    go_simp
    refine (name_any _ a.na hna).mono ?_
    rintro e w1 ⟨rfl, bw1⟩
    have hq1 := hq0.below bw1
    have hkb : AtS bx a.cells w1 := hq1.boxAt HA.out.2.2.1
    refine hK.out _ _ hkb ?_; clear hK K
    try simp only [Act.put, List.setIfInBounds_toArray, List.set_cons_zero, List.set_cons_succ]
    -- 6: newsreel/newsreellaw23.name
    refine bopS 6 (o := _) (by simp only [List.getElem?_toArray, List.getElem?_cons_succ, List.getElem?_cons_zero]; rfl) (by kernel_rfl) (by rfl) (fun K hK => ?_)
    go_simp
    refine (name_any _ a.to hto).mono ?_
    rintro e w1b ⟨rfl, bw1b⟩
    have hq1b := hq1.below bw1b
    have hkb : AtS bx a.cells w1b := hq1b.boxAt HA.out.2.2.1
    refine hK.out _ _ hkb ?_; clear hK K
    try simp only [Act.put, List.setIfInBounds_toArray, List.set_cons_zero, List.set_cons_succ]
    -- 7: (*newsreel/disk.Disk).Rename
    refine bopS 7 (o := _) (by simp only [List.getElem?_toArray, List.getElem?_cons_succ, List.getElem?_cons_zero]; rfl) (by kernel_rfl) (by rfl) (fun K hK => ?_)
    go_simp
    refine (Pool.PRename hq1b HA.out.1 HA.out.2.2.2.2.2.1 (by omega) _ _ hla hlb).mono ?_
    rintro e w2 ⟨rfl, hq2⟩
    have hkb : AtS bx a.cells w2 := hq2.boxAt (HA.out.2.2.2.1 _)
    refine hK.out _ _ hkb ?_; clear hK K
    try simp only [Act.put, List.setIfInBounds_toArray, List.set_cons_zero, List.set_cons_succ]
    -- 11: newsreel/newsreellaw23.name
    refine bopS 11 (o := _) (by simp only [List.getElem?_toArray, List.getElem?_cons_succ, List.getElem?_cons_zero]; rfl) (by kernel_rfl) (by rfl) (fun K hK => ?_)
    go_simp
    refine (name_any _ a.na hna).mono ?_
    rintro e w3 ⟨rfl, bw3⟩
    have hq3 := hq2.below bw3
    have hkb : AtS bx a.cells w3 := hq3.boxAt (HA.out.2.2.2.1 _)
    refine hK.out _ _ hkb ?_; clear hK K
    try simp only [Act.put, List.setIfInBounds_toArray, List.set_cons_zero, List.set_cons_succ]
    -- 14: newsreel/newsreellaw23.name
    refine bopS 14 (o := _) (by simp only [List.getElem?_toArray, List.getElem?_cons_succ, List.getElem?_cons_zero]; rfl) (by kernel_rfl) (by rfl) (fun K hK => ?_)
    go_simp
    refine (name_any _ a.to hto).mono ?_
    rintro e w3b ⟨rfl, bw3b⟩
    have hq3b := hq3.below bw3b
    have hkb : AtS bx a.cells w3b := hq3b.boxAt (HA.out.2.2.2.1 _)
    refine hK.out _ _ hkb ?_; clear hK K
    try simp only [Act.put, List.setIfInBounds_toArray, List.set_cons_zero, List.set_cons_succ]
    -- 15: (*newsreel/newsreelref23.Disk).Rename
    refine bopS 15 (o := _) (by simp only [List.getElem?_toArray, List.getElem?_cons_succ, List.getElem?_cons_zero]; rfl) (by kernel_rfl) (by rfl) (fun K hK => ?_)
    go_simp
    refine (Pool.DRename hq3b (HA.out.2.1 _) HA.out.2.2.2.2.2.1 (by omega) _ _).mono ?_
    rintro e wz ⟨rfl, hqz⟩
    have hkb : AtS bx a.cells wz := hqz.boxAt (HA.out.2.2.2.2.2.2.2.2.1 _ _)
    refine hK.out _ _ hkb ?_; clear hK K
    try simp only [Act.put, List.setIfInBounds_toArray, List.set_cons_zero, List.set_cons_succ]
    refine btakeS 16 (oi := _) (v := ?_) (by simp only [List.getElem?_toArray, List.getElem?_cons_succ, List.getElem?_cons_zero]; rfl) (by kernel_rfl) (by exact fun _ _ _ h => h) (by first | assumption | exact KB.refl _) (.inl ⟨by rfl, fun W hW => ?_⟩) ?_; rotate_left
    · (go_simp; first | done | with_reducible rfl)
    try simp only [Act.put, List.setIfInBounds_toArray, List.set_cons_zero, List.set_cons_succ]
    refine btakeS 17 (oi := _) (v := ?_) (by simp only [List.getElem?_toArray, List.getElem?_cons_succ, List.getElem?_cons_zero]; rfl) (by kernel_rfl) (by exact fun _ _ _ h => h) (by first | assumption | exact KB.refl _) (.inl ⟨by rfl, fun W hW => ?_⟩) ?_; rotate_left
    · (go_simp; first | done | with_reducible rfl)
    try simp only [Act.put, List.setIfInBounds_toArray, List.set_cons_zero, List.set_cons_succ]
    refine bdoneS (by kernel_rfl) ?_
    clear e1 e2 e3 e5 hS0
    obtain ⟨F, H, hp, _⟩ := hqz.usePD (HA.out.2.2.2.2.2.2.2.2.2.1 _ _)
    obtain ⟨F2, H2, hd, _⟩ := hqz.useDD (HA.out.2.2.2.2.2.2.2.2.2.2 _ _)
    have HL := Lib.hid (And.intro (alike_any wz p d F H F2 H2 _ (n + 1) hp hd HA.out.2.2.2.2.2.2.1 (by omega)) hqz)
    clear hp hd hqz HPB HAT HML
    go_wp2_with (go_at_call 21; refine HL.out.1.mono ?_; rintro e wy ⟨rfl, hby⟩)
    go_ret
    exact ⟨rfl, HA.out.2.2.2.2.1 _ _ _ (HL.out.2.below hby)⟩
set_option maxRecDepth 100000 in
set_option maxHeartbeats 6400000 in
theorem play_remove (w0 W : World) (L : List Ob) (i j p d : Nat) (s : DK) (n : Nat) (hP : Pool w0 L W) (hi : L[i]? = some (Ob.P p s)) (hj : L[j]? = some (Ob.D d s)) (hne : i ≠ j) (hok : s.ok n) (hn : n < 999999) (a : AK) (ha : a.ok w0) (hwh : a.wh % 16 = 12) :
    Calls Try.prog 22 #[.pointer (some ⟨p, 0, none⟩), .pointer (some ⟨d, 0, none⟩), .agg a.cells.toArray] W fun e W' => e = .returned (.bool true) ∧ Pool w0 ((L.set i (Ob.P p (actK s a).2)).set j (Ob.D d (actK s a).2)) W' := by
  have hPB : Pool w0 (L ++ [Ob.B W.heap.size a.cells]) (W.alloc (.cells a.cells.toArray 43)) := hP.box 43 a.cells
  have hli := (List.getElem?_eq_some_iff.1 hi).1
  have hlj := (List.getElem?_eq_some_iff.1 hj).1
  have hi1 : (L ++ [Ob.B W.heap.size a.cells])[i]? = some (Ob.P p s) := by rw [List.getElem?_append_left hli]; exact hi
  have hj1 : (L ++ [Ob.B W.heap.size a.cells])[j]? = some (Ob.D d s) := by rw [List.getElem?_append_left hlj]; exact hj
  have hk1 : (L ++ [Ob.B W.heap.size a.cells])[L.length]? = some (Ob.B W.heap.size a.cells) := by rw [List.getElem?_append_right (Nat.le_refl _), Nat.sub_self]; rfl
  have hki : i ≠ L.length := by omega
  have hkj : j ≠ L.length := by omega
  have hfin : ∀ (W' : World) (x y : Ob), Pool w0 (((L ++ [Ob.B W.heap.size a.cells]).set i x).set j y) W' → Pool w0 ((L.set i x).set j y) W' := fun W' x y h => by
    rw [List.set_append_left _ _ hli, List.set_append_left _ _ (by rw [List.length_set]; exact hlj)] at h
    exact h.drop
  have hat := hPB.boxAt hk1
  obtain ⟨L1, hL1⟩ : ∃ L1, L ++ [Ob.B W.heap.size a.cells] = L1 := ⟨_, rfl⟩
  rw [hL1] at hPB hi1 hj1 hk1 hfin
  clear hP hi hj hli hlj hL1
  have hac : actK s a = (s.remove (nameOf a.na)) := by
    unfold actK
    simp [hwh]
  rw [hac]
  have hok1 : (s.remove (nameOf a.na)).2.ok (n + 1) := by have := actK_ok hok (a := a) ha.n0 ha.n1; rw [hac] at this; exact this
  have hne' : j ≠ i := Ne.symm hne
  have hla := nameOf_len a.na
  have hlb := nameOf_len a.to
  have hi2 := fun o => set_apart (L := L1) (o' := o) hne' hi1
  have hj2 := fun o => set_apart (L := L1) (o' := o) hne hj1
  have hk2 := fun o => set_apart (L := L1) (o' := o) hki hk1
  have hk3 := fun x y => set_apart (L := L1.set i x) (o' := y) hkj (hk2 x)
  have hi3 : ∀ x y : Ob, ((L1.set i x).set j y)[i]? = some x := fun x y => set_apart hne' (List.getElem?_set_self (List.getElem?_eq_some_iff.1 hi1).1)
  have hj3 : ∀ x y : Ob, ((L1.set i x).set j y)[j]? = some y := fun x y => List.getElem?_set_self (by rw [List.length_set]; exact (List.getElem?_eq_some_iff.1 hj1).1)
  have HA := Lib.hid (And.intro hi1 (And.intro hj2 (And.intro hk1 (And.intro hk2 (And.intro hfin (And.intro hok (And.intro hok1 (And.intro ha (And.intro hk3 (And.intro hi3 hj3))))))))))
  have hna := ha.na
  have hto := ha.to
  have hwb := ha.wh
  have hn0 := ha.n0
  have hn1 := ha.n1
  have hbl := ha.bl
  have HPB := Lib.hid hPB
  have HAT := Lib.hid hat
  have c0 := hat.c 0 rfl
  have c1 := hat.c 1 rfl
  have c2 := hat.c 2 rfl
  have c3 := hat.c 3 rfl
  have c4 := hat.c 4 rfl
  have c5 := hat.c 5 rfl
  have hwi : ∃ v : Nat, a.wh % 16 = v ∧ (v = 12) := ⟨_, rfl, hwh⟩
  obtain ⟨wv, hwv, hwc⟩ := hwi
  have hwz : ((a.wh : Int) % 16) = (wv : Int) := by omega
  obtain ⟨ml, hml⟩ : ∃ ml, min a.b.length 40 = ml := ⟨_, rfl⟩
  have HML := Lib.hid (And.intro (show (a.b.take 40).length = ml by rw [List.length_take, Nat.min_comm]; exact hml) (show Sl w0 w0.heap.size a.bA (bv (a.b.take 40)) by rw [← bv_take]; exact ha.b.tk 40))
  have hml40 : ml ≤ 40 := by omega
  have hmlb : ml ≤ a.bc := by omega
  clear hac hok1 hok ha hat hi1 hj1 hk1 hki hkj hfin hPB hi2 hj2 hk2 hwh hml hne hne' hk3 hi3 hj3
  rcases hwc with rfl
  · go_enter Try.func22, Try.ntmps22
    go_wp2_with fail
    generalize hbx : W.heap.size = bx at *
    generalize W.alloc (.cells a.cells.toArray 43) = W1 at *
    clear c0 c1 c2 c3 c4 c5 hwv hwz hwb
    have hq0 : Pool w0 L1 W1.drew := HPB.out.below (Below.refl _ _).drew
    have hS0 : AtS bx a.cells W1.drew := HAT.out
    have e1 : ∀ W, AtS bx a.cells W → W.cell? ⟨bx, 1, none⟩ = some (.int .u8 (a.na : Int)) := AtS.e 1 rfl
    have e2 : ∀ W, AtS bx a.cells W → W.cell? ⟨bx, 2, none⟩ = some (.int .u8 (a.to : Int)) := AtS.e 2 rfl
    have e3 : ∀ W, AtS bx a.cells W → W.cell? ⟨bx, 3, none⟩ = some (.int .i64 a.n) := AtS.e 3 rfl
    have e5 : ∀ W, AtS bx a.cells W → W.cell? ⟨bx, 5, none⟩ = some (.slice a.pA a.ps.length a.pc) := AtS.e 5 rfl
    refine bstartS (AtS bx a.cells) (by kernel_rfl) ?_
    refine btakeS 0 (oi := _) (v := ?_) (by simp only [List.getElem?_toArray, List.getElem?_cons_zero]; rfl) (by kernel_rfl) (by exact fun _ _ _ h => h) (by first | assumption | exact KB.refl _) (.inl ⟨by rfl, fun W hW => ?_⟩) ?_; rotate_left
    · (go_simp; first | done | with_reducible rfl)
    try simp only [Act.put, List.setIfInBounds_toArray, List.set_cons_zero, List.set_cons_succ]
    refine btakeS 1 (oi := _) (v := ?_) (by simp only [List.getElem?_toArray, List.getElem?_cons_succ, List.getElem?_cons_zero]; rfl) (by kernel_rfl) (by exact fun _ _ _ h => h) (by first | assumption | exact KB.refl _) (.inl ⟨by rfl, fun W hW => ?_⟩) ?_; rotate_left
    · (go_simp; first | done | with_reducible rfl)
    try simp only [Act.put, List.setIfInBounds_toArray, List.set_cons_zero, List.set_cons_succ]
    refine btakeS 2 (oi := _) (v := ?_) (by simp only [List.getElem?_toArray, List.getElem?_cons_succ, List.getElem?_cons_zero]; rfl) (by kernel_rfl) (by exact fun _ _ _ h => h) (by first | assumption | exact KB.refl _) (.inl ⟨by rfl, fun W hW => ?_⟩) ?_; rotate_left
    · (go_simp; first | done | with_reducible rfl)
    try simp only [Act.put, List.setIfInBounds_toArray, List.set_cons_zero, List.set_cons_succ]
    refine btakeS 5 (oi := _) (v := ?_) (by simp only [List.getElem?_toArray, List.getElem?_cons_succ, List.getElem?_cons_zero]; rfl) (by kernel_rfl) (by exact fun _ _ _ h => h) (by first | assumption | exact KB.refl _) (.inl ⟨by rfl, fun W hW => ?_⟩) ?_; rotate_left
    · (go_simp; first | done | with_reducible rfl)
    try simp only [Act.put, List.setIfInBounds_toArray, List.set_cons_zero, List.set_cons_succ]
    refine btakeS 6 (oi := _) (v := ?_) (by simp only [List.getElem?_toArray, List.getElem?_cons_succ, List.getElem?_cons_zero]; rfl) (by kernel_rfl) (by exact fun _ _ _ h => h) (by first | assumption | exact KB.refl _) (.inl ⟨by rfl, fun W hW => ?_⟩) ?_; rotate_left
    · (go_simp; first | done | with_reducible rfl)
    try simp only [Act.put, List.setIfInBounds_toArray, List.set_cons_zero, List.set_cons_succ]
    refine btakeS 7 (oi := _) (v := ?_) (by simp only [List.getElem?_toArray, List.getElem?_cons_succ, List.getElem?_cons_zero]; rfl) (by kernel_rfl) (by exact fun _ _ _ h => h) (by first | assumption | exact KB.refl _) (.inl ⟨by rfl, fun W hW => ?_⟩) ?_; rotate_left
    · (go_simp; first | done | with_reducible rfl)
    try simp only [Act.put, List.setIfInBounds_toArray, List.set_cons_zero, List.set_cons_succ]
    -- 3: newsreel/newsreellaw23.name
    refine bopS 3 (o := _) (by simp only [List.getElem?_toArray, List.getElem?_cons_succ, List.getElem?_cons_zero]; rfl) (by kernel_rfl) (by rfl) (fun K hK => ?_)
    go_simp
    refine (name_any _ a.na hna).mono ?_
    rintro e w1 ⟨rfl, bw1⟩
    have hq1 := hq0.below bw1
    have hkb : AtS bx a.cells w1 := hq1.boxAt HA.out.2.2.1
    refine hK.out _ _ hkb ?_; clear hK K
    try simp only [Act.put, List.setIfInBounds_toArray, List.set_cons_zero, List.set_cons_succ]
    -- 4: (*newsreel/disk.Disk).Remove
    refine bopS 4 (o := _) (by simp only [List.getElem?_toArray, List.getElem?_cons_succ, List.getElem?_cons_zero]; rfl) (by kernel_rfl) (by rfl) (fun K hK => ?_)
    go_simp
    refine (Pool.PRemove hq1 HA.out.1 HA.out.2.2.2.2.2.1 (by omega) _ hla).mono ?_
    rintro e w2 ⟨rfl, hq2⟩
    have hkb : AtS bx a.cells w2 := hq2.boxAt (HA.out.2.2.2.1 _)
    refine hK.out _ _ hkb ?_; clear hK K
    try simp only [Act.put, List.setIfInBounds_toArray, List.set_cons_zero, List.set_cons_succ]
    -- 8: newsreel/newsreellaw23.name
    refine bopS 8 (o := _) (by simp only [List.getElem?_toArray, List.getElem?_cons_succ, List.getElem?_cons_zero]; rfl) (by kernel_rfl) (by rfl) (fun K hK => ?_)
    go_simp
    refine (name_any _ a.na hna).mono ?_
    rintro e w3 ⟨rfl, bw3⟩
    have hq3 := hq2.below bw3
    have hkb : AtS bx a.cells w3 := hq3.boxAt (HA.out.2.2.2.1 _)
    refine hK.out _ _ hkb ?_; clear hK K
    try simp only [Act.put, List.setIfInBounds_toArray, List.set_cons_zero, List.set_cons_succ]
    -- 9: (*newsreel/newsreelref23.Disk).Remove
    refine bopS 9 (o := _) (by simp only [List.getElem?_toArray, List.getElem?_cons_succ, List.getElem?_cons_zero]; rfl) (by kernel_rfl) (by rfl) (fun K hK => ?_)
    go_simp
    refine (Pool.DRemove hq3 (HA.out.2.1 _) HA.out.2.2.2.2.2.1 (by omega) _).mono ?_
    rintro e wz ⟨rfl, hqz⟩
    have hkb : AtS bx a.cells wz := hqz.boxAt (HA.out.2.2.2.2.2.2.2.2.1 _ _)
    refine hK.out _ _ hkb ?_; clear hK K
    try simp only [Act.put, List.setIfInBounds_toArray, List.set_cons_zero, List.set_cons_succ]
    refine btakeS 10 (oi := _) (v := ?_) (by simp only [List.getElem?_toArray, List.getElem?_cons_succ, List.getElem?_cons_zero]; rfl) (by kernel_rfl) (by exact fun _ _ _ h => h) (by first | assumption | exact KB.refl _) (.inl ⟨by rfl, fun W hW => ?_⟩) ?_; rotate_left
    · (go_simp; first | done | with_reducible rfl)
    try simp only [Act.put, List.setIfInBounds_toArray, List.set_cons_zero, List.set_cons_succ]
    refine btakeS 11 (oi := _) (v := ?_) (by simp only [List.getElem?_toArray, List.getElem?_cons_succ, List.getElem?_cons_zero]; rfl) (by kernel_rfl) (by exact fun _ _ _ h => h) (by first | assumption | exact KB.refl _) (.inl ⟨by rfl, fun W hW => ?_⟩) ?_; rotate_left
    · (go_simp; first | done | with_reducible rfl)
    try simp only [Act.put, List.setIfInBounds_toArray, List.set_cons_zero, List.set_cons_succ]
    refine bdoneS (by kernel_rfl) ?_
    clear e1 e2 e3 e5 hS0
    obtain ⟨F, H, hp, _⟩ := hqz.usePD (HA.out.2.2.2.2.2.2.2.2.2.1 _ _)
    obtain ⟨F2, H2, hd, _⟩ := hqz.useDD (HA.out.2.2.2.2.2.2.2.2.2.2 _ _)
    have HL := Lib.hid (And.intro (alike_any wz p d F H F2 H2 _ (n + 1) hp hd HA.out.2.2.2.2.2.2.1 (by omega)) hqz)
    clear hp hd hqz HPB HAT HML
    go_wp2_with (go_at_call 21; refine HL.out.1.mono ?_; rintro e wy ⟨rfl, hby⟩)
    go_ret
    exact ⟨rfl, HA.out.2.2.2.2.1 _ _ _ (HL.out.2.below hby)⟩
set_option maxRecDepth 100000 in
set_option maxHeartbeats 6400000 in
theorem play_armA (w0 W : World) (L : List Ob) (i j p d : Nat) (s : DK) (n : Nat) (hP : Pool w0 L W) (hi : L[i]? = some (Ob.P p s)) (hj : L[j]? = some (Ob.D d s)) (hne : i ≠ j) (hok : s.ok n) (hn : n < 999999) (a : AK) (ha : a.ok w0) (hwh : a.wh % 16 = 13) :
    Calls Try.prog 22 #[.pointer (some ⟨p, 0, none⟩), .pointer (some ⟨d, 0, none⟩), .agg a.cells.toArray] W fun e W' => e = .returned (.bool true) ∧ Pool w0 ((L.set i (Ob.P p (actK s a).2)).set j (Ob.D d (actK s a).2)) W' := by
  have hPB : Pool w0 (L ++ [Ob.B W.heap.size a.cells]) (W.alloc (.cells a.cells.toArray 43)) := hP.box 43 a.cells
  have hli := (List.getElem?_eq_some_iff.1 hi).1
  have hlj := (List.getElem?_eq_some_iff.1 hj).1
  have hi1 : (L ++ [Ob.B W.heap.size a.cells])[i]? = some (Ob.P p s) := by rw [List.getElem?_append_left hli]; exact hi
  have hj1 : (L ++ [Ob.B W.heap.size a.cells])[j]? = some (Ob.D d s) := by rw [List.getElem?_append_left hlj]; exact hj
  have hk1 : (L ++ [Ob.B W.heap.size a.cells])[L.length]? = some (Ob.B W.heap.size a.cells) := by rw [List.getElem?_append_right (Nat.le_refl _), Nat.sub_self]; rfl
  have hki : i ≠ L.length := by omega
  have hkj : j ≠ L.length := by omega
  have hfin : ∀ (W' : World) (x y : Ob), Pool w0 (((L ++ [Ob.B W.heap.size a.cells]).set i x).set j y) W' → Pool w0 ((L.set i x).set j y) W' := fun W' x y h => by
    rw [List.set_append_left _ _ hli, List.set_append_left _ _ (by rw [List.length_set]; exact hlj)] at h
    exact h.drop
  have hat := hPB.boxAt hk1
  obtain ⟨L1, hL1⟩ : ∃ L1, L ++ [Ob.B W.heap.size a.cells] = L1 := ⟨_, rfl⟩
  rw [hL1] at hPB hi1 hj1 hk1 hfin
  clear hP hi hj hli hlj hL1
  have hac : actK s a = ((0, s.armed ((a.to % 6 : Nat) : Int) a.n)) := by
    unfold actK
    simp [hwh]
  rw [hac]
  have hok1 : ((0, s.armed ((a.to % 6 : Nat) : Int) a.n)).2.ok (n + 1) := by have := actK_ok hok (a := a) ha.n0 ha.n1; rw [hac] at this; exact this
  have hne' : j ≠ i := Ne.symm hne
  have hla := nameOf_len a.na
  have hlb := nameOf_len a.to
  have hi2 := fun o => set_apart (L := L1) (o' := o) hne' hi1
  have hj2 := fun o => set_apart (L := L1) (o' := o) hne hj1
  have hk2 := fun o => set_apart (L := L1) (o' := o) hki hk1
  have hk3 := fun x y => set_apart (L := L1.set i x) (o' := y) hkj (hk2 x)
  have hi3 : ∀ x y : Ob, ((L1.set i x).set j y)[i]? = some x := fun x y => set_apart hne' (List.getElem?_set_self (List.getElem?_eq_some_iff.1 hi1).1)
  have hj3 : ∀ x y : Ob, ((L1.set i x).set j y)[j]? = some y := fun x y => List.getElem?_set_self (by rw [List.length_set]; exact (List.getElem?_eq_some_iff.1 hj1).1)
  have HA := Lib.hid (And.intro hi1 (And.intro hj2 (And.intro hk1 (And.intro hk2 (And.intro hfin (And.intro hok (And.intro hok1 (And.intro ha (And.intro hk3 (And.intro hi3 hj3))))))))))
  have hna := ha.na
  have hto := ha.to
  have hwb := ha.wh
  have hn0 := ha.n0
  have hn1 := ha.n1
  have hbl := ha.bl
  have HPB := Lib.hid hPB
  have HAT := Lib.hid hat
  have c0 := hat.c 0 rfl
  have c1 := hat.c 1 rfl
  have c2 := hat.c 2 rfl
  have c3 := hat.c 3 rfl
  have c4 := hat.c 4 rfl
  have c5 := hat.c 5 rfl
  have hwi : ∃ v : Nat, a.wh % 16 = v ∧ (v = 13) := ⟨_, rfl, hwh⟩
  obtain ⟨wv, hwv, hwc⟩ := hwi
  have hwz : ((a.wh : Int) % 16) = (wv : Int) := by omega
  obtain ⟨ml, hml⟩ : ∃ ml, min a.b.length 40 = ml := ⟨_, rfl⟩
  have HML := Lib.hid (And.intro (show (a.b.take 40).length = ml by rw [List.length_take, Nat.min_comm]; exact hml) (show Sl w0 w0.heap.size a.bA (bv (a.b.take 40)) by rw [← bv_take]; exact ha.b.tk 40))
  have hml40 : ml ≤ 40 := by omega
  have hmlb : ml ≤ a.bc := by omega
  clear hac hok1 hok ha hat hi1 hj1 hk1 hki hkj hfin hPB hi2 hj2 hk2 hwh hml hne hne' hk3 hi3 hj3
  obtain ⟨tn, htn⟩ : ∃ t, a.to % 6 = t := ⟨_, rfl⟩
  have hti : ((a.to : Int) % 6) = (tn : Int) := by omega
  rw [htn] at HA ⊢
  rcases hwc with rfl
  · go_enter Try.func22, Try.ntmps22
    go_wp2_with fail
    generalize hbx : W.heap.size = bx at *
    generalize W.alloc (.cells a.cells.toArray 43) = W1 at *
    clear c0 c1 c2 c3 c4 c5 hwv hwz hwb
    have hq0 : Pool w0 L1 W1.drew := HPB.out.below (Below.refl _ _).drew
    have hS0 : AtS bx a.cells W1.drew := HAT.out
    have e1 : ∀ W, AtS bx a.cells W → W.cell? ⟨bx, 1, none⟩ = some (.int .u8 (a.na : Int)) := AtS.e 1 rfl
    have e2 : ∀ W, AtS bx a.cells W → W.cell? ⟨bx, 2, none⟩ = some (.int .u8 (a.to : Int)) := AtS.e 2 rfl
    have e3 : ∀ W, AtS bx a.cells W → W.cell? ⟨bx, 3, none⟩ = some (.int .i64 a.n) := AtS.e 3 rfl
    have e5 : ∀ W, AtS bx a.cells W → W.cell? ⟨bx, 5, none⟩ = some (.slice a.pA a.ps.length a.pc) := AtS.e 5 rfl
    clear e1 e2 e3 e5 hS0
    refine (Pool.PArm HPB.out HA.out.1 HA.out.2.2.2.2.2.1 (by omega) (tn : Int) a.n (by omega) (by omega)).mono ?_
    rintro e w2 ⟨rfl, hq2⟩
    have hat2 := hq2.boxAt (HA.out.2.2.2.1 _)
    have c2 := hat2.c 2 rfl
    have c3 := hat2.c 3 rfl
    clear hat2
    go_wp2_with fail
    refine (Pool.DArm hq2 (HA.out.2.1 _) HA.out.2.2.2.2.2.1 (by omega) (tn : Int) a.n (by omega) (by omega)).mono ?_
    rintro e wz ⟨rfl, hqz⟩
    clear c2 c3
    obtain ⟨F, H, hp, _⟩ := hqz.usePD (HA.out.2.2.2.2.2.2.2.2.2.1 _ _)
    obtain ⟨F2, H2, hd, _⟩ := hqz.useDD (HA.out.2.2.2.2.2.2.2.2.2.2 _ _)
    have HL := Lib.hid (And.intro (alike_any wz p d F H F2 H2 _ (n + 1) hp hd HA.out.2.2.2.2.2.2.1 (by omega)) hqz)
    clear hp hd hqz HPB HAT HML
    go_wp2_with (go_at_call 21; refine HL.out.1.mono ?_; rintro e wy ⟨rfl, hby⟩)
    go_ret
    exact ⟨rfl, HA.out.2.2.2.2.1 _ _ _ (HL.out.2.below hby)⟩
set_option maxRecDepth 100000 in
set_option maxHeartbeats 6400000 in
theorem play_crash (w0 W : World) (L : List Ob) (i j p d : Nat) (s : DK) (n : Nat) (hP : Pool w0 L W) (hi : L[i]? = some (Ob.P p s)) (hj : L[j]? = some (Ob.D d s)) (hne : i ≠ j) (hok : s.ok n) (hn : n < 999999) (a : AK) (ha : a.ok w0) (hwh : a.wh % 16 = 14) :
    Calls Try.prog 22 #[.pointer (some ⟨p, 0, none⟩), .pointer (some ⟨d, 0, none⟩), .agg a.cells.toArray] W fun e W' => e = .returned (.bool true) ∧ Pool w0 ((L.set i (Ob.P p (actK s a).2)).set j (Ob.D d (actK s a).2)) W' := by
  have hPB : Pool w0 (L ++ [Ob.B W.heap.size a.cells]) (W.alloc (.cells a.cells.toArray 43)) := hP.box 43 a.cells
  have hli := (List.getElem?_eq_some_iff.1 hi).1
  have hlj := (List.getElem?_eq_some_iff.1 hj).1
  have hi1 : (L ++ [Ob.B W.heap.size a.cells])[i]? = some (Ob.P p s) := by rw [List.getElem?_append_left hli]; exact hi
  have hj1 : (L ++ [Ob.B W.heap.size a.cells])[j]? = some (Ob.D d s) := by rw [List.getElem?_append_left hlj]; exact hj
  have hk1 : (L ++ [Ob.B W.heap.size a.cells])[L.length]? = some (Ob.B W.heap.size a.cells) := by rw [List.getElem?_append_right (Nat.le_refl _), Nat.sub_self]; rfl
  have hki : i ≠ L.length := by omega
  have hkj : j ≠ L.length := by omega
  have hfin : ∀ (W' : World) (x y : Ob), Pool w0 (((L ++ [Ob.B W.heap.size a.cells]).set i x).set j y) W' → Pool w0 ((L.set i x).set j y) W' := fun W' x y h => by
    rw [List.set_append_left _ _ hli, List.set_append_left _ _ (by rw [List.length_set]; exact hlj)] at h
    exact h.drop
  have hat := hPB.boxAt hk1
  obtain ⟨L1, hL1⟩ : ∃ L1, L ++ [Ob.B W.heap.size a.cells] = L1 := ⟨_, rfl⟩
  rw [hL1] at hPB hi1 hj1 hk1 hfin
  clear hP hi hj hli hlj hL1
  have hac : actK s a = ((0, s.crash a.ps)) := by
    unfold actK
    simp [hwh]
  rw [hac]
  have hok1 : ((0, s.crash a.ps)).2.ok (n + 1) := by have := actK_ok hok (a := a) ha.n0 ha.n1; rw [hac] at this; exact this
  have hne' : j ≠ i := Ne.symm hne
  have hla := nameOf_len a.na
  have hlb := nameOf_len a.to
  have hi2 := fun o => set_apart (L := L1) (o' := o) hne' hi1
  have hj2 := fun o => set_apart (L := L1) (o' := o) hne hj1
  have hk2 := fun o => set_apart (L := L1) (o' := o) hki hk1
  have hk3 := fun x y => set_apart (L := L1.set i x) (o' := y) hkj (hk2 x)
  have hi3 : ∀ x y : Ob, ((L1.set i x).set j y)[i]? = some x := fun x y => set_apart hne' (List.getElem?_set_self (List.getElem?_eq_some_iff.1 hi1).1)
  have hj3 : ∀ x y : Ob, ((L1.set i x).set j y)[j]? = some y := fun x y => List.getElem?_set_self (by rw [List.length_set]; exact (List.getElem?_eq_some_iff.1 hj1).1)
  have HA := Lib.hid (And.intro hi1 (And.intro hj2 (And.intro hk1 (And.intro hk2 (And.intro hfin (And.intro hok (And.intro hok1 (And.intro ha (And.intro hk3 (And.intro hi3 hj3))))))))))
  have hna := ha.na
  have hto := ha.to
  have hwb := ha.wh
  have hn0 := ha.n0
  have hn1 := ha.n1
  have hbl := ha.bl
  have HPB := Lib.hid hPB
  have HAT := Lib.hid hat
  have c0 := hat.c 0 rfl
  have c1 := hat.c 1 rfl
  have c2 := hat.c 2 rfl
  have c3 := hat.c 3 rfl
  have c4 := hat.c 4 rfl
  have c5 := hat.c 5 rfl
  have hwi : ∃ v : Nat, a.wh % 16 = v ∧ (v = 14) := ⟨_, rfl, hwh⟩
  obtain ⟨wv, hwv, hwc⟩ := hwi
  have hwz : ((a.wh : Int) % 16) = (wv : Int) := by omega
  obtain ⟨ml, hml⟩ : ∃ ml, min a.b.length 40 = ml := ⟨_, rfl⟩
  have HML := Lib.hid (And.intro (show (a.b.take 40).length = ml by rw [List.length_take, Nat.min_comm]; exact hml) (show Sl w0 w0.heap.size a.bA (bv (a.b.take 40)) by rw [← bv_take]; exact ha.b.tk 40))
  have hml40 : ml ≤ 40 := by omega
  have hmlb : ml ≤ a.bc := by omega
  clear hac hok1 hok ha hat hi1 hj1 hk1 hki hkj hfin hPB hi2 hj2 hk2 hwh hml hne hne' hk3 hi3 hj3
  rcases hwc with rfl
  · go_enter Try.func22, Try.ntmps22
    go_wp2_with fail
    generalize hbx : W.heap.size = bx at *
    generalize W.alloc (.cells a.cells.toArray 43) = W1 at *
    clear c0 c1 c2 c3 c4 c5 hwv hwz hwb
    have hq0 : Pool w0 L1 W1.drew := HPB.out.below (Below.refl _ _).drew
    have hS0 : AtS bx a.cells W1.drew := HAT.out
    have e1 : ∀ W, AtS bx a.cells W → W.cell? ⟨bx, 1, none⟩ = some (.int .u8 (a.na : Int)) := AtS.e 1 rfl
    have e2 : ∀ W, AtS bx a.cells W → W.cell? ⟨bx, 2, none⟩ = some (.int .u8 (a.to : Int)) := AtS.e 2 rfl
    have e3 : ∀ W, AtS bx a.cells W → W.cell? ⟨bx, 3, none⟩ = some (.int .i64 a.n) := AtS.e 3 rfl
    have e5 : ∀ W, AtS bx a.cells W → W.cell? ⟨bx, 5, none⟩ = some (.slice a.pA a.ps.length a.pc) := AtS.e 5 rfl
    clear e1 e2 e3 e5 hS0
    refine (Pool.PCrash HPB.out HA.out.1 HA.out.2.2.2.2.2.1 (by omega) a.pA a.pc a.ps.length a.ps rfl (Nat.le_trans HA.out.2.2.2.2.2.2.2.1.pl HA.out.2.2.2.2.2.2.2.1.pm) HA.out.2.2.2.2.2.2.2.1.p).mono ?_
    rintro e w2 ⟨rfl, hq2⟩
    have hat2 := hq2.boxAt (HA.out.2.2.2.1 _)
    have c5 := hat2.c 5 rfl
    clear hat2
    go_wp2_with fail
    refine (Pool.DCrash hq2 (HA.out.2.1 _) HA.out.2.2.2.2.2.1 (by omega) a.pA a.pc a.ps.length a.ps rfl (Nat.le_trans HA.out.2.2.2.2.2.2.2.1.pl HA.out.2.2.2.2.2.2.2.1.pm) HA.out.2.2.2.2.2.2.2.1.p).mono ?_
    rintro e wz ⟨rfl, hqz⟩
    clear c5
    obtain ⟨F, H, hp, _⟩ := hqz.usePD (HA.out.2.2.2.2.2.2.2.2.2.1 _ _)
    obtain ⟨F2, H2, hd, _⟩ := hqz.useDD (HA.out.2.2.2.2.2.2.2.2.2.2 _ _)
    have HL := Lib.hid (And.intro (alike_any wz p d F H F2 H2 _ (n + 1) hp hd HA.out.2.2.2.2.2.2.1 (by omega)) hqz)
    clear hp hd hqz HPB HAT HML
    go_wp2_with (go_at_call 21; refine HL.out.1.mono ?_; rintro e wy ⟨rfl, hby⟩)
    go_ret
    exact ⟨rfl, HA.out.2.2.2.2.1 _ _ _ (HL.out.2.below hby)⟩
set_option maxRecDepth 100000 in
set_option maxHeartbeats 6400000 in
theorem play_armB (w0 W : World) (L : List Ob) (i j p d : Nat) (s : DK) (n : Nat) (hP : Pool w0 L W) (hi : L[i]? = some (Ob.P p s)) (hj : L[j]? = some (Ob.D d s)) (hne : i ≠ j) (hok : s.ok n) (hn : n < 999999) (a : AK) (ha : a.ok w0) (hwh : a.wh % 16 = 15) :
    Calls Try.prog 22 #[.pointer (some ⟨p, 0, none⟩), .pointer (some ⟨d, 0, none⟩), .agg a.cells.toArray] W fun e W' => e = .returned (.bool true) ∧ Pool w0 ((L.set i (Ob.P p (actK s a).2)).set j (Ob.D d (actK s a).2)) W' := by
  have hPB : Pool w0 (L ++ [Ob.B W.heap.size a.cells]) (W.alloc (.cells a.cells.toArray 43)) := hP.box 43 a.cells
  have hli := (List.getElem?_eq_some_iff.1 hi).1
  have hlj := (List.getElem?_eq_some_iff.1 hj).1
  have hi1 : (L ++ [Ob.B W.heap.size a.cells])[i]? = some (Ob.P p s) := by rw [List.getElem?_append_left hli]; exact hi
  have hj1 : (L ++ [Ob.B W.heap.size a.cells])[j]? = some (Ob.D d s) := by rw [List.getElem?_append_left hlj]; exact hj
  have hk1 : (L ++ [Ob.B W.heap.size a.cells])[L.length]? = some (Ob.B W.heap.size a.cells) := by rw [List.getElem?_append_right (Nat.le_refl _), Nat.sub_self]; rfl
  have hki : i ≠ L.length := by omega
  have hkj : j ≠ L.length := by omega
  have hfin : ∀ (W' : World) (x y : Ob), Pool w0 (((L ++ [Ob.B W.heap.size a.cells]).set i x).set j y) W' → Pool w0 ((L.set i x).set j y) W' := fun W' x y h => by
    rw [List.set_append_left _ _ hli, List.set_append_left _ _ (by rw [List.length_set]; exact hlj)] at h
    exact h.drop
  have hat := hPB.boxAt hk1
  obtain ⟨L1, hL1⟩ : ∃ L1, L ++ [Ob.B W.heap.size a.cells] = L1 := ⟨_, rfl⟩
  rw [hL1] at hPB hi1 hj1 hk1 hfin
  clear hP hi hj hli hlj hL1
  have hac : actK s a = ((0, s.armed a.n ((a.to % 8 : Nat) : Int))) := by
    unfold actK
    simp [hwh]
  rw [hac]
  have hok1 : ((0, s.armed a.n ((a.to % 8 : Nat) : Int))).2.ok (n + 1) := by have := actK_ok hok (a := a) ha.n0 ha.n1; rw [hac] at this; exact this
  have hne' : j ≠ i := Ne.symm hne
  have hla := nameOf_len a.na
  have hlb := nameOf_len a.to
  have hi2 := fun o => set_apart (L := L1) (o' := o) hne' hi1
  have hj2 := fun o => set_apart (L := L1) (o' := o) hne hj1
  have hk2 := fun o => set_apart (L := L1) (o' := o) hki hk1
  have hk3 := fun x y => set_apart (L := L1.set i x) (o' := y) hkj (hk2 x)
  have hi3 : ∀ x y : Ob, ((L1.set i x).set j y)[i]? = some x := fun x y => set_apart hne' (List.getElem?_set_self (List.getElem?_eq_some_iff.1 hi1).1)
  have hj3 : ∀ x y : Ob, ((L1.set i x).set j y)[j]? = some y := fun x y => List.getElem?_set_self (by rw [List.length_set]; exact (List.getElem?_eq_some_iff.1 hj1).1)
  have HA := Lib.hid (And.intro hi1 (And.intro hj2 (And.intro hk1 (And.intro hk2 (And.intro hfin (And.intro hok (And.intro hok1 (And.intro ha (And.intro hk3 (And.intro hi3 hj3))))))))))
  have hna := ha.na
  have hto := ha.to
  have hwb := ha.wh
  have hn0 := ha.n0
  have hn1 := ha.n1
  have hbl := ha.bl
  have HPB := Lib.hid hPB
  have HAT := Lib.hid hat
  have c0 := hat.c 0 rfl
  have c1 := hat.c 1 rfl
  have c2 := hat.c 2 rfl
  have c3 := hat.c 3 rfl
  have c4 := hat.c 4 rfl
  have c5 := hat.c 5 rfl
  have hwi : ∃ v : Nat, a.wh % 16 = v ∧ (v = 15) := ⟨_, rfl, hwh⟩
  obtain ⟨wv, hwv, hwc⟩ := hwi
  have hwz : ((a.wh : Int) % 16) = (wv : Int) := by omega
  obtain ⟨ml, hml⟩ : ∃ ml, min a.b.length 40 = ml := ⟨_, rfl⟩
  have HML := Lib.hid (And.intro (show (a.b.take 40).length = ml by rw [List.length_take, Nat.min_comm]; exact hml) (show Sl w0 w0.heap.size a.bA (bv (a.b.take 40)) by rw [← bv_take]; exact ha.b.tk 40))
  have hml40 : ml ≤ 40 := by omega
  have hmlb : ml ≤ a.bc := by omega
  clear hac hok1 hok ha hat hi1 hj1 hk1 hki hkj hfin hPB hi2 hj2 hk2 hwh hml hne hne' hk3 hi3 hj3
  obtain ⟨tn, htn⟩ : ∃ t, a.to % 8 = t := ⟨_, rfl⟩
  have hti : ((a.to : Int) % 8) = (tn : Int) := by omega
  rw [htn] at HA ⊢
  rcases hwc with rfl
  · go_enter Try.func22, Try.ntmps22
    go_wp2_with fail
    generalize hbx : W.heap.size = bx at *
    generalize W.alloc (.cells a.cells.toArray 43) = W1 at *
    clear c0 c1 c2 c3 c4 c5 hwv hwz hwb
    have hq0 : Pool w0 L1 W1.drew := HPB.out.below (Below.refl _ _).drew
    have hS0 : AtS bx a.cells W1.drew := HAT.out
    have e1 : ∀ W, AtS bx a.cells W → W.cell? ⟨bx, 1, none⟩ = some (.int .u8 (a.na : Int)) := AtS.e 1 rfl
    have e2 : ∀ W, AtS bx a.cells W → W.cell? ⟨bx, 2, none⟩ = some (.int .u8 (a.to : Int)) := AtS.e 2 rfl
    have e3 : ∀ W, AtS bx a.cells W → W.cell? ⟨bx, 3, none⟩ = some (.int .i64 a.n) := AtS.e 3 rfl
    have e5 : ∀ W, AtS bx a.cells W → W.cell? ⟨bx, 5, none⟩ = some (.slice a.pA a.ps.length a.pc) := AtS.e 5 rfl
    clear e1 e2 e3 e5 hS0
    refine (Pool.PArm HPB.out HA.out.1 HA.out.2.2.2.2.2.1 (by omega) a.n (tn : Int) hn0 hn1).mono ?_
    rintro e w2 ⟨rfl, hq2⟩
    have hat2 := hq2.boxAt (HA.out.2.2.2.1 _)
    have c2 := hat2.c 2 rfl
    have c3 := hat2.c 3 rfl
    clear hat2
    go_wp2_with fail
    refine (Pool.DArm hq2 (HA.out.2.1 _) HA.out.2.2.2.2.2.1 (by omega) a.n (tn : Int) hn0 hn1).mono ?_
    rintro e wz ⟨rfl, hqz⟩
    clear c2 c3
    obtain ⟨F, H, hp, _⟩ := hqz.usePD (HA.out.2.2.2.2.2.2.2.2.2.1 _ _)
    obtain ⟨F2, H2, hd, _⟩ := hqz.useDD (HA.out.2.2.2.2.2.2.2.2.2.2 _ _)
    have HL := Lib.hid (And.intro (alike_any wz p d F H F2 H2 _ (n + 1) hp hd HA.out.2.2.2.2.2.2.1 (by omega)) hqz)
    clear hp hd hqz HPB HAT HML
    go_wp2_with (go_at_call 21; refine HL.out.1.mono ?_; rintro e wy ⟨rfl, hby⟩)
    go_ret
    exact ⟨rfl, HA.out.2.2.2.2.1 _ _ _ (HL.out.2.below hby)⟩
end Go.Proofs.Ythnbnhlfiehihaa
/- Disks: any act. -/
namespace Go.Proofs.Ythnbnhlfiehihaa
open Go.RowKit Go.Maps
set_option maxRecDepth 20000

theorem play_any (w0 W : World) (L : List Ob) (i j p d : Nat) (s : DK) (n : Nat) (hP : Pool w0 L W) (hi : L[i]? = some (Ob.P p s)) (hj : L[j]? = some (Ob.D d s)) (hne : i ≠ j) (hok : s.ok n) (hn : n < 999999) (a : AK) (ha : a.ok w0) :
    Calls Try.prog 22 #[.pointer (some ⟨p, 0, none⟩), .pointer (some ⟨d, 0, none⟩), .agg a.cells.toArray] W fun e W' => e = .returned (.bool true) ∧ Pool w0 ((L.set i (Ob.P p (actK s a).2)).set j (Ob.D d (actK s a).2)) W' := by
  have hlt : a.wh % 16 < 16 := Nat.mod_lt _ (by omega)
  by_cases hcreate : a.wh % 16 = 0 ∨ a.wh % 16 = 1
  · exact play_create w0 W L i j p d s n hP hi hj hne hok hn a ha hcreate
  by_cases happend : a.wh % 16 = 2 ∨ a.wh % 16 = 3 ∨ a.wh % 16 = 4 ∨ a.wh % 16 = 5
  · exact play_append w0 W L i j p d s n hP hi hj hne hok hn a ha happend
  by_cases hsync : a.wh % 16 = 6 ∨ a.wh % 16 = 7
  · exact play_sync w0 W L i j p d s n hP hi hj hne hok hn a ha hsync
  by_cases htruncA : a.wh % 16 = 8
  · exact play_truncA w0 W L i j p d s n hP hi hj hne hok hn a ha htruncA
  by_cases htruncB : a.wh % 16 = 9
  · exact play_truncB w0 W L i j p d s n hP hi hj hne hok hn a ha htruncB
  by_cases hrename : a.wh % 16 = 10 ∨ a.wh % 16 = 11
  · exact play_rename w0 W L i j p d s n hP hi hj hne hok hn a ha hrename
  by_cases hremove : a.wh % 16 = 12
  · exact play_remove w0 W L i j p d s n hP hi hj hne hok hn a ha hremove
  by_cases harmA : a.wh % 16 = 13
  · exact play_armA w0 W L i j p d s n hP hi hj hne hok hn a ha harmA
  by_cases hcrash : a.wh % 16 = 14
  · exact play_crash w0 W L i j p d s n hP hi hj hne hok hn a ha hcrash
  exact play_armB w0 W L i j p d s n hP hi hj hne hok hn a ha (by omega)
end Go.Proofs.Ythnbnhlfiehihaa
/- Disks: what is known. -/
namespace Go.Proofs.Ythnbnhlfiehihaa
open Go.RowKit Go.Maps
set_option maxRecDepth 20000

theorem PD.newNF {W : World} {p : Nat} {F H : Nat → Prop} {s : DK} (h : PD W p F H s) : ∀ a, (some ⟨W.heap.size, 0, none⟩ : Option Addr) = some a → ¬ F a.block := fun a e hk => by
  cases e
  exact absurd (h.lt _ (h.fh hk)) (Nat.lt_irrefl _)
theorem PD.al {W : World} {p : Nat} {F H : Nat → Prop} {s : DK} (h : PD W p F H s) (o : Obj) : PD (W.alloc o) p F H s := h.below ((Below.refl _ _).alloc (Nat.le_refl _) _)
theorem newB (W : World) (l : List UInt8) (fr : Nat × Nat) : Sl (W.alloc (.cells (bv l).toArray 5 fr)) (W.alloc (.cells (bv l).toArray 5 fr)).heap.size (some ⟨W.heap.size, 0, none⟩) (bv l) := by
  have := Sl.new W 5 (bv l).toArray fr
  rw [World.size_alloc]
  exact this
theorem below_no {w w' : World} (hg : w.grownBy w' none) : Below w.heap.size w w' := ⟨hg.os, hg.tape, hg.output, hg.size, fun k hk => hg.block k hk (fun e => by cases e)⟩
set_option maxRecDepth 100000 in
set_option maxHeartbeats 6400000 in
theorem known_any (w : World) : Calls Try.prog 7 #[] w fun e w' => e = .returned (.bool true) ∧ Below w.heap.size w w' := by
  have hcv := fun (w : World) (C : Array Value) (n c : Nat) => Lib.run_convert_bytes_const (P := Try.prog) w 22 5 C n c Try.underlying22 Try.underlying5
  go_enter Try.func7, Try.ntmps7
  go_wp2_with (first
    | (go_at_call 8; refine (New_any _ 10).mono ?_; rintro e w1 ⟨p, F, H, rfl, hp1, hH, hb1⟩; have hFw : ∀ k, F k → w.heap.size ≤ k := (fun k hk => hH k (hp1.fh hk)))
    | (go_at_call 9; refine (Create_lit _ p F H 10 k1 (r := 0) rfl hp1 o0 (by omega) (by decide)).mono ?_; rintro e w2 ⟨rfl, hp2, hg2⟩; clear hp1; have nb2 := newB w2 [97, 98, 99] (3, 4))
    | (go_at_call 10; refine (Append_lit _ p F H 11 k2 (r := 0) rfl (hp2.al _) o1 (by omega) (by decide) _ _ 3 rfl (by omega) (by omega) nb2 (.inr hp2.newNF)).mono ?_; rintro e w3 ⟨rfl, H3, hp3, hg3⟩; clear hp2 nb2)
    | (at_make; refine mkZ (n := 8) rfl rfl rfl rfl rfl rfl (by omega) ?_; intro wz hownz hgz; have hbz := below_no hgz; have hz3 := hp3.newNF; have nb3 : Sl wz wz.heap.size (some ⟨w3.heap.size, 0, none⟩) (bv [0, 0, 0, 0, 0, 0, 0, 0]) := (OwnB.sl (l := [0, 0, 0, 0, 0, 0, 0, 0]) hownz).1)
    | (go_at_call 10; refine (Append_lit _ p F H3 12 k3 (r := 33) rfl (hp3.below hbz) o2 (by omega) (by decide) _ _ 8 rfl (by omega) (by omega) nb3 (.inr hz3)).mono ?_; rintro e w4 ⟨rfl, H4, hp4, hg4⟩; clear hp3 nb3)
    | (go_at_call 9; refine (Create_lit _ p F H4 12 k4 (r := 32) rfl hp4 o2 (by omega) (by decide)).mono ?_; rintro e w5 ⟨rfl, hp5, hg5⟩; clear hp4)
    | (go_at_call 12; refine (Sync_lit _ p F H4 12 k5 (r := 31) rfl hp5 o2 (by omega) (by decide)).mono ?_; rintro e w6 ⟨rfl, hp6, hg6⟩; clear hp5; have hU := Used_lit w6 p F H4 (r := 3) (by kernel_rfl) hp6; have hCl := Calls_lit w6 p F H4 (r := 2) (by kernel_rfl) hp6; have nb6 := Sl.ints w6 3 [2] (0, 0); have nz6 := hp6.newNF)
    | (go_at_call 16; refine hU.mono ?_; rintro e w7 ⟨rfl, rfl⟩)
    | (go_at_call 14; refine hCl.mono ?_; rintro e w7 ⟨rfl, rfl⟩)
    | (go_at_call 17; refine (Sure_lit _ p F H4 (s := K2) (x := [120]) (r := 0) (by kernel_rfl) hp6 (by decide)).mono ?_; rintro e w7 ⟨rfl, rfl⟩)
    | (go_at_call 18; refine (Crash_lit _ p F H4 12 k6 (hp6.al _) o2 (by omega) _ 1 1 rfl nb6 (.inr nz6) (by omega)).mono ?_; rintro e w8 ⟨rfl, H8, hp8, hg8⟩; clear hp6 nb6 nz6 hU hCl)
    | (go_at_call 15; refine (Read_lit _ p F H8 12 k7 hp8 o3 (by decide)).mono ?_; rintro e w9 ⟨A9, c9, rfl, hs9, hn9, hb9⟩; have hnf9 : ∀ a, A9 = some a → ¬ F a.block := (fun a h hk => absurd (hp8.lt _ (hp8.fh hk)) (Nat.not_lt.2 (hn9 a h))); have hp9 := hp8.below hb9; clear hp8)
    | (go_at_call 11; refine (Arm_lit _ p F H8 k8 hp9 (by omega) (by omega)).mono ?_; rintro e wa ⟨rfl, hpa, hga⟩)
    | (go_at_call 12; refine (Sync_lit _ p F H8 12 k9 (r := 34) rfl hpa o4 (by omega) (by decide)).mono ?_; rintro e wb ⟨rfl, hpb, hgb⟩; clear hpa; have hsb := (hs9.grewF hga hnf9).grewF hgb hnf9; have hcb := conv hsb 2 c9 rfl; have hSb := Sure_lit wb p F H8 (s := K5) (x := [120]) (r := 2) (by kernel_rfl) hpb (by decide); have hDb := Down_lit wb p F H8 (s := K5) (t := true) rfl hpb; have hNb := Names_lit wb p F H8 13 (s := K5) (m := 1) rfl hpb o5 (by omega))
    | (go_at_call 17; refine hSb.mono ?_; rintro e wc ⟨rfl, rfl⟩)
    | (go_at_call 13; refine hDb.mono ?_; rintro e wc ⟨rfl, rfl⟩)
    | (go_at_call 25; refine hNb.mono ?_; rintro e wc ⟨Ac, cc, rfl, _, hbc⟩))
  go_ret
  have q2 := hg2.belowB hb1 (Nat.le_refl _) hFw
  have q3 := hg3.belowB (q2.alloc q2.size _) (Nat.le_refl _) hFw
  have q4 := hg4.belowB (q3.trans (hbz.mono q3.size)) (Nat.le_refl _) hFw
  have q6 := hg6.belowB (hg5.belowB q4 (Nat.le_refl _) hFw) (Nat.le_refl _) hFw
  have q8 := hg8.belowB (q6.alloc q6.size _) (Nat.le_refl _) hFw
  have qb := hgb.belowB (hga.belowB (q8.trans (hb9.mono q8.size)) (Nat.le_refl _) hFw) (Nat.le_refl _) hFw
  exact ⟨rfl, qb.trans (hbc.mono qb.size)⟩
end Go.Proofs.Ythnbnhlfiehihaa
/- Disks: a disk with one file (plain), for the law of the armed power. -/
namespace Go.Proofs.Ythnbnhlfiehihaa
open Go.RowKit Go.Maps
set_option maxRecDepth 20000

def DS (c : Int) (a k : Int) (b : List UInt8) (su : Nat) : DK := ⟨1000, c, a, k, false, [([102], ⟨b, su⟩)]⟩
def DO (c : Int) (k : Int) (b : List UInt8) (su : Nat) : DK := ⟨1000, c, 0, k, true, [([102], ⟨b, su⟩)]⟩
theorem look1 (x : Nm) (f : DF) : look [(x, f)] x = some f := by rw [lookN_cons, if_pos rfl]
theorem put1 (x : Nm) (f g : DF) : putN [(x, f)] x g = [(x, g)] := by unfold putN; rw [if_neg (nm_irrefl x), if_pos rfl]
theorem used1 (x : Nm) (f : DF) : usedR [(x, f)] = f.b.length := by simp [usedR, sumN, DF.len]
theorem d0 : (DK.new 1000).create [102] = (0, DS 1 0 0 [] 0) := by kernel_rfl
theorem ds_off (c k : Int) (b : List UInt8) (su : Nat) : (DS c 0 k b su).power = DS c 0 k b su := by simp [DK.power, DS]
theorem ds_arm {c a k : Int} {b : List UInt8} {su : Nat} (ha : 2 ≤ a) : (DS c a k b su).power = DS c (a - 1) k b su := by
  have h1 : 0 < a := by omega
  have h2 : ¬ a - 1 = 0 := by omega
  simp [DK.power, DS, h1, h2]
theorem ds_last (c k : Int) (b : List UInt8) (su : Nat) : (DS c 1 k b su).power = DO c k b su := by simp [DK.power, DS, DO]
theorem do_power (c k : Int) (b : List UInt8) (su : Nat) : (DO c k b su).power = DO c k b su := by simp [DK.power, DO]
theorem d1 {b : List UInt8} (hb : b.length ≤ 200) : (DS 1 0 0 [] 0).append [102] b = (0, DS 2 0 0 b 0) := by
  have h1 : b.length ≤ 1000 := by omega
  unfold DK.append
  rw [ds_off]
  simp [DS, DK.roomy, DK.has, mapR, look1, put1, used1, DK.lay, DF.behind, h1]
theorem d2 (m k : Int) (b : List UInt8) (hm : 0 ≤ m) : (DS 2 0 0 b 0).armed m k = DS 2 m k b 0 := by
  simp only [DK.armed, DS]
  rw [Int.max_eq_left hm]
theorem d3 {c a k : Int} {b : List UInt8} {su : Nat} (ha : 2 ≤ a) : (DS c a k b su).sync [102] = (0, DS (c + 1) (a - 1) k b b.length) := by
  unfold DK.sync
  rw [ds_arm ha]
  simp [DS, DK.has, mapR, look1, put1, DK.lay, DF.sync]
theorem d4 {c k : Int} {b cc : List UInt8} {su : Nat} (hb : b.length ≤ 200) (hc : cc.length ≤ 200) : (DS c 1 k b su).append [102] cc = (34, DO c k (b ++ cc.take k.toNat) su) := by
  have h1 : cc.length ≤ 1000 - b.length := by omega
  unfold DK.append
  rw [ds_last]
  simp [DS, DO, DK.roomy, DK.has, mapR, look1, put1, used1, DF.behind, DK.cutK, h1]
theorem d5 (c k : Int) (b : List UInt8) (su : Nat) : (DO c k b su).sync [102] = (34, DO c k b su) := by
  unfold DK.sync
  rw [do_power]
  simp [DO]
theorem d6 (c k : Int) (b : List UInt8) (su : Nat) : (DO c k b su).create [103] = (34, DO c k b su) := by
  unfold DK.create
  rw [do_power]
  simp [DO]
theorem d7 (c k : Int) (b : List UInt8) (su : Nat) : (DO c k b su).read [102] = ([], false) := by simp [DK.read, DO]
theorem d8 {c k : Int} {b : List UInt8} {su : Nat} (hs : su ≤ b.length) (pk : Int) : (DO c k b su).crash [pk] = DS c 0 k (b.take (su + (pk % ((b.length - su + 1 : Nat) : Int)).toNat)) (su + (pk % ((b.length - su + 1 : Nat) : Int)).toNat) := by
  unfold DK.crash crashR
  by_cases h : su < b.length
  · have h1 := pick_le ⟨b, su⟩ [pk]
    unfold pickOf at h1
    simp only [List.headD_cons] at h1
    have h2 : su + (pk % ((b.length - su + 1 : Nat) : Int)).toNat ≤ b.length := by omega
    simp only [DO, DS]
    rw [if_pos h]
    simp only [crashR, List.headD_cons, DF.first, DF.sync, List.length_take, Nat.min_eq_left h2]
  · have e : su = b.length := by omega
    subst e
    simp only [DO, DS]
    rw [if_neg (Nat.lt_irrefl _)]
    simp [crashR, Int.emod_one]
theorem d9 (c a k : Int) (b : List UInt8) (su : Nat) : (DS c a k b su).read [102] = (b, true) := by simp [DK.read, DS, DK.has, look1]
theorem d10 (c a k : Int) (b : List UInt8) (su : Nat) : ((DS c a k b su).sureOf [102] : Int) = (su : Int) := by simp [DK.sureOf, DS, look1]
theorem d11 (c k : Int) (b : List UInt8) (su : Nat) : ((DO c k b su).sureOf [102] : Int) = (su : Int) := by simp [DK.sureOf, DO, look1]
theorem d12 (c k : Int) (b : List UInt8) (su : Nat) : (DS c 0 k b su).sync [102] = (0, DS (c + 1) 0 k b b.length) := by
  unfold DK.sync
  rw [ds_off]
  simp [DS, DK.has, mapR, look1, put1, DK.lay, DF.sync]
theorem d13 (c k : Int) (b : List UInt8) (su : Nat) : (usedR (DO c k b su).R : Int) = (b.length : Int) := by simp [DO, used1]
end Go.Proofs.Ythnbnhlfiehihaa
/- Disks: Place. -/
namespace Go.Proofs.Ythnbnhlfiehihaa
open Go.RowKit Go.Maps
set_option maxRecDepth 20000

theorem Place_any (w : World) (n : Int) (m : Nat) (hm : m ≤ 16777216) :
    Calls Try.prog 19 #[.int .i64 n, .int .i64 ((m : Int) + 1)] w fun e w' => e = .returned (.int .i64 (n % ((m + 1 : Nat) : Int))) ∧ w' = w := by
  have h1 := Int.lt_tmod_of_pos n (show (0 : Int) < m + 1 by omega)
  have h2 := Int.tmod_lt_of_pos n (show (0 : Int) < m + 1 by omega)
  have hw1 : IntKind.i64.wrap (Int.tmod n (m + 1)) = Int.tmod n (m + 1) := by rw [IntKind.wrap_i64]; omega
  have hw2 : IntKind.i64.wrap (Int.tmod n (m + 1) + (m + 1)) = Int.tmod n (m + 1) + (m + 1) := by rw [IntKind.wrap_i64]; omega
  have hz : ¬ ((m : Int) + 1 = 0) := by omega
  have h3 := place_eq n m
  obtain ⟨t, ht⟩ : ∃ t, Int.tmod n (m + 1) = t := ⟨_, rfl⟩
  rw [ht] at hw1 hw2 h1 h2 h3
  have HQ := Lib.hid ht
  by_cases hlt : t < 0
  · have hd : decide (t < 0) = true := by simpa using hlt
    rw [if_pos hlt] at h3
    rw [← h3]
    clear h3
    go_enter Try.func19, Try.ntmps19
    go_wp2
    go_ret
    exact ⟨rfl, rfl⟩
  · have hd : decide (t < 0) = false := by simpa using hlt
    rw [if_neg hlt] at h3
    rw [← h3]
    clear h3
    go_enter Try.func19, Try.ntmps19
    go_wp2
    go_ret
    exact ⟨rfl, rfl⟩
end Go.Proofs.Ythnbnhlfiehihaa
/- Disks: the laws' beginning, an act's cells. -/
namespace Go.Proofs.Ythnbnhlfiehihaa
open Go.RowKit Go.Maps
set_option maxRecDepth 20000

theorem Pool.start {w0 w1 w2 w3 : World} {p d : Nat} {F H F2 H2 : Nat → Prop} {s : DK} (hb : Below w0.heap.size w0 w1) (hp : PD w2 p F H s) (hH : ∀ k, H k → w1.heap.size ≤ k) (hb2 : Below w1.heap.size w1 w2) (hd : DD w3 d F2 H2 s) (hH2 : ∀ k, H2 k → w2.heap.size ≤ k) (hb3 : Below w2.heap.size w2 w3) :
    Pool w0 [Ob.P p s, Ob.D d s] w3 := by
  have h1 : Pool w0 ([] ++ [Ob.P p s]) w2 := (Pool.nil hb).add hb2 (o := Ob.P p s) (at_P.2 hp) (fun k hk => hH k (hp.fh hk)) hH
  exact h1.add hb3 (o := Ob.D d s) (at_D.2 hd) (fun k hk => hH2 k (hd.fh hk)) hH2
theorem Place90 (w : World) (n : Int) : Calls Try.prog 19 #[.int .i64 n, .int .i64 90] w fun e w' => e = .returned (.int .i64 (n % 90)) ∧ w' = w := Place_any w n 89 (by omega)
/-- alike, where disks stand side by side -/
theorem Pool.alike {w0 W : World} {L : List Ob} {i j p d n : Nat} {s : DK} (hP : Pool w0 L W) (hi : L[i]? = some (Ob.P p s)) (hj : L[j]? = some (Ob.D d s)) (hok : s.ok n) (hn : n < 1000000) :
    Calls Try.prog 21 #[.pointer (some ⟨p, 0, none⟩), .pointer (some ⟨d, 0, none⟩)] W fun e w' => e = .returned (.bool true) ∧ Pool w0 L w' := by
  obtain ⟨F, H, hp, _⟩ := hP.usePD hi
  obtain ⟨F2, H2, hd, _⟩ := hP.useDD hj
  exact (alike_any W p d F H F2 H2 s n hp hd hok hn).mono fun e w' ⟨h1, h2⟩ => ⟨h1, hP.below h2⟩
/-- an act's cells -/
theorem Pool.act {w0 W : World} {L : List Ob} (hP : Pool w0 L W) {A : Option Addr} {l : List AK} (hS : Sl w0 w0.heap.size A (ak l)) {k : Nat} {a : AK} (ha : l[k]? = some a) : ∃ b o, A = some ⟨b, o, none⟩ ∧
    W.cell? ⟨b, o + k * 6, none⟩ = some (.int .u8 (a.wh : Int)) ∧ W.cell? ⟨b, o + k * 6 + 1, none⟩ = some (.int .u8 (a.na : Int)) ∧ W.cell? ⟨b, o + k * 6 + 2, none⟩ = some (.int .u8 (a.to : Int)) ∧ W.cell? ⟨b, o + k * 6 + 3, none⟩ = some (.int .i64 a.n) ∧
    W.cell? ⟨b, o + k * 6 + 4, none⟩ = some (.slice a.bA a.b.length a.bc) ∧ W.cell? ⟨b, o + k * 6 + 5, none⟩ = some (.slice a.pA a.ps.length a.pc) := by
  obtain ⟨b, o, e, _, _, hc⟩ := akAt (hS.below hP.wb) ha
  exact ⟨b, o, e, hc 0 _ rfl, hc 1 _ rfl, hc 2 _ rfl, hc 3 _ rfl, hc 4 _ rfl, hc 5 _ rfl⟩
end Go.Proofs.Ythnbnhlfiehihaa
