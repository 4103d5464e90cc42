/- Disks: an act on both (2). -/
import Derived.Test.YthnbnhlfiehihaaM12
namespace Go.Proofs.Ythnbnhlfiehihaa
open Go.RowKit Go.Maps
set_option maxRecDepth 20000

set_option maxRecDepth 100000 in
set_option maxHeartbeats 6400000 in
theorem play_sync (w0 W : World) (L : List Ob) (i j p d : Nat) (s : DK) (n : Nat) (hP : Pool w0 L W) (hi : L[i]? = some (Ob.P p s)) (hj : L[j]? = some (Ob.D d s)) (hne : i ≠ j) (hok : s.ok n) (hn : n < 999999) (a : AK) (ha : a.ok w0) (hwh : a.wh % 16 = 6 ∨ a.wh % 16 = 7) :
    Calls Try.prog 22 #[.pointer (some ⟨p, 0, none⟩), .pointer (some ⟨d, 0, none⟩), .agg a.cells.toArray] W fun e W' => e = .returned (.bool true) ∧ Pool w0 ((L.set i (Ob.P p (actK s a).2)).set j (Ob.D d (actK s a).2)) W' := by
  have hPB : Pool w0 (L ++ [Ob.B W.heap.size a.cells]) (W.alloc (.cells a.cells.toArray 43)) := hP.box 43 a.cells
  have hli := (List.getElem?_eq_some_iff.1 hi).1
  have hlj := (List.getElem?_eq_some_iff.1 hj).1
  have hi1 : (L ++ [Ob.B W.heap.size a.cells])[i]? = some (Ob.P p s) := by rw [List.getElem?_append_left hli]; exact hi
  have hj1 : (L ++ [Ob.B W.heap.size a.cells])[j]? = some (Ob.D d s) := by rw [List.getElem?_append_left hlj]; exact hj
  have hk1 : (L ++ [Ob.B W.heap.size a.cells])[L.length]? = some (Ob.B W.heap.size a.cells) := by rw [List.getElem?_append_right (Nat.le_refl _), Nat.sub_self]; rfl
  have hki : i ≠ L.length := by omega
  have hkj : j ≠ L.length := by omega
  have hfin : ∀ (W' : World) (x y : Ob), Pool w0 (((L ++ [Ob.B W.heap.size a.cells]).set i x).set j y) W' → Pool w0 ((L.set i x).set j y) W' := fun W' x y h => by
    rw [List.set_append_left _ _ hli, List.set_append_left _ _ (by rw [List.length_set]; exact hlj)] at h
    exact h.drop
  have hat := hPB.boxAt hk1
  obtain ⟨L1, hL1⟩ : ∃ L1, L ++ [Ob.B W.heap.size a.cells] = L1 := ⟨_, rfl⟩
  rw [hL1] at hPB hi1 hj1 hk1 hfin
  clear hP hi hj hli hlj hL1
  have hac : actK s a = (s.sync (nameOf a.na)) := by
    unfold actK
    rcases hwh with h | h <;> simp [*]
  rw [hac]
  have hok1 : (s.sync (nameOf a.na)).2.ok (n + 1) := by have := actK_ok hok (a := a) ha.n0 ha.n1; rw [hac] at this; exact this
  have hne' : j ≠ i := Ne.symm hne
  have hla := nameOf_len a.na
  have hlb := nameOf_len a.to
  have hi2 := fun o => set_apart (L := L1) (o' := o) hne' hi1
  have hj2 := fun o => set_apart (L := L1) (o' := o) hne hj1
  have hk2 := fun o => set_apart (L := L1) (o' := o) hki hk1
  have hk3 := fun x y => set_apart (L := L1.set i x) (o' := y) hkj (hk2 x)
  have hi3 : ∀ x y : Ob, ((L1.set i x).set j y)[i]? = some x := fun x y => set_apart hne' (List.getElem?_set_self (List.getElem?_eq_some_iff.1 hi1).1)
  have hj3 : ∀ x y : Ob, ((L1.set i x).set j y)[j]? = some y := fun x y => List.getElem?_set_self (by rw [List.length_set]; exact (List.getElem?_eq_some_iff.1 hj1).1)
  have HA := Lib.hid (And.intro hi1 (And.intro hj2 (And.intro hk1 (And.intro hk2 (And.intro hfin (And.intro hok (And.intro hok1 (And.intro ha (And.intro hk3 (And.intro hi3 hj3))))))))))
  have hna := ha.na
  have hto := ha.to
  have hwb := ha.wh
  have hn0 := ha.n0
  have hn1 := ha.n1
  have hbl := ha.bl
  have HPB := Lib.hid hPB
  have HAT := Lib.hid hat
  have c0 := hat.c 0 rfl
  have c1 := hat.c 1 rfl
  have c2 := hat.c 2 rfl
  have c3 := hat.c 3 rfl
  have c4 := hat.c 4 rfl
  have c5 := hat.c 5 rfl
  have hwi : ∃ v : Nat, a.wh % 16 = v ∧ (v = 6 ∨ v = 7) := ⟨_, rfl, hwh⟩
  obtain ⟨wv, hwv, hwc⟩ := hwi
  have hwz : ((a.wh : Int) % 16) = (wv : Int) := by omega
  obtain ⟨ml, hml⟩ : ∃ ml, min a.b.length 40 = ml := ⟨_, rfl⟩
  have HML := Lib.hid (And.intro (show (a.b.take 40).length = ml by rw [List.length_take, Nat.min_comm]; exact hml) (show Sl w0 w0.heap.size a.bA (bv (a.b.take 40)) by rw [← bv_take]; exact ha.b.tk 40))
  have hml40 : ml ≤ 40 := by omega
  have hmlb : ml ≤ a.bc := by omega
  clear hac hok1 hok ha hat hi1 hj1 hk1 hki hkj hfin hPB hi2 hj2 hk2 hwh hml hne hne' hk3 hi3 hj3
  rcases hwc with rfl | rfl
  · go_enter Try.func22, Try.ntmps22
    go_wp2_with fail
    generalize hbx : W.heap.size = bx at *
    generalize W.alloc (.cells a.cells.toArray 43) = W1 at *
    clear c0 c1 c2 c3 c4 c5 hwv hwz hwb
    have hq0 : Pool w0 L1 W1.drew := HPB.out.below (Below.refl _ _).drew
    have hS0 : AtS bx a.cells W1.drew := HAT.out
    have e1 : ∀ W, AtS bx a.cells W → W.cell? ⟨bx, 1, none⟩ = some (.int .u8 (a.na : Int)) := AtS.e 1 rfl
    have e2 : ∀ W, AtS bx a.cells W → W.cell? ⟨bx, 2, none⟩ = some (.int .u8 (a.to : Int)) := AtS.e 2 rfl
    have e3 : ∀ W, AtS bx a.cells W → W.cell? ⟨bx, 3, none⟩ = some (.int .i64 a.n) := AtS.e 3 rfl
    have e5 : ∀ W, AtS bx a.cells W → W.cell? ⟨bx, 5, none⟩ = some (.slice a.pA a.ps.length a.pc) := AtS.e 5 rfl
    refine bstartS (AtS bx a.cells) (by kernel_rfl) ?_
    refine btakeS 0 (oi := _) (v := ?_) (by simp only [List.getElem?_toArray, List.getElem?_cons_zero]; rfl) (by kernel_rfl) (by exact fun _ _ _ h => h) (by first | assumption | exact KB.refl _) (.inl ⟨by rfl, fun W hW => ?_⟩) ?_; rotate_left
    · (go_simp; first | done | with_reducible rfl)
    try simp only [Act.put, List.setIfInBounds_toArray, List.set_cons_zero, List.set_cons_succ]
    refine btakeS 1 (oi := _) (v := ?_) (by simp only [List.getElem?_toArray, List.getElem?_cons_succ, List.getElem?_cons_zero]; rfl) (by kernel_rfl) (by exact fun _ _ _ h => h) (by first | assumption | exact KB.refl _) (.inl ⟨by rfl, fun W hW => ?_⟩) ?_; rotate_left
    · (go_simp; first | done | with_reducible rfl)
    try simp only [Act.put, List.setIfInBounds_toArray, List.set_cons_zero, List.set_cons_succ]
    refine btakeS 2 (oi := _) (v := ?_) (by simp only [List.getElem?_toArray, List.getElem?_cons_succ, List.getElem?_cons_zero]; rfl) (by kernel_rfl) (by exact fun _ _ _ h => h) (by first | assumption | exact KB.refl _) (.inl ⟨by rfl, fun W hW => ?_⟩) ?_; rotate_left
    · (go_simp; first | done | with_reducible rfl)
    try simp only [Act.put, List.setIfInBounds_toArray, List.set_cons_zero, List.set_cons_succ]
    refine btakeS 5 (oi := _) (v := ?_) (by simp only [List.getElem?_toArray, List.getElem?_cons_succ, List.getElem?_cons_zero]; rfl) (by kernel_rfl) (by exact fun _ _ _ h => h) (by first | assumption | exact KB.refl _) (.inl ⟨by rfl, fun W hW => ?_⟩) ?_; rotate_left
    · (go_simp; first | done | with_reducible rfl)
    try simp only [Act.put, List.setIfInBounds_toArray, List.set_cons_zero, List.set_cons_succ]
    refine btakeS 6 (oi := _) (v := ?_) (by simp only [List.getElem?_toArray, List.getElem?_cons_succ, List.getElem?_cons_zero]; rfl) (by kernel_rfl) (by exact fun _ _ _ h => h) (by first | assumption | exact KB.refl _) (.inl ⟨by rfl, fun W hW => ?_⟩) ?_; rotate_left
    · (go_simp; first | done | with_reducible rfl)
    try simp only [Act.put, List.setIfInBounds_toArray, List.set_cons_zero, List.set_cons_succ]
    refine btakeS 7 (oi := _) (v := ?_) (by simp only [List.getElem?_toArray, List.getElem?_cons_succ, List.getElem?_cons_zero]; rfl) (by kernel_rfl) (by exact fun _ _ _ h => h) (by first | assumption | exact KB.refl _) (.inl ⟨by rfl, fun W hW => ?_⟩) ?_; rotate_left
    · (go_simp; first | done | with_reducible rfl)
    try simp only [Act.put, List.setIfInBounds_toArray, List.set_cons_zero, List.set_cons_succ]
    -- 3: newsreel/newsreellaw23.name
    refine bopS 3 (o := _) (by simp only [List.getElem?_toArray, List.getElem?_cons_succ, List.getElem?_cons_zero]; rfl) (by kernel_rfl) (by rfl) (fun K hK => ?_)
    go_simp
    refine (name_any _ a.na hna).mono ?_
    rintro e w1 ⟨rfl, bw1⟩
    have hq1 := hq0.below bw1
    have hkb : AtS bx a.cells w1 := hq1.boxAt HA.out.2.2.1
    refine hK.out _ _ hkb ?_; clear hK K
    try simp only [Act.put, List.setIfInBounds_toArray, List.set_cons_zero, List.set_cons_succ]
    -- 4: (*newsreel/disk.Disk).Sync
    refine bopS 4 (o := _) (by simp only [List.getElem?_toArray, List.getElem?_cons_succ, List.getElem?_cons_zero]; rfl) (by kernel_rfl) (by rfl) (fun K hK => ?_)
    go_simp
    refine (Pool.PSync hq1 HA.out.1 HA.out.2.2.2.2.2.1 (by omega) _ hla).mono ?_
    rintro e w2 ⟨rfl, hq2⟩
    have hkb : AtS bx a.cells w2 := hq2.boxAt (HA.out.2.2.2.1 _)
    refine hK.out _ _ hkb ?_; clear hK K
    try simp only [Act.put, List.setIfInBounds_toArray, List.set_cons_zero, List.set_cons_succ]
    -- 8: newsreel/newsreellaw23.name
    refine bopS 8 (o := _) (by simp only [List.getElem?_toArray, List.getElem?_cons_succ, List.getElem?_cons_zero]; rfl) (by kernel_rfl) (by rfl) (fun K hK => ?_)
    go_simp
    refine (name_any _ a.na hna).mono ?_
    rintro e w3 ⟨rfl, bw3⟩
    have hq3 := hq2.below bw3
    have hkb : AtS bx a.cells w3 := hq3.boxAt (HA.out.2.2.2.1 _)
    refine hK.out _ _ hkb ?_; clear hK K
    try simp only [Act.put, List.setIfInBounds_toArray, List.set_cons_zero, List.set_cons_succ]
    -- 9: (*newsreel/newsreelref23.Disk).Sync
    refine bopS 9 (o := _) (by simp only [List.getElem?_toArray, List.getElem?_cons_succ, List.getElem?_cons_zero]; rfl) (by kernel_rfl) (by rfl) (fun K hK => ?_)
    go_simp
    refine (Pool.DSync hq3 (HA.out.2.1 _) HA.out.2.2.2.2.2.1 (by omega) _).mono ?_
    rintro e wz ⟨rfl, hqz⟩
    have hkb : AtS bx a.cells wz := hqz.boxAt (HA.out.2.2.2.2.2.2.2.2.1 _ _)
    refine hK.out _ _ hkb ?_; clear hK K
    try simp only [Act.put, List.setIfInBounds_toArray, List.set_cons_zero, List.set_cons_succ]
    refine btakeS 10 (oi := _) (v := ?_) (by simp only [List.getElem?_toArray, List.getElem?_cons_succ, List.getElem?_cons_zero]; rfl) (by kernel_rfl) (by exact fun _ _ _ h => h) (by first | assumption | exact KB.refl _) (.inl ⟨by rfl, fun W hW => ?_⟩) ?_; rotate_left
    · (go_simp; first | done | with_reducible rfl)
    try simp only [Act.put, List.setIfInBounds_toArray, List.set_cons_zero, List.set_cons_succ]
    refine btakeS 11 (oi := _) (v := ?_) (by simp only [List.getElem?_toArray, List.getElem?_cons_succ, List.getElem?_cons_zero]; rfl) (by kernel_rfl) (by exact fun _ _ _ h => h) (by first | assumption | exact KB.refl _) (.inl ⟨by rfl, fun W hW => ?_⟩) ?_; rotate_left
    · (go_simp; first | done | with_reducible rfl)
    try simp only [Act.put, List.setIfInBounds_toArray, List.set_cons_zero, List.set_cons_succ]
    refine bdoneS (by kernel_rfl) ?_
    clear e1 e2 e3 e5 hS0
    obtain ⟨F, H, hp, _⟩ := hqz.usePD (HA.out.2.2.2.2.2.2.2.2.2.1 _ _)
    obtain ⟨F2, H2, hd, _⟩ := hqz.useDD (HA.out.2.2.2.2.2.2.2.2.2.2 _ _)
    have HL := Lib.hid (And.intro (alike_any wz p d F H F2 H2 _ (n + 1) hp hd HA.out.2.2.2.2.2.2.1 (by omega)) hqz)
    clear hp hd hqz HPB HAT HML
    go_wp2_with (go_at_call 21; refine HL.out.1.mono ?_; rintro e wy ⟨rfl, hby⟩)
    go_ret
    exact ⟨rfl, HA.out.2.2.2.2.1 _ _ _ (HL.out.2.below hby)⟩
  · go_enter Try.func22, Try.ntmps22
    go_wp2_with fail
    generalize hbx : W.heap.size = bx at *
    generalize W.alloc (.cells a.cells.toArray 43) = W1 at *
    clear c0 c1 c2 c3 c4 c5 hwv hwz hwb
    have hq0 : Pool w0 L1 W1.drew := HPB.out.below (Below.refl _ _).drew
    have hS0 : AtS bx a.cells W1.drew := HAT.out
    have e1 : ∀ W, AtS bx a.cells W → W.cell? ⟨bx, 1, none⟩ = some (.int .u8 (a.na : Int)) := AtS.e 1 rfl
    have e2 : ∀ W, AtS bx a.cells W → W.cell? ⟨bx, 2, none⟩ = some (.int .u8 (a.to : Int)) := AtS.e 2 rfl
    have e3 : ∀ W, AtS bx a.cells W → W.cell? ⟨bx, 3, none⟩ = some (.int .i64 a.n) := AtS.e 3 rfl
    have e5 : ∀ W, AtS bx a.cells W → W.cell? ⟨bx, 5, none⟩ = some (.slice a.pA a.ps.length a.pc) := AtS.e 5 rfl
    refine bstartS (AtS bx a.cells) (by kernel_rfl) ?_
    refine btakeS 0 (oi := _) (v := ?_) (by simp only [List.getElem?_toArray, List.getElem?_cons_zero]; rfl) (by kernel_rfl) (by exact fun _ _ _ h => h) (by first | assumption | exact KB.refl _) (.inl ⟨by rfl, fun W hW => ?_⟩) ?_; rotate_left
    · (go_simp; first | done | with_reducible rfl)
    try simp only [Act.put, List.setIfInBounds_toArray, List.set_cons_zero, List.set_cons_succ]
    refine btakeS 1 (oi := _) (v := ?_) (by simp only [List.getElem?_toArray, List.getElem?_cons_succ, List.getElem?_cons_zero]; rfl) (by kernel_rfl) (by exact fun _ _ _ h => h) (by first | assumption | exact KB.refl _) (.inl ⟨by rfl, fun W hW => ?_⟩) ?_; rotate_left
    · (go_simp; first | done | with_reducible rfl)
    try simp only [Act.put, List.setIfInBounds_toArray, List.set_cons_zero, List.set_cons_succ]
    refine btakeS 2 (oi := _) (v := ?_) (by simp only [List.getElem?_toArray, List.getElem?_cons_succ, List.getElem?_cons_zero]; rfl) (by kernel_rfl) (by exact fun _ _ _ h => h) (by first | assumption | exact KB.refl _) (.inl ⟨by rfl, fun W hW => ?_⟩) ?_; rotate_left
    · (go_simp; first | done | with_reducible rfl)
    try simp only [Act.put, List.setIfInBounds_toArray, List.set_cons_zero, List.set_cons_succ]
    refine btakeS 5 (oi := _) (v := ?_) (by simp only [List.getElem?_toArray, List.getElem?_cons_succ, List.getElem?_cons_zero]; rfl) (by kernel_rfl) (by exact fun _ _ _ h => h) (by first | assumption | exact KB.refl _) (.inl ⟨by rfl, fun W hW => ?_⟩) ?_; rotate_left
    · (go_simp; first | done | with_reducible rfl)
    try simp only [Act.put, List.setIfInBounds_toArray, List.set_cons_zero, List.set_cons_succ]
    refine btakeS 6 (oi := _) (v := ?_) (by simp only [List.getElem?_toArray, List.getElem?_cons_succ, List.getElem?_cons_zero]; rfl) (by kernel_rfl) (by exact fun _ _ _ h => h) (by first | assumption | exact KB.refl _) (.inl ⟨by rfl, fun W hW => ?_⟩) ?_; rotate_left
    · (go_simp; first | done | with_reducible rfl)
    try simp only [Act.put, List.setIfInBounds_toArray, List.set_cons_zero, List.set_cons_succ]
    refine btakeS 7 (oi := _) (v := ?_) (by simp only [List.getElem?_toArray, List.getElem?_cons_succ, List.getElem?_cons_zero]; rfl) (by kernel_rfl) (by exact fun _ _ _ h => h) (by first | assumption | exact KB.refl _) (.inl ⟨by rfl, fun W hW => ?_⟩) ?_; rotate_left
    · (go_simp; first | done | with_reducible rfl)
    try simp only [Act.put, List.setIfInBounds_toArray, List.set_cons_zero, List.set_cons_succ]
    -- 3: newsreel/newsreellaw23.name
    refine bopS 3 (o := _) (by simp only [List.getElem?_toArray, List.getElem?_cons_succ, List.getElem?_cons_zero]; rfl) (by kernel_rfl) (by rfl) (fun K hK => ?_)
    go_simp
    refine (name_any _ a.na hna).mono ?_
    rintro e w1 ⟨rfl, bw1⟩
    have hq1 := hq0.below bw1
    have hkb : AtS bx a.cells w1 := hq1.boxAt HA.out.2.2.1
    refine hK.out _ _ hkb ?_; clear hK K
    try simp only [Act.put, List.setIfInBounds_toArray, List.set_cons_zero, List.set_cons_succ]
    -- 4: (*newsreel/disk.Disk).Sync
    refine bopS 4 (o := _) (by simp only [List.getElem?_toArray, List.getElem?_cons_succ, List.getElem?_cons_zero]; rfl) (by kernel_rfl) (by rfl) (fun K hK => ?_)
    go_simp
    refine (Pool.PSync hq1 HA.out.1 HA.out.2.2.2.2.2.1 (by omega) _ hla).mono ?_
    rintro e w2 ⟨rfl, hq2⟩
    have hkb : AtS bx a.cells w2 := hq2.boxAt (HA.out.2.2.2.1 _)
    refine hK.out _ _ hkb ?_; clear hK K
    try simp only [Act.put, List.setIfInBounds_toArray, List.set_cons_zero, List.set_cons_succ]
    -- 8: newsreel/newsreellaw23.name
    refine bopS 8 (o := _) (by simp only [List.getElem?_toArray, List.getElem?_cons_succ, List.getElem?_cons_zero]; rfl) (by kernel_rfl) (by rfl) (fun K hK => ?_)
    go_simp
    refine (name_any _ a.na hna).mono ?_
    rintro e w3 ⟨rfl, bw3⟩
    have hq3 := hq2.below bw3
    have hkb : AtS bx a.cells w3 := hq3.boxAt (HA.out.2.2.2.1 _)
    refine hK.out _ _ hkb ?_; clear hK K
    try simp only [Act.put, List.setIfInBounds_toArray, List.set_cons_zero, List.set_cons_succ]
    -- 9: (*newsreel/newsreelref23.Disk).Sync
    refine bopS 9 (o := _) (by simp only [List.getElem?_toArray, List.getElem?_cons_succ, List.getElem?_cons_zero]; rfl) (by kernel_rfl) (by rfl) (fun K hK => ?_)
    go_simp
    refine (Pool.DSync hq3 (HA.out.2.1 _) HA.out.2.2.2.2.2.1 (by omega) _).mono ?_
    rintro e wz ⟨rfl, hqz⟩
    have hkb : AtS bx a.cells wz := hqz.boxAt (HA.out.2.2.2.2.2.2.2.2.1 _ _)
    refine hK.out _ _ hkb ?_; clear hK K
    try simp only [Act.put, List.setIfInBounds_toArray, List.set_cons_zero, List.set_cons_succ]
    refine btakeS 10 (oi := _) (v := ?_) (by simp only [List.getElem?_toArray, List.getElem?_cons_succ, List.getElem?_cons_zero]; rfl) (by kernel_rfl) (by exact fun _ _ _ h => h) (by first | assumption | exact KB.refl _) (.inl ⟨by rfl, fun W hW => ?_⟩) ?_; rotate_left
    · (go_simp; first | done | with_reducible rfl)
    try simp only [Act.put, List.setIfInBounds_toArray, List.set_cons_zero, List.set_cons_succ]
    refine btakeS 11 (oi := _) (v := ?_) (by simp only [List.getElem?_toArray, List.getElem?_cons_succ, List.getElem?_cons_zero]; rfl) (by kernel_rfl) (by exact fun _ _ _ h => h) (by first | assumption | exact KB.refl _) (.inl ⟨by rfl, fun W hW => ?_⟩) ?_; rotate_left
    · (go_simp; first | done | with_reducible rfl)
    try simp only [Act.put, List.setIfInBounds_toArray, List.set_cons_zero, List.set_cons_succ]
    refine bdoneS (by kernel_rfl) ?_
    clear e1 e2 e3 e5 hS0
    obtain ⟨F, H, hp, _⟩ := hqz.usePD (HA.out.2.2.2.2.2.2.2.2.2.1 _ _)
    obtain ⟨F2, H2, hd, _⟩ := hqz.useDD (HA.out.2.2.2.2.2.2.2.2.2.2 _ _)
    have HL := Lib.hid (And.intro (alike_any wz p d F H F2 H2 _ (n + 1) hp hd HA.out.2.2.2.2.2.2.1 (by omega)) hqz)
    clear hp hd hqz HPB HAT HML
    go_wp2_with (go_at_call 21; refine HL.out.1.mono ?_; rintro e wy ⟨rfl, hby⟩)
    go_ret
    exact ⟨rfl, HA.out.2.2.2.2.1 _ _ _ (HL.out.2.below hby)⟩
set_option maxRecDepth 100000 in
set_option maxHeartbeats 6400000 in
theorem play_truncA (w0 W : World) (L : List Ob) (i j p d : Nat) (s : DK) (n : Nat) (hP : Pool w0 L W) (hi : L[i]? = some (Ob.P p s)) (hj : L[j]? = some (Ob.D d s)) (hne : i ≠ j) (hok : s.ok n) (hn : n < 999999) (a : AK) (ha : a.ok w0) (hwh : a.wh % 16 = 8) :
    Calls Try.prog 22 #[.pointer (some ⟨p, 0, none⟩), .pointer (some ⟨d, 0, none⟩), .agg a.cells.toArray] W fun e W' => e = .returned (.bool true) ∧ Pool w0 ((L.set i (Ob.P p (actK s a).2)).set j (Ob.D d (actK s a).2)) W' := by
  have hPB : Pool w0 (L ++ [Ob.B W.heap.size a.cells]) (W.alloc (.cells a.cells.toArray 43)) := hP.box 43 a.cells
  have hli := (List.getElem?_eq_some_iff.1 hi).1
  have hlj := (List.getElem?_eq_some_iff.1 hj).1
  have hi1 : (L ++ [Ob.B W.heap.size a.cells])[i]? = some (Ob.P p s) := by rw [List.getElem?_append_left hli]; exact hi
  have hj1 : (L ++ [Ob.B W.heap.size a.cells])[j]? = some (Ob.D d s) := by rw [List.getElem?_append_left hlj]; exact hj
  have hk1 : (L ++ [Ob.B W.heap.size a.cells])[L.length]? = some (Ob.B W.heap.size a.cells) := by rw [List.getElem?_append_right (Nat.le_refl _), Nat.sub_self]; rfl
  have hki : i ≠ L.length := by omega
  have hkj : j ≠ L.length := by omega
  have hfin : ∀ (W' : World) (x y : Ob), Pool w0 (((L ++ [Ob.B W.heap.size a.cells]).set i x).set j y) W' → Pool w0 ((L.set i x).set j y) W' := fun W' x y h => by
    rw [List.set_append_left _ _ hli, List.set_append_left _ _ (by rw [List.length_set]; exact hlj)] at h
    exact h.drop
  have hat := hPB.boxAt hk1
  obtain ⟨L1, hL1⟩ : ∃ L1, L ++ [Ob.B W.heap.size a.cells] = L1 := ⟨_, rfl⟩
  rw [hL1] at hPB hi1 hj1 hk1 hfin
  clear hP hi hj hli hlj hL1
  have hac : actK s a = (s.truncate (nameOf a.na) a.n) := by
    unfold actK
    simp [hwh]
  rw [hac]
  have hok1 : (s.truncate (nameOf a.na) a.n).2.ok (n + 1) := by have := actK_ok hok (a := a) ha.n0 ha.n1; rw [hac] at this; exact this
  have hne' : j ≠ i := Ne.symm hne
  have hla := nameOf_len a.na
  have hlb := nameOf_len a.to
  have hi2 := fun o => set_apart (L := L1) (o' := o) hne' hi1
  have hj2 := fun o => set_apart (L := L1) (o' := o) hne hj1
  have hk2 := fun o => set_apart (L := L1) (o' := o) hki hk1
  have hk3 := fun x y => set_apart (L := L1.set i x) (o' := y) hkj (hk2 x)
  have hi3 : ∀ x y : Ob, ((L1.set i x).set j y)[i]? = some x := fun x y => set_apart hne' (List.getElem?_set_self (List.getElem?_eq_some_iff.1 hi1).1)
  have hj3 : ∀ x y : Ob, ((L1.set i x).set j y)[j]? = some y := fun x y => List.getElem?_set_self (by rw [List.length_set]; exact (List.getElem?_eq_some_iff.1 hj1).1)
  have HA := Lib.hid (And.intro hi1 (And.intro hj2 (And.intro hk1 (And.intro hk2 (And.intro hfin (And.intro hok (And.intro hok1 (And.intro ha (And.intro hk3 (And.intro hi3 hj3))))))))))
  have hna := ha.na
  have hto := ha.to
  have hwb := ha.wh
  have hn0 := ha.n0
  have hn1 := ha.n1
  have hbl := ha.bl
  have HPB := Lib.hid hPB
  have HAT := Lib.hid hat
  have c0 := hat.c 0 rfl
  have c1 := hat.c 1 rfl
  have c2 := hat.c 2 rfl
  have c3 := hat.c 3 rfl
  have c4 := hat.c 4 rfl
  have c5 := hat.c 5 rfl
  have hwi : ∃ v : Nat, a.wh % 16 = v ∧ (v = 8) := ⟨_, rfl, hwh⟩
  obtain ⟨wv, hwv, hwc⟩ := hwi
  have hwz : ((a.wh : Int) % 16) = (wv : Int) := by omega
  obtain ⟨ml, hml⟩ : ∃ ml, min a.b.length 40 = ml := ⟨_, rfl⟩
  have HML := Lib.hid (And.intro (show (a.b.take 40).length = ml by rw [List.length_take, Nat.min_comm]; exact hml) (show Sl w0 w0.heap.size a.bA (bv (a.b.take 40)) by rw [← bv_take]; exact ha.b.tk 40))
  have hml40 : ml ≤ 40 := by omega
  have hmlb : ml ≤ a.bc := by omega
  clear hac hok1 hok ha hat hi1 hj1 hk1 hki hkj hfin hPB hi2 hj2 hk2 hwh hml hne hne' hk3 hi3 hj3
  rcases hwc with rfl
  · go_enter Try.func22, Try.ntmps22
    go_wp2_with fail
    generalize hbx : W.heap.size = bx at *
    generalize W.alloc (.cells a.cells.toArray 43) = W1 at *
    clear c0 c1 c2 c3 c4 c5 hwv hwz hwb
    have hq0 : Pool w0 L1 W1.drew := HPB.out.below (Below.refl _ _).drew
    have hS0 : AtS bx a.cells W1.drew := HAT.out
    have e1 : ∀ W, AtS bx a.cells W → W.cell? ⟨bx, 1, none⟩ = some (.int .u8 (a.na : Int)) := AtS.e 1 rfl
    have e2 : ∀ W, AtS bx a.cells W → W.cell? ⟨bx, 2, none⟩ = some (.int .u8 (a.to : Int)) := AtS.e 2 rfl
    have e3 : ∀ W, AtS bx a.cells W → W.cell? ⟨bx, 3, none⟩ = some (.int .i64 a.n) := AtS.e 3 rfl
    have e5 : ∀ W, AtS bx a.cells W → W.cell? ⟨bx, 5, none⟩ = some (.slice a.pA a.ps.length a.pc) := AtS.e 5 rfl
    refine bstartS (AtS bx a.cells) (by kernel_rfl) ?_
    refine btakeS 0 (oi := _) (v := ?_) (by simp only [List.getElem?_toArray, List.getElem?_cons_zero]; rfl) (by kernel_rfl) (by exact fun _ _ _ h => h) (by first | assumption | exact KB.refl _) (.inl ⟨by rfl, fun W hW => ?_⟩) ?_; rotate_left
    · (go_simp; first | done | with_reducible rfl)
    try simp only [Act.put, List.setIfInBounds_toArray, List.set_cons_zero, List.set_cons_succ]
    refine btakeS 1 (oi := _) (v := ?_) (by simp only [List.getElem?_toArray, List.getElem?_cons_succ, List.getElem?_cons_zero]; rfl) (by kernel_rfl) (by exact fun _ _ _ h => h) (by first | assumption | exact KB.refl _) (.inl ⟨by rfl, fun W hW => ?_⟩) ?_; rotate_left
    · (go_simp; first | done | with_reducible rfl)
    try simp only [Act.put, List.setIfInBounds_toArray, List.set_cons_zero, List.set_cons_succ]
    refine btakeS 2 (oi := _) (v := ?_) (by simp only [List.getElem?_toArray, List.getElem?_cons_succ, List.getElem?_cons_zero]; rfl) (by kernel_rfl) (by exact fun _ _ _ h => h) (by first | assumption | exact KB.refl _) (.inl ⟨by rfl, fun W hW => ?_⟩) ?_; rotate_left
    · (go_simp; first | done | with_reducible rfl)
    try simp only [Act.put, List.setIfInBounds_toArray, List.set_cons_zero, List.set_cons_succ]
    refine btakeS 4 (oi := _) (v := ?_) (by simp only [List.getElem?_toArray, List.getElem?_cons_succ, List.getElem?_cons_zero]; rfl) (by kernel_rfl) (by exact fun _ _ _ h => h) (by first | assumption | exact KB.refl _) (.inl ⟨by rfl, fun W hW => ?_⟩) ?_; rotate_left
    · (go_simp; first | done | with_reducible rfl)
    try simp only [Act.put, List.setIfInBounds_toArray, List.set_cons_zero, List.set_cons_succ]
    refine btakeS 5 (oi := _) (v := ?_) (by simp only [List.getElem?_toArray, List.getElem?_cons_succ, List.getElem?_cons_zero]; rfl) (by kernel_rfl) (by exact fun _ _ _ h => h) (by first | assumption | exact KB.refl _) (.inl ⟨by rfl, fun W hW => ?_⟩) ?_; rotate_left
    · (go_simp; first | done | with_reducible rfl)
    try simp only [Act.put, List.setIfInBounds_toArray, List.set_cons_zero, List.set_cons_succ]
    refine btakeS 7 (oi := _) (v := ?_) (by simp only [List.getElem?_toArray, List.getElem?_cons_succ, List.getElem?_cons_zero]; rfl) (by kernel_rfl) (by exact fun _ _ _ h => h) (by first | assumption | exact KB.refl _) (.inl ⟨by rfl, fun W hW => ?_⟩) ?_; rotate_left
    · (go_simp; first | done | with_reducible rfl)
    try simp only [Act.put, List.setIfInBounds_toArray, List.set_cons_zero, List.set_cons_succ]
    refine btakeS 8 (oi := _) (v := ?_) (by simp only [List.getElem?_toArray, List.getElem?_cons_succ, List.getElem?_cons_zero]; rfl) (by kernel_rfl) (by exact fun _ _ _ h => h) (by first | assumption | exact KB.refl _) (.inl ⟨by rfl, fun W hW => ?_⟩) ?_; rotate_left
    · (go_simp; first | done | with_reducible rfl)
    try simp only [Act.put, List.setIfInBounds_toArray, List.set_cons_zero, List.set_cons_succ]
    refine btakeS 9 (oi := _) (v := ?_) (by simp only [List.getElem?_toArray, List.getElem?_cons_succ, List.getElem?_cons_zero]; rfl) (by kernel_rfl) (by exact fun _ _ _ h => h) (by first | assumption | exact KB.refl _) (.inl ⟨by rfl, fun W hW => ?_⟩) ?_; rotate_left
    · (go_simp; first | done | with_reducible rfl)
    try simp only [Act.put, List.setIfInBounds_toArray, List.set_cons_zero, List.set_cons_succ]
    refine btakeS 11 (oi := _) (v := ?_) (by simp only [List.getElem?_toArray, List.getElem?_cons_succ, List.getElem?_cons_zero]; rfl) (by kernel_rfl) (by exact fun _ _ _ h => h) (by first | assumption | exact KB.refl _) (.inl ⟨by rfl, fun W hW => ?_⟩) ?_; rotate_left
    · (go_simp; first | done | with_reducible rfl)
    try simp only [Act.put, List.setIfInBounds_toArray, List.set_cons_zero, List.set_cons_succ]
    refine btakeS 12 (oi := _) (v := ?_) (by simp only [List.getElem?_toArray, List.getElem?_cons_succ, List.getElem?_cons_zero]; rfl) (by kernel_rfl) (by exact fun _ _ _ h => h) (by first | assumption | exact KB.refl _) (.inl ⟨by rfl, fun W hW => ?_⟩) ?_; rotate_left
    · (go_simp; first | done | with_reducible rfl)
    try simp only [Act.put, List.setIfInBounds_toArray, List.set_cons_zero, List.set_cons_succ]
    -- 3: newsreel/newsreellaw23.name
    refine bopS 3 (o := _) (by simp only [List.getElem?_toArray, List.getElem?_cons_succ, List.getElem?_cons_zero]; rfl) (by kernel_rfl) (by rfl) (fun K hK => ?_)
    go_simp
    refine (name_any _ a.na hna).mono ?_
    rintro e w1 ⟨rfl, bw1⟩
    have hq1 := hq0.below bw1
    have hkb : AtS bx a.cells w1 := hq1.boxAt HA.out.2.2.1
    refine hK.out _ _ hkb ?_; clear hK K
    try simp only [Act.put, List.setIfInBounds_toArray, List.set_cons_zero, List.set_cons_succ]
    -- 6: (*newsreel/disk.Disk).Truncate
    refine bopS 6 (o := _) (by simp only [List.getElem?_toArray, List.getElem?_cons_succ, List.getElem?_cons_zero]; rfl) (by kernel_rfl) (by rfl) (fun K hK => ?_)
    go_simp
    refine (Pool.PTruncate hq1 HA.out.1 HA.out.2.2.2.2.2.1 (by omega) _ hla a.n hn0 hn1).mono ?_
    rintro e w2 ⟨rfl, hq2⟩
    have hkb : AtS bx a.cells w2 := hq2.boxAt (HA.out.2.2.2.1 _)
    refine hK.out _ _ hkb ?_; clear hK K
    try simp only [Act.put, List.setIfInBounds_toArray, List.set_cons_zero, List.set_cons_succ]
    -- 10: newsreel/newsreellaw23.name
    refine bopS 10 (o := _) (by simp only [List.getElem?_toArray, List.getElem?_cons_succ, List.getElem?_cons_zero]; rfl) (by kernel_rfl) (by rfl) (fun K hK => ?_)
    go_simp
    refine (name_any _ a.na hna).mono ?_
    rintro e w3 ⟨rfl, bw3⟩
    have hq3 := hq2.below bw3
    have hkb : AtS bx a.cells w3 := hq3.boxAt (HA.out.2.2.2.1 _)
    refine hK.out _ _ hkb ?_; clear hK K
    try simp only [Act.put, List.setIfInBounds_toArray, List.set_cons_zero, List.set_cons_succ]
    -- 13: (*newsreel/newsreelref23.Disk).Truncate
    refine bopS 13 (o := _) (by simp only [List.getElem?_toArray, List.getElem?_cons_succ, List.getElem?_cons_zero]; rfl) (by kernel_rfl) (by rfl) (fun K hK => ?_)
    go_simp
    refine (Pool.DTruncate hq3 (HA.out.2.1 _) HA.out.2.2.2.2.2.1 (by omega) _ a.n hn0 hn1).mono ?_
    rintro e wz ⟨rfl, hqz⟩
    have hkb : AtS bx a.cells wz := hqz.boxAt (HA.out.2.2.2.2.2.2.2.2.1 _ _)
    refine hK.out _ _ hkb ?_; clear hK K
    try simp only [Act.put, List.setIfInBounds_toArray, List.set_cons_zero, List.set_cons_succ]
    refine btakeS 14 (oi := _) (v := ?_) (by simp only [List.getElem?_toArray, List.getElem?_cons_succ, List.getElem?_cons_zero]; rfl) (by kernel_rfl) (by exact fun _ _ _ h => h) (by first | assumption | exact KB.refl _) (.inl ⟨by rfl, fun W hW => ?_⟩) ?_; rotate_left
    · (go_simp; first | done | with_reducible rfl)
    try simp only [Act.put, List.setIfInBounds_toArray, List.set_cons_zero, List.set_cons_succ]
    refine btakeS 15 (oi := _) (v := ?_) (by simp only [List.getElem?_toArray, List.getElem?_cons_succ, List.getElem?_cons_zero]; rfl) (by kernel_rfl) (by exact fun _ _ _ h => h) (by first | assumption | exact KB.refl _) (.inl ⟨by rfl, fun W hW => ?_⟩) ?_; rotate_left
    · (go_simp; first | done | with_reducible rfl)
    try simp only [Act.put, List.setIfInBounds_toArray, List.set_cons_zero, List.set_cons_succ]
    refine bdoneS (by kernel_rfl) ?_
    clear e1 e2 e3 e5 hS0
    obtain ⟨F, H, hp, _⟩ := hqz.usePD (HA.out.2.2.2.2.2.2.2.2.2.1 _ _)
    obtain ⟨F2, H2, hd, _⟩ := hqz.useDD (HA.out.2.2.2.2.2.2.2.2.2.2 _ _)
    have HL := Lib.hid (And.intro (alike_any wz p d F H F2 H2 _ (n + 1) hp hd HA.out.2.2.2.2.2.2.1 (by omega)) hqz)
    clear hp hd hqz HPB HAT HML
    go_wp2_with (go_at_call 21; refine HL.out.1.mono ?_; rintro e wy ⟨rfl, hby⟩)
    go_ret
    exact ⟨rfl, HA.out.2.2.2.2.1 _ _ _ (HL.out.2.below hby)⟩
set_option maxRecDepth 100000 in
set_option maxHeartbeats 6400000 in
theorem play_truncB (w0 W : World) (L : List Ob) (i j p d : Nat) (s : DK) (n : Nat) (hP : Pool w0 L W) (hi : L[i]? = some (Ob.P p s)) (hj : L[j]? = some (Ob.D d s)) (hne : i ≠ j) (hok : s.ok n) (hn : n < 999999) (a : AK) (ha : a.ok w0) (hwh : a.wh % 16 = 9) :
    Calls Try.prog 22 #[.pointer (some ⟨p, 0, none⟩), .pointer (some ⟨d, 0, none⟩), .agg a.cells.toArray] W fun e W' => e = .returned (.bool true) ∧ Pool w0 ((L.set i (Ob.P p (actK s a).2)).set j (Ob.D d (actK s a).2)) W' := by
  have hPB : Pool w0 (L ++ [Ob.B W.heap.size a.cells]) (W.alloc (.cells a.cells.toArray 43)) := hP.box 43 a.cells
  have hli := (List.getElem?_eq_some_iff.1 hi).1
  have hlj := (List.getElem?_eq_some_iff.1 hj).1
  have hi1 : (L ++ [Ob.B W.heap.size a.cells])[i]? = some (Ob.P p s) := by rw [List.getElem?_append_left hli]; exact hi
  have hj1 : (L ++ [Ob.B W.heap.size a.cells])[j]? = some (Ob.D d s) := by rw [List.getElem?_append_left hlj]; exact hj
  have hk1 : (L ++ [Ob.B W.heap.size a.cells])[L.length]? = some (Ob.B W.heap.size a.cells) := by rw [List.getElem?_append_right (Nat.le_refl _), Nat.sub_self]; rfl
  have hki : i ≠ L.length := by omega
  have hkj : j ≠ L.length := by omega
  have hfin : ∀ (W' : World) (x y : Ob), Pool w0 (((L ++ [Ob.B W.heap.size a.cells]).set i x).set j y) W' → Pool w0 ((L.set i x).set j y) W' := fun W' x y h => by
    rw [List.set_append_left _ _ hli, List.set_append_left _ _ (by rw [List.length_set]; exact hlj)] at h
    exact h.drop
  have hat := hPB.boxAt hk1
  obtain ⟨L1, hL1⟩ : ∃ L1, L ++ [Ob.B W.heap.size a.cells] = L1 := ⟨_, rfl⟩
  rw [hL1] at hPB hi1 hj1 hk1 hfin
  clear hP hi hj hli hlj hL1
  have hac : actK s a = (s.truncate (nameOf a.na) ((a.to % 64 : Nat) : Int)) := by
    unfold actK
    simp [hwh]
  rw [hac]
  have hok1 : (s.truncate (nameOf a.na) ((a.to % 64 : Nat) : Int)).2.ok (n + 1) := by have := actK_ok hok (a := a) ha.n0 ha.n1; rw [hac] at this; exact this
  have hne' : j ≠ i := Ne.symm hne
  have hla := nameOf_len a.na
  have hlb := nameOf_len a.to
  have hi2 := fun o => set_apart (L := L1) (o' := o) hne' hi1
  have hj2 := fun o => set_apart (L := L1) (o' := o) hne hj1
  have hk2 := fun o => set_apart (L := L1) (o' := o) hki hk1
  have hk3 := fun x y => set_apart (L := L1.set i x) (o' := y) hkj (hk2 x)
  have hi3 : ∀ x y : Ob, ((L1.set i x).set j y)[i]? = some x := fun x y => set_apart hne' (List.getElem?_set_self (List.getElem?_eq_some_iff.1 hi1).1)
  have hj3 : ∀ x y : Ob, ((L1.set i x).set j y)[j]? = some y := fun x y => List.getElem?_set_self (by rw [List.length_set]; exact (List.getElem?_eq_some_iff.1 hj1).1)
  have HA := Lib.hid (And.intro hi1 (And.intro hj2 (And.intro hk1 (And.intro hk2 (And.intro hfin (And.intro hok (And.intro hok1 (And.intro ha (And.intro hk3 (And.intro hi3 hj3))))))))))
  have hna := ha.na
  have hto := ha.to
  have hwb := ha.wh
  have hn0 := ha.n0
  have hn1 := ha.n1
  have hbl := ha.bl
  have HPB := Lib.hid hPB
  have HAT := Lib.hid hat
  have c0 := hat.c 0 rfl
  have c1 := hat.c 1 rfl
  have c2 := hat.c 2 rfl
  have c3 := hat.c 3 rfl
  have c4 := hat.c 4 rfl
  have c5 := hat.c 5 rfl
  have hwi : ∃ v : Nat, a.wh % 16 = v ∧ (v = 9) := ⟨_, rfl, hwh⟩
  obtain ⟨wv, hwv, hwc⟩ := hwi
  have hwz : ((a.wh : Int) % 16) = (wv : Int) := by omega
  obtain ⟨ml, hml⟩ : ∃ ml, min a.b.length 40 = ml := ⟨_, rfl⟩
  have HML := Lib.hid (And.intro (show (a.b.take 40).length = ml by rw [List.length_take, Nat.min_comm]; exact hml) (show Sl w0 w0.heap.size a.bA (bv (a.b.take 40)) by rw [← bv_take]; exact ha.b.tk 40))
  have hml40 : ml ≤ 40 := by omega
  have hmlb : ml ≤ a.bc := by omega
  clear hac hok1 hok ha hat hi1 hj1 hk1 hki hkj hfin hPB hi2 hj2 hk2 hwh hml hne hne' hk3 hi3 hj3
  obtain ⟨tn, htn⟩ : ∃ t, a.to % 64 = t := ⟨_, rfl⟩
  have hti : ((a.to : Int) % 64) = (tn : Int) := by omega
  rw [htn] at HA ⊢
  rcases hwc with rfl
  · go_enter Try.func22, Try.ntmps22
    go_wp2_with fail
    generalize hbx : W.heap.size = bx at *
    generalize W.alloc (.cells a.cells.toArray 43) = W1 at *
    clear c0 c1 c2 c3 c4 c5 hwv hwz hwb
    have hq0 : Pool w0 L1 W1.drew := HPB.out.below (Below.refl _ _).drew
    have hS0 : AtS bx a.cells W1.drew := HAT.out
    have e1 : ∀ W, AtS bx a.cells W → W.cell? ⟨bx, 1, none⟩ = some (.int .u8 (a.na : Int)) := AtS.e 1 rfl
    have e2 : ∀ W, AtS bx a.cells W → W.cell? ⟨bx, 2, none⟩ = some (.int .u8 (a.to : Int)) := AtS.e 2 rfl
    have e3 : ∀ W, AtS bx a.cells W → W.cell? ⟨bx, 3, none⟩ = some (.int .i64 a.n) := AtS.e 3 rfl
    have e5 : ∀ W, AtS bx a.cells W → W.cell? ⟨bx, 5, none⟩ = some (.slice a.pA a.ps.length a.pc) := AtS.e 5 rfl
    refine bstartS (AtS bx a.cells) (by kernel_rfl) ?_
    refine btakeS 0 (oi := _) (v := ?_) (by simp only [List.getElem?_toArray, List.getElem?_cons_zero]; rfl) (by kernel_rfl) (by exact fun _ _ _ h => h) (by first | assumption | exact KB.refl _) (.inl ⟨by rfl, fun W hW => ?_⟩) ?_; rotate_left
    · (go_simp; first | done | with_reducible rfl)
    try simp only [Act.put, List.setIfInBounds_toArray, List.set_cons_zero, List.set_cons_succ]
    refine btakeS 1 (oi := _) (v := ?_) (by simp only [List.getElem?_toArray, List.getElem?_cons_succ, List.getElem?_cons_zero]; rfl) (by kernel_rfl) (by exact fun _ _ _ h => h) (by first | assumption | exact KB.refl _) (.inl ⟨by rfl, fun W hW => ?_⟩) ?_; rotate_left
    · (go_simp; first | done | with_reducible rfl)
    try simp only [Act.put, List.setIfInBounds_toArray, List.set_cons_zero, List.set_cons_succ]
    refine btakeS 2 (oi := _) (v := ?_) (by simp only [List.getElem?_toArray, List.getElem?_cons_succ, List.getElem?_cons_zero]; rfl) (by kernel_rfl) (by exact fun _ _ _ h => h) (by first | assumption | exact KB.refl _) (.inl ⟨by rfl, fun W hW => ?_⟩) ?_; rotate_left
    · (go_simp; first | done | with_reducible rfl)
    try simp only [Act.put, List.setIfInBounds_toArray, List.set_cons_zero, List.set_cons_succ]
    refine btakeS 4 (oi := _) (v := ?_) (by simp only [List.getElem?_toArray, List.getElem?_cons_succ, List.getElem?_cons_zero]; rfl) (by kernel_rfl) (by exact fun _ _ _ h => h) (by first | assumption | exact KB.refl _) (.inl ⟨by rfl, fun W hW => ?_⟩) ?_; rotate_left
    · (go_simp; first | done | with_reducible rfl)
    try simp only [Act.put, List.setIfInBounds_toArray, List.set_cons_zero, List.set_cons_succ]
    refine btakeS 6 (oi := _) (v := ?_) (by simp only [List.getElem?_toArray, List.getElem?_cons_succ, List.getElem?_cons_zero]; rfl) (by kernel_rfl) (by exact fun _ _ _ h => h) (by first | assumption | exact KB.refl _) (.inl ⟨by rfl, fun W hW => ?_⟩) ?_; rotate_left
    · (go_simp; first | done | with_reducible rfl)
    try simp only [Act.put, List.setIfInBounds_toArray, List.set_cons_zero, List.set_cons_succ]
    refine btakeS 7 (oi := _) (v := ?_) (by simp only [List.getElem?_toArray, List.getElem?_cons_succ, List.getElem?_cons_zero]; rfl) (by kernel_rfl) (by exact fun _ _ _ h => h) (by first | assumption | exact KB.refl _) (.inl ⟨by rfl, fun W hW => ?_⟩) ?_; rotate_left
    · (go_simp; first | done | with_reducible rfl)
    try simp only [Act.put, List.setIfInBounds_toArray, List.set_cons_zero, List.set_cons_succ]
    refine btakeS 8 (oi := _) (v := ?_) (by simp only [List.getElem?_toArray, List.getElem?_cons_succ, List.getElem?_cons_zero]; rfl) (by kernel_rfl) (by exact fun _ _ _ h => h) (by first | assumption | exact KB.refl _) (.inl ⟨by rfl, fun W hW => ?_⟩) ?_; rotate_left
    · (go_simp; first | done | with_reducible rfl)
    try simp only [Act.put, List.setIfInBounds_toArray, List.set_cons_zero, List.set_cons_succ]
    refine btakeS 10 (oi := _) (v := ?_) (by simp only [List.getElem?_toArray, List.getElem?_cons_succ, List.getElem?_cons_zero]; rfl) (by kernel_rfl) (by exact fun _ _ _ h => h) (by first | assumption | exact KB.refl _) (.inl ⟨by rfl, fun W hW => ?_⟩) ?_; rotate_left
    · (go_simp; first | done | with_reducible rfl)
    try simp only [Act.put, List.setIfInBounds_toArray, List.set_cons_zero, List.set_cons_succ]
    -- 3: newsreel/newsreellaw23.name
    refine bopS 3 (o := _) (by simp only [List.getElem?_toArray, List.getElem?_cons_succ, List.getElem?_cons_zero]; rfl) (by kernel_rfl) (by rfl) (fun K hK => ?_)
    go_simp
    refine (name_any _ a.na hna).mono ?_
    rintro e w1 ⟨rfl, bw1⟩
    have hq1 := hq0.below bw1
    have hkb : AtS bx a.cells w1 := hq1.boxAt HA.out.2.2.1
    refine hK.out _ _ hkb ?_; clear hK K
    try simp only [Act.put, List.setIfInBounds_toArray, List.set_cons_zero, List.set_cons_succ]
    -- 5: (*newsreel/disk.Disk).Truncate
    refine bopS 5 (o := _) (by simp only [List.getElem?_toArray, List.getElem?_cons_succ, List.getElem?_cons_zero]; rfl) (by kernel_rfl) (by rfl) (fun K hK => ?_)
    go_simp
    refine (Pool.PTruncate hq1 HA.out.1 HA.out.2.2.2.2.2.1 (by omega) _ hla (tn : Int) (by omega) (by omega)).mono ?_
    rintro e w2 ⟨rfl, hq2⟩
    have hkb : AtS bx a.cells w2 := hq2.boxAt (HA.out.2.2.2.1 _)
    refine hK.out _ _ hkb ?_; clear hK K
    try simp only [Act.put, List.setIfInBounds_toArray, List.set_cons_zero, List.set_cons_succ]
    -- 9: newsreel/newsreellaw23.name
    refine bopS 9 (o := _) (by simp only [List.getElem?_toArray, List.getElem?_cons_succ, List.getElem?_cons_zero]; rfl) (by kernel_rfl) (by rfl) (fun K hK => ?_)
    go_simp
    refine (name_any _ a.na hna).mono ?_
    rintro e w3 ⟨rfl, bw3⟩
    have hq3 := hq2.below bw3
    have hkb : AtS bx a.cells w3 := hq3.boxAt (HA.out.2.2.2.1 _)
    refine hK.out _ _ hkb ?_; clear hK K
    try simp only [Act.put, List.setIfInBounds_toArray, List.set_cons_zero, List.set_cons_succ]
    -- 11: (*newsreel/newsreelref23.Disk).Truncate
    refine bopS 11 (o := _) (by simp only [List.getElem?_toArray, List.getElem?_cons_succ, List.getElem?_cons_zero]; rfl) (by kernel_rfl) (by rfl) (fun K hK => ?_)
    go_simp
    refine (Pool.DTruncate hq3 (HA.out.2.1 _) HA.out.2.2.2.2.2.1 (by omega) _ (tn : Int) (by omega) (by omega)).mono ?_
    rintro e wz ⟨rfl, hqz⟩
    have hkb : AtS bx a.cells wz := hqz.boxAt (HA.out.2.2.2.2.2.2.2.2.1 _ _)
    refine hK.out _ _ hkb ?_; clear hK K
    try simp only [Act.put, List.setIfInBounds_toArray, List.set_cons_zero, List.set_cons_succ]
    refine btakeS 12 (oi := _) (v := ?_) (by simp only [List.getElem?_toArray, List.getElem?_cons_succ, List.getElem?_cons_zero]; rfl) (by kernel_rfl) (by exact fun _ _ _ h => h) (by first | assumption | exact KB.refl _) (.inl ⟨by rfl, fun W hW => ?_⟩) ?_; rotate_left
    · (go_simp; first | done | with_reducible rfl)
    try simp only [Act.put, List.setIfInBounds_toArray, List.set_cons_zero, List.set_cons_succ]
    refine btakeS 13 (oi := _) (v := ?_) (by simp only [List.getElem?_toArray, List.getElem?_cons_succ, List.getElem?_cons_zero]; rfl) (by kernel_rfl) (by exact fun _ _ _ h => h) (by first | assumption | exact KB.refl _) (.inl ⟨by rfl, fun W hW => ?_⟩) ?_; rotate_left
    · (go_simp; first | done | with_reducible rfl)
    try simp only [Act.put, List.setIfInBounds_toArray, List.set_cons_zero, List.set_cons_succ]
    refine bdoneS (by kernel_rfl) ?_
    clear e1 e2 e3 e5 hS0
    obtain ⟨F, H, hp, _⟩ := hqz.usePD (HA.out.2.2.2.2.2.2.2.2.2.1 _ _)
    obtain ⟨F2, H2, hd, _⟩ := hqz.useDD (HA.out.2.2.2.2.2.2.2.2.2.2 _ _)
    have HL := Lib.hid (And.intro (alike_any wz p d F H F2 H2 _ (n + 1) hp hd HA.out.2.2.2.2.2.2.1 (by omega)) hqz)
    clear hp hd hqz HPB HAT HML
    go_wp2_with (go_at_call 21; refine HL.out.1.mono ?_; rintro e wy ⟨rfl, hby⟩)
    go_ret
    exact ⟨rfl, HA.out.2.2.2.2.1 _ _ _ (HL.out.2.below hby)⟩
end Go.Proofs.Ythnbnhlfiehihaa
