/- Flags: Put. -/
import Derived.Test.YtjijhmeagjhfoaaFlG
namespace Go.Proofs.Ytjijhmeagjhfoaa
open Go.RowKit Go.Maps
set_option maxRecDepth 20000

theorem keepM_lt {a b : FM} (h : b.s.lt a.s = true) : keepM a b = true := by unfold keepM; rw [h]; rfl
theorem keepM_ne {a b : FM} (h : b.s.lt a.s = false) (h2 : decide (b.s = a.s) = false) : keepM a b = false := by unfold keepM; rw [h, h2]; rfl
theorem keepM_eq {a b : FM} (h : b.s.lt a.s = false) (h2 : decide (b.s = a.s) = true) : keepM a b = (a.on || !b.on) := by unfold keepM; rw [h, h2]; rfl
def putIf (R : List FE) (x : ID) (m : FM) : List FE := if m.s.right then putR R x m else R
theorem FSt.put {w w' : World} {m b : Nat} {R : List FE} {L : List FE} (h1 : At w m [.map (some b)]) (hL : MapIs MF w b L) (hp : L.Perm R) (hR : Rise R) (hA : AllR R) {x : ID} {k : FM} (hk : k.s.right = true) (ht : told (look R x) k = true)
    (h2 : MapIs MF w' b (putA L x k)) (h3 : w.mapTurned w' b) : FSt w' m b (putIf R x k) := by
  unfold putIf
  rw [if_pos hk]
  refine ⟨h1.grown h3.grown ?_, ⟨_, h2, perm_put hp hR x k ht⟩, rise_put hR x k, all_put hR hA x hk⟩
  intro e
  injection e with e
  subst e
  obtain ⟨_, es, ⟨es', clock, hb, _⟩, _⟩ := hL
  have := h1.c 0 rfl
  simp only [World.cell?, hb] at this
  cases this
theorem told_some {o : Option FM} {M k : FM} (hM : o.getD zeroM = M) (hI : o.isSome = true) : told o k = !keepM M k := by
  cases o with
  | none => cases hI
  | some a => simp at hM; rw [hM]; rfl
theorem told_none {o : Option FM} {k : FM} (hI : o.isSome = false) : told o k = true := by
  cases o with
  | none => rfl
  | some a => cases hI
set_option linter.unusedVariables false in
theorem put_stay' {w w' : World} {m b : Nat} {R : List FE} {x : ID} {k : FM} (hr : true = k.s.right) (ht : told (look R x) k = false) (hR : Rise R) (h : FSt w' m b R) : FSt w' m b (putIf R x k) := by
  unfold putIf
  rw [← hr, if_pos rfl, put_keep hR x k ht]
  exact h
def PutPost (w : World) (m b : Nat) (R : List FE) (x : ID) (k : FM) (e : Ending) (w' : World) : Prop :=
  e = .returned (.tuple #[.bool (k.s.right && told (look R x) k), .int .i64 (if k.s.right then 0 else 21)]) ∧ FSt w' m b (putIf R x k) ∧ w.grownBy w' (some b)
theorem put_stay {w w' : World} {m b : Nat} {R L : List FE} {x : ID} {k : FM} (hr : true = k.s.right) (ht : told (look R x) k = false) (hN : L.Perm R ∧ Rise R ∧ AllR R ∧ L.length < maxLen) (h : FSt w' m b R) (hb : Below w.heap.size w w') : PutPost w m b R x k (.returned (.tuple #[.bool false, .int .i64 0])) w' :=
  ⟨by rw [← hr, ht]; rfl, put_stay' (w := w) hr ht hN.2.1 h, grown_of_below hb _⟩
theorem put_done {w w4 w' : World} {m b : Nat} {R L : List FE} {x : ID} {k : FM} (hr : true = k.s.right) (ht : told (look R x) k = true) (h1 : At w4 m [.map (some b)]) (hL : MapIs MF w4 b L) (hN : L.Perm R ∧ Rise R ∧ AllR R ∧ L.length < maxLen) (hb : Below w.heap.size w w4)
    (h2 : MapIs MF w' b (putA L x k)) (h3 : w4.mapTurned w' b) : PutPost w m b R x k (.returned (.tuple #[.bool true, .int .i64 0])) w' :=
  ⟨by rw [← hr, ht]; rfl, FSt.put h1 hL hN.1 hN.2.1 hN.2.2.1 hr.symm ht h2 h3, (grown_of_below hb (some b)).andThen h3.grown (fun j hj => .inr hj)⟩
def PutS (n m b : Nat) (x : ID) (sp sl sr : Int) (W : World) : Prop := At W n (bv x.l) ∧ At W (n + 1) [.int .i64 sp, .int .i64 sl, .int .i64 sr] ∧ At W m [.map (some b)]
set_option maxHeartbeats 3200000 in
theorem Put_any (w : World) (m b : Nat) (R : List FE) (h : FSt w m b R) (x : ID) (s : S3) (on' : Bool) (hn : R.length < 1000000) :
    Calls Try.prog 11 #[.pointer (some ⟨m, 0, none⟩), x.v, s.v, .bool on'] w (PutPost w m b R x ⟨s, on'⟩) := by
  have HF := Lib.hid h
  obtain ⟨h1, ⟨L, h2, h3⟩, h4, h5⟩ := h
  have hLn : L.length < maxLen := by rw [h3.length_eq]; simp only [maxLen]; omega
  obtain ⟨⟨⟨p, l, r⟩, on⟩, hM⟩ : ∃ M, (look R x).getD zeroM = M := ⟨_, rfl⟩
  obtain ⟨is, hI⟩ : ∃ is, (look R x).isSome = is := ⟨_, rfl⟩
  have HM := Lib.hid (And.intro hM hI)
  have HN := Lib.hid (And.intro h3 (And.intro h4 (And.intro h5 hLn)))
  have hmx : m < w.heap.size := h1.1
  have HB := Lib.hid (show b < w.heap.size from h2.lt)
  clear hM hI h3 h4 h5 hLn hn
  obtain ⟨rt, hrt⟩ : ∃ rt, rt = s.right := ⟨_, rfl⟩
  have HRT := Lib.hid hrt
  have hRight := fun w => Right_any w s
  rw [← hrt] at hRight
  have hLess := fun w => Less_any w s ⟨p, l, r⟩
  have hEq := fun w => eq3 w s ⟨p, l, r⟩
  obtain ⟨lt, hlt⟩ : ∃ lt, lt = s.lt ⟨p, l, r⟩ := ⟨_, rfl⟩
  obtain ⟨eq, heq⟩ : ∃ eq, eq = decide (s = ⟨p, l, r⟩) := ⟨_, rfl⟩
  rw [← hlt] at hLess
  rw [← heq] at hEq
  have HC := Lib.hid (And.intro hlt heq)
  obtain ⟨sp, sl, sr⟩ := s
  clear hrt hlt heq
  have HRi := Lib.hid hRight
  have HLe := Lib.hid hLess
  clear hRight hLess
  unfold ID.v
  simp only [S3.v] at hEq
  unfold S3.v
  have k0 := At.new w 25 (bv x.l).toArray
  have k1 := k0.alloc (.cells #[.int .i64 sp, .int .i64 sl, .int .i64 sr] 30)
  have k2 := At.new (w.alloc (.cells (bv x.l).toArray 25)) 30 #[.int .i64 sp, .int .i64 sl, .int .i64 sr]
  have hb2 : Below w.heap.size w ((w.alloc (.cells (bv x.l).toArray 25)).alloc (.cells #[.int .i64 sp, .int .i64 sl, .int .i64 sr] 30)) := ((Below.refl _ w).alloc (Nat.le_refl _) _).alloc (by simp) _
  have hs2 : ((w.alloc (.cells (bv x.l).toArray 25)).alloc (.cells #[.int .i64 sp, .int .i64 sl, .int .i64 sr] 30)).heap.size = w.heap.size + 2 := by simp
  rw [World.size_alloc] at k2
  have HK := Lib.hid (And.intro k1 k2)
  clear k0 k1 k2
  go_enter Try.func11, Try.ntmps11
  go_wp2_with (refine opVal rfl (ex_box32 rfl rfl) ?_)
  generalize (w.alloc (.cells (bv x.l).toArray 25)).alloc (.cells #[.int .i64 sp, .int .i64 sl, .int .i64 sr] 30) = w2 at *
  refine (HRi.out w2).mono ?_
  rintro e w3 ⟨rfl, hb3⟩
  have hbw := hb2.trans (hb3.mono hb2.size)
  have k1 := HK.out.1.below hb3
  have k2 := HK.out.2.below hb3
  have k3 := h1.below hbw
  have k4 := h2.below hbw
  have HF3 := Lib.hid (HF.out.below hbw)
  have hs3 : w.heap.size + 2 ≤ w3.heap.size := by have := hb3.size; omega
  clear HK hb2 hb3 h1 h2 HF hs2
  generalize w2.heap.size = n2 at *
  cases rt with
  | false =>
    clear hEq k1 k2 k3 k4
    go_wp2
    exact bodyPost_ret (v := .tuple #[.bool false, .int .i64 21]) (by simp [results, Try.results11, go_sem]) rfl ⟨by rw [← HRT.out]; rfl, by unfold putIf; rw [← HRT.out]; exact HF3.out, grown_of_below hbw _⟩
  | true =>
    have e3 := k3.e 0 (v := .map (some b)) rfl
    have HX := Lib.hid (And.intro k1 (And.intro k4 k3))
    have HY := Lib.hid k2
    have HL := Lib.hid x.h
    have g0 := k2.c 0 (v := .int .i64 sp) rfl
    have HEQ := Lib.hid hEq
    clear k1 k4 hEq k2 k3
    go_wp2_with fail
    have hS0 : KB w3.heap w3.drew := KB.refl _
    refine bstartH (w3.heap) (by kernel_rfl) ?_
    refine btake 0 (oi := _) (v := ?_) (by simp only [List.getElem?_toArray, List.getElem?_cons_zero]; rfl) (by kernel_rfl) (by exact fun _ _ _ h => h) (by first | assumption | exact KB.refl _) (.inl ⟨by rfl, fun W hW => ?_⟩) ?_; rotate_left
    · (go_simp; first | done | with_reducible rfl)
    try simp only [Act.put, List.setIfInBounds_toArray, List.set_cons_zero, List.set_cons_succ]
    refine btake 1 (oi := _) (v := ?_) (by simp only [List.getElem?_toArray, List.getElem?_cons_succ, List.getElem?_cons_zero]; rfl) (by kernel_rfl) (by exact fun _ _ _ h => h) (by first | assumption | exact KB.refl _) (.inl ⟨by rfl, fun W hW => ?_⟩) ?_; rotate_left
    · (go_simp; first | done | with_reducible rfl)
    try simp only [Act.put, List.setIfInBounds_toArray, List.set_cons_zero, List.set_cons_succ]
    refine btake 2 (oi := _) (v := ?_) (by simp only [List.getElem?_toArray, List.getElem?_cons_succ, List.getElem?_cons_zero]; rfl) (by kernel_rfl) (by exact fun _ _ _ h => h) (by first | assumption | exact KB.refl _) (.inl ⟨by rfl, fun W hW => ?_⟩) ?_; rotate_left
    · (go_simp; first | done | with_reducible rfl)
    try simp only [Act.put, List.setIfInBounds_toArray, List.set_cons_zero, List.set_cons_succ]
    refine btake 3 (oi := _) (v := ?_) (by simp only [List.getElem?_toArray, List.getElem?_cons_succ, List.getElem?_cons_zero]; rfl) (by kernel_rfl) (by exact fun _ _ _ h => h) (by first | assumption | exact KB.refl _) (.inl ⟨by rfl, fun W hW => ?_⟩) ?_; rotate_left
    · (go_simp; first | done | with_reducible rfl)
    try simp only [Act.put, List.setIfInBounds_toArray, List.set_cons_zero, List.set_cons_succ]
    refine btake 4 (oi := _) (v := ?_) (by simp only [List.getElem?_toArray, List.getElem?_cons_succ, List.getElem?_cons_zero]; rfl) (by kernel_rfl) (by exact fun _ _ _ h => h) (by first | assumption | exact KB.refl _) (.inl ⟨by rfl, fun W hW => ?_⟩) ?_; rotate_left
    · refine Eq.trans (ex_ld32 (us := bv x.l) (by rfl) (by rfl) (HX.out.1.kb hW) (by rw [bv_len]; exact HL.out)) ?_
      with_reducible rfl
    try simp only [Act.put, List.setIfInBounds_toArray, List.set_cons_zero, List.set_cons_succ]
    refine btake 5 (oi := _) (v := ?_) (by simp only [List.getElem?_toArray, List.getElem?_cons_succ, List.getElem?_cons_zero]; rfl) (by kernel_rfl) (by exact fun _ _ _ h => h) (by first | assumption | exact KB.refl _) (.inl ⟨by rfl, fun W hW => ?_⟩) ?_; rotate_left
    · refine Eq.trans (look_fs (HX.out.2.1.kb hW) HN.out.1 HN.out.2.1 x (by rfl) (by rfl) (by rfl) HM.out.1 HM.out.2) ?_
      with_reducible rfl
    try simp only [Act.put, List.setIfInBounds_toArray, List.set_cons_zero, List.set_cons_succ]
    refine btake 6 (oi := _) (v := ?_) (by simp only [List.getElem?_toArray, List.getElem?_cons_succ, List.getElem?_cons_zero]; rfl) (by kernel_rfl) (by exact fun _ _ _ h => h) (by first | assumption | exact KB.refl _) (.inl ⟨by rfl, fun W hW => ?_⟩) ?_; rotate_left
    · (go_simp; first | done | with_reducible rfl)
    try simp only [Act.put, List.setIfInBounds_toArray, List.set_cons_zero, List.set_cons_succ]
    refine btake 7 (oi := _) (v := ?_) (by simp only [List.getElem?_toArray, List.getElem?_cons_succ, List.getElem?_cons_zero]; rfl) (by kernel_rfl) (by exact fun _ _ _ h => h) (by first | assumption | exact KB.refl _) (.inl ⟨by rfl, fun W hW => ?_⟩) ?_; rotate_left
    · (go_simp; first | done | with_reducible rfl)
    try simp only [Act.put, List.setIfInBounds_toArray, List.set_cons_zero, List.set_cons_succ]
    refine btake 8 (oi := _) (v := ?_) (by simp only [List.getElem?_toArray, List.getElem?_cons_succ, List.getElem?_cons_zero]; rfl) (by kernel_rfl) (by exact fun _ _ _ h => h) (by first | assumption | exact KB.refl _) (.inl ⟨by rfl, fun W hW => ?_⟩) ?_; rotate_left
    · (go_simp; first | done | with_reducible rfl)
    try simp only [Act.put, List.setIfInBounds_toArray, List.set_cons_zero, List.set_cons_succ]
    -- 9: Op.alloc 68
    refine bopH 9 (o := _) (by simp only [List.getElem?_toArray, List.getElem?_cons_succ, List.getElem?_cons_zero]; rfl) (by kernel_rfl) (by first | assumption | exact KB.refl _) (by rfl) (fun K hK => ?_)
    go_simp
    have hkb : KB w3.heap (w3.alloc (.cells #[.int .i64 0, .int .i64 0, .int .i64 0, .bool false] 68)) := KB.alloc w3 _
    refine hK.out _ _ hkb ?_; clear hK K
    try simp only [Act.put, List.setIfInBounds_toArray, List.set_cons_zero, List.set_cons_succ]
    -- 10: Op.store 68 (Operand.tmp 10) (Operand.tmp 22)
    refine bopH 10 (o := _) (by simp only [List.getElem?_toArray, List.getElem?_cons_succ, List.getElem?_cons_zero]; rfl) (by kernel_rfl) (by first | assumption | exact KB.refl _) (by rfl) (fun K hK => ?_)
    go_simp
    have hkb : KB w3.heap (w3.alloc (.cells #[.int .i64 p, .int .i64 l, .int .i64 r, .bool on] 68)) := KB.alloc w3 _
    refine hK.out _ _ hkb ?_; clear hK K
    try simp only [Act.put, List.setIfInBounds_toArray, List.set_cons_zero, List.set_cons_succ]
    refine btake 11 (oi := _) (v := ?_) (by simp only [List.getElem?_toArray, List.getElem?_cons_succ, List.getElem?_cons_zero]; rfl) (by kernel_rfl) (by exact fun _ _ _ h => h) (by first | assumption | exact KB.refl _) (.inl ⟨by rfl, fun W hW => ?_⟩) ?_; rotate_left
    · (go_simp; first | done | with_reducible rfl)
    try simp only [Act.put, List.setIfInBounds_toArray, List.set_cons_zero, List.set_cons_succ]
    refine bdone (by kernel_rfl) ?_
    have q1 := (At.new w3 68 #[.int .i64 p, .int .i64 l, .int .i64 r, .bool on]).drew
    have q2 := (HX.out.1.alloc (.cells #[.int .i64 p, .int .i64 l, .int .i64 r, .bool on] 68)).drew
    have q3 := (HY.out.alloc (.cells #[.int .i64 p, .int .i64 l, .int .i64 r, .bool on] 68)).drew
    have q4 := (HX.out.2.2.alloc (.cells #[.int .i64 p, .int .i64 l, .int .i64 r, .bool on] 68)).drew
    have q5 := (HX.out.2.1.below (balloc (Below.refl w3.heap.size w3) (.cells #[.int .i64 p, .int .i64 l, .int .i64 r, .bool on] 68))).drew
    have q6 := (HF3.out.below (balloc (Below.refl w3.heap.size w3) (.cells #[.int .i64 p, .int .i64 l, .int .i64 r, .bool on] 68))).drew
    have hbw4 := (hbw.alloc hbw.size (.cells #[.int .i64 p, .int .i64 l, .int .i64 r, .bool on] 68)).drew
    clear e3 g0 HX HY HF3 hbw hS0
    generalize (w3.alloc (.cells #[.int .i64 p, .int .i64 l, .int .i64 r, .bool on] 68)).drew = w4 at *
    generalize w3.heap.size = n3 at *
    have HA := Lib.hid (And.intro (show At w4 w.heap.size (bv x.l) from q2) (And.intro (show At w4 (w.heap.size + 1) [.int .i64 sp, .int .i64 sl, .int .i64 sr] from q3) (And.intro q4 q5)))
    have HQ := Lib.hid (show At w4 n3 [.int .i64 p, .int .i64 l, .int .i64 r, .bool on] from q1)
    have HF4 := Lib.hid q6
    clear q1 q2 q3 q4 q5 q6
    cases is with
    | false =>
      have hto : told (look R x) ⟨⟨sp, sl, sr⟩, on'⟩ = true := told_none HM.out.2
      have HTO := Lib.hid hto
      clear hto
      go_wp2_with fail
      have hS0 : PutS w.heap.size m b x sp sl sr w4.drew := ⟨HA.out.1, HA.out.2.1, HA.out.2.2.1⟩
      have e0 : ∀ W, PutS w.heap.size m b x sp sl sr W → W.cell? ⟨w.heap.size + 1, 0, none⟩ = some (.int .i64 sp) := fun W h => h.2.1.c 0 rfl
      have e1 : ∀ W, PutS w.heap.size m b x sp sl sr W → W.cell? ⟨w.heap.size + 1, 1, none⟩ = some (.int .i64 sl) := fun W h => h.2.1.c 1 rfl
      have e2 : ∀ W, PutS w.heap.size m b x sp sl sr W → W.cell? ⟨w.heap.size + 1, 2, none⟩ = some (.int .i64 sr) := fun W h => h.2.1.c 2 rfl
      have e4 : ∀ W, PutS w.heap.size m b x sp sl sr W → W.cell? ⟨m, 0, none⟩ = some (.map (some b)) := fun W h => h.2.2.c 0 rfl
      refine bstartS (PutS w.heap.size m b x sp sl sr) (by kernel_rfl) ?_
      refine btakeS 0 (oi := _) (v := ?_) (by simp only [List.getElem?_toArray, List.getElem?_cons_zero]; rfl) (by kernel_rfl) (by exact fun _ _ _ h => h) (by first | assumption | exact KB.refl _) (.inl ⟨by rfl, fun W hW => ?_⟩) ?_; rotate_left
      · (go_simp; first | done | with_reducible rfl)
      try simp only [Act.put, List.setIfInBounds_toArray, List.set_cons_zero, List.set_cons_succ]
      refine btakeS 1 (oi := _) (v := ?_) (by simp only [List.getElem?_toArray, List.getElem?_cons_succ, List.getElem?_cons_zero]; rfl) (by kernel_rfl) (by exact fun _ _ _ h => h) (by first | assumption | exact KB.refl _) (.inl ⟨by rfl, fun W hW => ?_⟩) ?_; rotate_left
      · (go_simp; first | done | with_reducible rfl)
      try simp only [Act.put, List.setIfInBounds_toArray, List.set_cons_zero, List.set_cons_succ]
      refine btakeS 2 (oi := _) (v := ?_) (by simp only [List.getElem?_toArray, List.getElem?_cons_succ, List.getElem?_cons_zero]; rfl) (by kernel_rfl) (by exact fun _ _ _ h => h) (by first | assumption | exact KB.refl _) (.inl ⟨by rfl, fun W hW => ?_⟩) ?_; rotate_left
      · (go_simp; first | done | with_reducible rfl)
      try simp only [Act.put, List.setIfInBounds_toArray, List.set_cons_zero, List.set_cons_succ]
      refine btakeS 3 (oi := _) (v := ?_) (by simp only [List.getElem?_toArray, List.getElem?_cons_succ, List.getElem?_cons_zero]; rfl) (by kernel_rfl) (by exact fun _ _ _ h => h) (by first | assumption | exact KB.refl _) (.inl ⟨by rfl, fun W hW => ?_⟩) ?_; rotate_left
      · (go_simp; first | done | with_reducible rfl)
      try simp only [Act.put, List.setIfInBounds_toArray, List.set_cons_zero, List.set_cons_succ]
      refine btakeS 4 (oi := _) (v := ?_) (by simp only [List.getElem?_toArray, List.getElem?_cons_succ, List.getElem?_cons_zero]; rfl) (by kernel_rfl) (by exact fun _ _ _ h => h) (by first | assumption | exact KB.refl _) (.inl ⟨by rfl, fun W hW => ?_⟩) ?_; rotate_left
      · refine Eq.trans (ex_ld32 (us := bv x.l) (by rfl) (by rfl) hW.1 (by rw [bv_len]; exact HL.out)) ?_
        with_reducible rfl
      try simp only [Act.put, List.setIfInBounds_toArray, List.set_cons_zero, List.set_cons_succ]
      refine btakeS 5 (oi := _) (v := ?_) (by simp only [List.getElem?_toArray, List.getElem?_cons_succ, List.getElem?_cons_zero]; rfl) (by kernel_rfl) (by exact fun _ _ _ h => h) (by first | assumption | exact KB.refl _) (.inl ⟨by rfl, fun W hW => ?_⟩) ?_; rotate_left
      · (go_simp; first | done | with_reducible rfl)
      try simp only [Act.put, List.setIfInBounds_toArray, List.set_cons_zero, List.set_cons_succ]
      refine btakeS 6 (oi := _) (v := ?_) (by simp only [List.getElem?_toArray, List.getElem?_cons_succ, List.getElem?_cons_zero]; rfl) (by kernel_rfl) (by exact fun _ _ _ h => h) (by first | assumption | exact KB.refl _) (.inl ⟨by rfl, fun W hW => ?_⟩) ?_; rotate_left
      · (go_simp; first | done | with_reducible rfl)
      try simp only [Act.put, List.setIfInBounds_toArray, List.set_cons_zero, List.set_cons_succ]
      refine btakeS 7 (oi := _) (v := ?_) (by simp only [List.getElem?_toArray, List.getElem?_cons_succ, List.getElem?_cons_zero]; rfl) (by kernel_rfl) (by exact fun _ _ _ h => h) (by first | assumption | exact KB.refl _) (.inl ⟨by rfl, fun W hW => ?_⟩) ?_; rotate_left
      · (go_simp; first | done | with_reducible rfl)
      try simp only [Act.put, List.setIfInBounds_toArray, List.set_cons_zero, List.set_cons_succ]
      -- 8: Op.mapUpdate 64 (Operand.tmp 48) (Operand.tmp 49) (Operand.tmp 52)
      refine bopS 8 (o := _) (by simp only [List.getElem?_toArray, List.getElem?_cons_succ, List.getElem?_cons_zero]; rfl) (by kernel_rfl) (by rfl) (fun K hK => ?_)
      refine wp_mput (by rfl) (HA.out.2.2.2.drew) HN.out.2.2.2 (by rfl) (c := x) (by rfl) trivial (d := ⟨⟨sp, sl, sr⟩, on'⟩) (by rfl) ?_
      intro w6 hm6 ht6
      have hne : ∀ g, At w4 g [.map (some b)] → g ≠ b := fun g hg e => by
        subst e
        obtain ⟨_, es, ⟨es', clock, hb, _⟩, _⟩ := HA.out.2.2.2
        have := hg.c 0 rfl
        simp only [World.cell?, hb] at this
        cases this
      have hgr := ht6.grown
      have hblt := HA.out.2.2.2.lt
      have hb0 : w.heap.size ≠ b ∧ w.heap.size + 1 ≠ b := by have := HB.out; omega
      have hkb : PutS w.heap.size m b x sp sl sr w6 := ⟨HA.out.1.drew.grown hgr (fun e => hb0.1 (Option.some.inj e).symm), HA.out.2.1.drew.grown hgr (fun e => hb0.2 (Option.some.inj e).symm), HA.out.2.2.1.drew.grown hgr (fun e => hne m HA.out.2.2.1 (Option.some.inj e).symm)⟩
      refine hK.out _ _ hkb ?_; clear hK K
      try simp only [Act.put]
      refine bdoneS (by kernel_rfl) ?_
      go_wp2
      exact bodyPost_ret (v := .tuple #[.bool true, .int .i64 0]) (by simp [results, Try.results11, go_sem]) rfl (put_done HRT.out HTO.out HF4.out.1.drew HA.out.2.2.2.drew HN.out hbw4.drew hm6 ht6)
    | true =>
      have z0 := HA.out.2.1.c 0 rfl
      have z1 := HA.out.2.1.c 1 rfl
      have z2 := HA.out.2.1.c 2 rfl
      have z3 := HQ.out.c 0 rfl
      have z4 := HQ.out.c 1 rfl
      have z5 := HQ.out.c 2 rfl
      go_wp2_with fail
      refine (HLe.out w4).mono ?_
      rintro e w5 ⟨rfl, hb5⟩
      clear z0 z1 z2 z3 z4 z5
      replace HA := Lib.hid (And.intro (HA.out.1.below hb5) (And.intro (HA.out.2.1.below hb5) (And.intro (HA.out.2.2.1.below hb5) (HA.out.2.2.2.below hb5))))
      replace HQ := Lib.hid (HQ.out.below hb5)
      replace HF4 := Lib.hid (HF4.out.below hb5)
      replace hbw4 := hbw4.trans (hb5.mono hbw4.size)
      clear hb5
      have HTS := Lib.hid (told_some (k := ⟨⟨sp, sl, sr⟩, on'⟩) HM.out.1 HM.out.2)
      cases lt with
      | true =>
        have HTO := Lib.hid (show told (look R x) ⟨⟨sp, sl, sr⟩, on'⟩ = false by rw [HTS.out, keepM_lt HC.out.1.symm]; rfl)
        go_wp2
        exact bodyPost_ret (v := .tuple #[.bool false, .int .i64 0]) (by simp [results, Try.results11, go_sem]) rfl (put_stay HRT.out HTO.out HN.out HF4.out hbw4)
      | false =>
        have z0 := HA.out.2.1.c 0 rfl
        have z1 := HA.out.2.1.c 1 rfl
        have z2 := HA.out.2.1.c 2 rfl
        have z3 := HQ.out.c 0 rfl
        have z4 := HQ.out.c 1 rfl
        have z5 := HQ.out.c 2 rfl
        have z6 := HQ.out.c 3 rfl
        have hEq := HEQ.out
        cases eq with
        | false =>
          have HTO := Lib.hid (show told (look R x) ⟨⟨sp, sl, sr⟩, on'⟩ = true by rw [HTS.out, keepM_ne HC.out.1.symm HC.out.2.symm]; rfl)
          go_wp2_with fail
          clear z0 z1 z2 z3 z4 z5 z6 hEq
          have hS0 : PutS w.heap.size m b x sp sl sr w5.drew := ⟨HA.out.1, HA.out.2.1, HA.out.2.2.1⟩
          have e0 : ∀ W, PutS w.heap.size m b x sp sl sr W → W.cell? ⟨w.heap.size + 1, 0, none⟩ = some (.int .i64 sp) := fun W h => h.2.1.c 0 rfl
          have e1 : ∀ W, PutS w.heap.size m b x sp sl sr W → W.cell? ⟨w.heap.size + 1, 1, none⟩ = some (.int .i64 sl) := fun W h => h.2.1.c 1 rfl
          have e2 : ∀ W, PutS w.heap.size m b x sp sl sr W → W.cell? ⟨w.heap.size + 1, 2, none⟩ = some (.int .i64 sr) := fun W h => h.2.1.c 2 rfl
          have e4 : ∀ W, PutS w.heap.size m b x sp sl sr W → W.cell? ⟨m, 0, none⟩ = some (.map (some b)) := fun W h => h.2.2.c 0 rfl
          refine bstartS (PutS w.heap.size m b x sp sl sr) (by kernel_rfl) ?_
          refine btakeS 0 (oi := _) (v := ?_) (by simp only [List.getElem?_toArray, List.getElem?_cons_zero]; rfl) (by kernel_rfl) (by exact fun _ _ _ h => h) (by first | assumption | exact KB.refl _) (.inl ⟨by rfl, fun W hW => ?_⟩) ?_; rotate_left
          · (go_simp; first | done | with_reducible rfl)
          try simp only [Act.put, List.setIfInBounds_toArray, List.set_cons_zero, List.set_cons_succ]
          refine btakeS 1 (oi := _) (v := ?_) (by simp only [List.getElem?_toArray, List.getElem?_cons_succ, List.getElem?_cons_zero]; rfl) (by kernel_rfl) (by exact fun _ _ _ h => h) (by first | assumption | exact KB.refl _) (.inl ⟨by rfl, fun W hW => ?_⟩) ?_; rotate_left
          · (go_simp; first | done | with_reducible rfl)
          try simp only [Act.put, List.setIfInBounds_toArray, List.set_cons_zero, List.set_cons_succ]
          refine btakeS 2 (oi := _) (v := ?_) (by simp only [List.getElem?_toArray, List.getElem?_cons_succ, List.getElem?_cons_zero]; rfl) (by kernel_rfl) (by exact fun _ _ _ h => h) (by first | assumption | exact KB.refl _) (.inl ⟨by rfl, fun W hW => ?_⟩) ?_; rotate_left
          · (go_simp; first | done | with_reducible rfl)
          try simp only [Act.put, List.setIfInBounds_toArray, List.set_cons_zero, List.set_cons_succ]
          refine btakeS 3 (oi := _) (v := ?_) (by simp only [List.getElem?_toArray, List.getElem?_cons_succ, List.getElem?_cons_zero]; rfl) (by kernel_rfl) (by exact fun _ _ _ h => h) (by first | assumption | exact KB.refl _) (.inl ⟨by rfl, fun W hW => ?_⟩) ?_; rotate_left
          · (go_simp; first | done | with_reducible rfl)
          try simp only [Act.put, List.setIfInBounds_toArray, List.set_cons_zero, List.set_cons_succ]
          refine btakeS 4 (oi := _) (v := ?_) (by simp only [List.getElem?_toArray, List.getElem?_cons_succ, List.getElem?_cons_zero]; rfl) (by kernel_rfl) (by exact fun _ _ _ h => h) (by first | assumption | exact KB.refl _) (.inl ⟨by rfl, fun W hW => ?_⟩) ?_; rotate_left
          · refine Eq.trans (ex_ld32 (us := bv x.l) (by rfl) (by rfl) hW.1 (by rw [bv_len]; exact HL.out)) ?_
            with_reducible rfl
          try simp only [Act.put, List.setIfInBounds_toArray, List.set_cons_zero, List.set_cons_succ]
          refine btakeS 5 (oi := _) (v := ?_) (by simp only [List.getElem?_toArray, List.getElem?_cons_succ, List.getElem?_cons_zero]; rfl) (by kernel_rfl) (by exact fun _ _ _ h => h) (by first | assumption | exact KB.refl _) (.inl ⟨by rfl, fun W hW => ?_⟩) ?_; rotate_left
          · (go_simp; first | done | with_reducible rfl)
          try simp only [Act.put, List.setIfInBounds_toArray, List.set_cons_zero, List.set_cons_succ]
          refine btakeS 6 (oi := _) (v := ?_) (by simp only [List.getElem?_toArray, List.getElem?_cons_succ, List.getElem?_cons_zero]; rfl) (by kernel_rfl) (by exact fun _ _ _ h => h) (by first | assumption | exact KB.refl _) (.inl ⟨by rfl, fun W hW => ?_⟩) ?_; rotate_left
          · (go_simp; first | done | with_reducible rfl)
          try simp only [Act.put, List.setIfInBounds_toArray, List.set_cons_zero, List.set_cons_succ]
          refine btakeS 7 (oi := _) (v := ?_) (by simp only [List.getElem?_toArray, List.getElem?_cons_succ, List.getElem?_cons_zero]; rfl) (by kernel_rfl) (by exact fun _ _ _ h => h) (by first | assumption | exact KB.refl _) (.inl ⟨by rfl, fun W hW => ?_⟩) ?_; rotate_left
          · (go_simp; first | done | with_reducible rfl)
          try simp only [Act.put, List.setIfInBounds_toArray, List.set_cons_zero, List.set_cons_succ]
          -- 8: Op.mapUpdate 64 (Operand.tmp 48) (Operand.tmp 49) (Operand.tmp 52)
          refine bopS 8 (o := _) (by simp only [List.getElem?_toArray, List.getElem?_cons_succ, List.getElem?_cons_zero]; rfl) (by kernel_rfl) (by rfl) (fun K hK => ?_)
          refine wp_mput (by rfl) (HA.out.2.2.2.drew) HN.out.2.2.2 (by rfl) (c := x) (by rfl) trivial (d := ⟨⟨sp, sl, sr⟩, on'⟩) (by rfl) ?_
          intro w6 hm6 ht6
          have hne : ∀ g, At w5 g [.map (some b)] → g ≠ b := fun g hg e => by
            subst e
            obtain ⟨_, es, ⟨es', clock, hb, _⟩, _⟩ := HA.out.2.2.2
            have := hg.c 0 rfl
            simp only [World.cell?, hb] at this
            cases this
          have hgr := ht6.grown
          have hblt := HA.out.2.2.2.lt
          have hb0 : w.heap.size ≠ b ∧ w.heap.size + 1 ≠ b := by have := HB.out; omega
          have hkb : PutS w.heap.size m b x sp sl sr w6 := ⟨HA.out.1.drew.grown hgr (fun e => hb0.1 (Option.some.inj e).symm), HA.out.2.1.drew.grown hgr (fun e => hb0.2 (Option.some.inj e).symm), HA.out.2.2.1.drew.grown hgr (fun e => hne m HA.out.2.2.1 (Option.some.inj e).symm)⟩
          refine hK.out _ _ hkb ?_; clear hK K
          try simp only [Act.put]
          refine bdoneS (by kernel_rfl) ?_
          go_wp2
          exact bodyPost_ret (v := .tuple #[.bool true, .int .i64 0]) (by simp [results, Try.results11, go_sem]) rfl (put_done HRT.out HTO.out HF4.out.1.drew HA.out.2.2.2.drew HN.out hbw4.drew hm6 ht6)
        | true =>
          cases on with
          | true =>
            have HTO := Lib.hid (show told (look R x) ⟨⟨sp, sl, sr⟩, on'⟩ = false by rw [HTS.out, keepM_eq HC.out.1.symm HC.out.2.symm]; rfl)
            go_wp2
            exact bodyPost_ret (v := .tuple #[.bool false, .int .i64 0]) (by simp [results, Try.results11, go_sem]) rfl (put_stay HRT.out HTO.out HN.out HF4.out hbw4)
          | false =>
            cases on' with
            | true =>
              have HTO := Lib.hid (show told (look R x) ⟨⟨sp, sl, sr⟩, true⟩ = true by rw [HTS.out, keepM_eq HC.out.1.symm HC.out.2.symm]; rfl)
              go_wp2_with fail
              clear z0 z1 z2 z3 z4 z5 z6 hEq
              have hS0 : PutS w.heap.size m b x sp sl sr w5.drew := ⟨HA.out.1, HA.out.2.1, HA.out.2.2.1⟩
              have e0 : ∀ W, PutS w.heap.size m b x sp sl sr W → W.cell? ⟨w.heap.size + 1, 0, none⟩ = some (.int .i64 sp) := fun W h => h.2.1.c 0 rfl
              have e1 : ∀ W, PutS w.heap.size m b x sp sl sr W → W.cell? ⟨w.heap.size + 1, 1, none⟩ = some (.int .i64 sl) := fun W h => h.2.1.c 1 rfl
              have e2 : ∀ W, PutS w.heap.size m b x sp sl sr W → W.cell? ⟨w.heap.size + 1, 2, none⟩ = some (.int .i64 sr) := fun W h => h.2.1.c 2 rfl
              have e4 : ∀ W, PutS w.heap.size m b x sp sl sr W → W.cell? ⟨m, 0, none⟩ = some (.map (some b)) := fun W h => h.2.2.c 0 rfl
              refine bstartS (PutS w.heap.size m b x sp sl sr) (by kernel_rfl) ?_
              refine btakeS 0 (oi := _) (v := ?_) (by simp only [List.getElem?_toArray, List.getElem?_cons_zero]; rfl) (by kernel_rfl) (by exact fun _ _ _ h => h) (by first | assumption | exact KB.refl _) (.inl ⟨by rfl, fun W hW => ?_⟩) ?_; rotate_left
              · (go_simp; first | done | with_reducible rfl)
              try simp only [Act.put, List.setIfInBounds_toArray, List.set_cons_zero, List.set_cons_succ]
              refine btakeS 1 (oi := _) (v := ?_) (by simp only [List.getElem?_toArray, List.getElem?_cons_succ, List.getElem?_cons_zero]; rfl) (by kernel_rfl) (by exact fun _ _ _ h => h) (by first | assumption | exact KB.refl _) (.inl ⟨by rfl, fun W hW => ?_⟩) ?_; rotate_left
              · (go_simp; first | done | with_reducible rfl)
              try simp only [Act.put, List.setIfInBounds_toArray, List.set_cons_zero, List.set_cons_succ]
              refine btakeS 2 (oi := _) (v := ?_) (by simp only [List.getElem?_toArray, List.getElem?_cons_succ, List.getElem?_cons_zero]; rfl) (by kernel_rfl) (by exact fun _ _ _ h => h) (by first | assumption | exact KB.refl _) (.inl ⟨by rfl, fun W hW => ?_⟩) ?_; rotate_left
              · (go_simp; first | done | with_reducible rfl)
              try simp only [Act.put, List.setIfInBounds_toArray, List.set_cons_zero, List.set_cons_succ]
              refine btakeS 3 (oi := _) (v := ?_) (by simp only [List.getElem?_toArray, List.getElem?_cons_succ, List.getElem?_cons_zero]; rfl) (by kernel_rfl) (by exact fun _ _ _ h => h) (by first | assumption | exact KB.refl _) (.inl ⟨by rfl, fun W hW => ?_⟩) ?_; rotate_left
              · (go_simp; first | done | with_reducible rfl)
              try simp only [Act.put, List.setIfInBounds_toArray, List.set_cons_zero, List.set_cons_succ]
              refine btakeS 4 (oi := _) (v := ?_) (by simp only [List.getElem?_toArray, List.getElem?_cons_succ, List.getElem?_cons_zero]; rfl) (by kernel_rfl) (by exact fun _ _ _ h => h) (by first | assumption | exact KB.refl _) (.inl ⟨by rfl, fun W hW => ?_⟩) ?_; rotate_left
              · refine Eq.trans (ex_ld32 (us := bv x.l) (by rfl) (by rfl) hW.1 (by rw [bv_len]; exact HL.out)) ?_
                with_reducible rfl
              try simp only [Act.put, List.setIfInBounds_toArray, List.set_cons_zero, List.set_cons_succ]
              refine btakeS 5 (oi := _) (v := ?_) (by simp only [List.getElem?_toArray, List.getElem?_cons_succ, List.getElem?_cons_zero]; rfl) (by kernel_rfl) (by exact fun _ _ _ h => h) (by first | assumption | exact KB.refl _) (.inl ⟨by rfl, fun W hW => ?_⟩) ?_; rotate_left
              · (go_simp; first | done | with_reducible rfl)
              try simp only [Act.put, List.setIfInBounds_toArray, List.set_cons_zero, List.set_cons_succ]
              refine btakeS 6 (oi := _) (v := ?_) (by simp only [List.getElem?_toArray, List.getElem?_cons_succ, List.getElem?_cons_zero]; rfl) (by kernel_rfl) (by exact fun _ _ _ h => h) (by first | assumption | exact KB.refl _) (.inl ⟨by rfl, fun W hW => ?_⟩) ?_; rotate_left
              · (go_simp; first | done | with_reducible rfl)
              try simp only [Act.put, List.setIfInBounds_toArray, List.set_cons_zero, List.set_cons_succ]
              refine btakeS 7 (oi := _) (v := ?_) (by simp only [List.getElem?_toArray, List.getElem?_cons_succ, List.getElem?_cons_zero]; rfl) (by kernel_rfl) (by exact fun _ _ _ h => h) (by first | assumption | exact KB.refl _) (.inl ⟨by rfl, fun W hW => ?_⟩) ?_; rotate_left
              · (go_simp; first | done | with_reducible rfl)
              try simp only [Act.put, List.setIfInBounds_toArray, List.set_cons_zero, List.set_cons_succ]
              -- 8: Op.mapUpdate 64 (Operand.tmp 48) (Operand.tmp 49) (Operand.tmp 52)
              refine bopS 8 (o := _) (by simp only [List.getElem?_toArray, List.getElem?_cons_succ, List.getElem?_cons_zero]; rfl) (by kernel_rfl) (by rfl) (fun K hK => ?_)
              refine wp_mput (by rfl) (HA.out.2.2.2.drew) HN.out.2.2.2 (by rfl) (c := x) (by rfl) trivial (d := ⟨⟨sp, sl, sr⟩, true⟩) (by rfl) ?_
              intro w6 hm6 ht6
              have hne : ∀ g, At w5 g [.map (some b)] → g ≠ b := fun g hg e => by
                subst e
                obtain ⟨_, es, ⟨es', clock, hb, _⟩, _⟩ := HA.out.2.2.2
                have := hg.c 0 rfl
                simp only [World.cell?, hb] at this
                cases this
              have hgr := ht6.grown
              have hblt := HA.out.2.2.2.lt
              have hb0 : w.heap.size ≠ b ∧ w.heap.size + 1 ≠ b := by have := HB.out; omega
              have hkb : PutS w.heap.size m b x sp sl sr w6 := ⟨HA.out.1.drew.grown hgr (fun e => hb0.1 (Option.some.inj e).symm), HA.out.2.1.drew.grown hgr (fun e => hb0.2 (Option.some.inj e).symm), HA.out.2.2.1.drew.grown hgr (fun e => hne m HA.out.2.2.1 (Option.some.inj e).symm)⟩
              refine hK.out _ _ hkb ?_; clear hK K
              try simp only [Act.put]
              refine bdoneS (by kernel_rfl) ?_
              go_wp2
              exact bodyPost_ret (v := .tuple #[.bool true, .int .i64 0]) (by simp [results, Try.results11, go_sem]) rfl (put_done HRT.out HTO.out HF4.out.1.drew HA.out.2.2.2.drew HN.out hbw4.drew hm6 ht6)
            | false =>
              have HTO := Lib.hid (show told (look R x) ⟨⟨sp, sl, sr⟩, false⟩ = false by rw [HTS.out, keepM_eq HC.out.1.symm HC.out.2.symm]; rfl)
              go_wp2
              exact bodyPost_ret (v := .tuple #[.bool false, .int .i64 0]) (by simp [results, Try.results11, go_sem]) rfl (put_stay HRT.out HTO.out HN.out HF4.out hbw4)
end Go.Proofs.Ytjijhmeagjhfoaa

