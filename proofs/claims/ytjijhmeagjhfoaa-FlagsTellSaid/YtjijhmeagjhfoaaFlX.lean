/- Flags: known. -/
import Derived.Test.YtjijhmeagjhfoaaFlF
import Derived.Test.YtjijhmeagjhfoaaFlC
namespace Go.Proofs.Ytjijhmeagjhfoaa
open Go.RowKit
set_option maxRecDepth 20000

theorem Put_at (w : World) (m b : Nat) (R : List FE) (h : FSt w m b R) (x : ID) (s : S3) (on' : Bool) (hn : R.length < 1000000) {t : Bool} {n : Int} {R' : List FE} (h1 : (s.right && told (look R x) ⟨s, on'⟩) = t) (h2 : (if s.right then (0 : Int) else 21) = n) (h3 : putIf R x ⟨s, on'⟩ = R') :
    Calls Try.prog 11 #[.pointer (some ⟨m, 0, none⟩), x.v, s.v, .bool on'] w fun e w' => e = .returned (.tuple #[.bool t, .int .i64 n]) ∧ FSt w' m b R' ∧ w.grownBy w' (some b) := by
  subst h1 h2 h3
  exact Put_any w m b R h x s on' hn
def kX : ID := ⟨1 :: List.replicate 31 0, rfl⟩
def kM1 : FM := ⟨⟨5, 0, 1⟩, true⟩
def kM2 : FM := ⟨⟨5, 0, 2⟩, false⟩
theorem kX_built : Try.prog.built 25 [(0, .int .u8 1)] = some (bv kX.l).toArray := by kernel_rfl
theorem kp1 : putIf [] kX kM1 = [(kX, kM1)] := by simp [putIf, kM1, S3.right, putR]
theorem kt1 : (kM1.s.right && told (look [] kX) kM1) = true := by simp [kM1, S3.right, look, told]
theorem klook (m : FM) : look [(kX, m)] kX = some m := by simp [look]
theorem kp2 : putIf [(kX, kM1)] kX kM2 = [(kX, kM2)] := by simp [putIf, kM1, kM2, S3.right, putR, ID.irrefl, mxO, keepM, S3.lt]
theorem kt2 : (kM2.s.right && told (look [(kX, kM1)] kX) kM2) = true := by rw [klook]; simp [kM1, kM2, S3.right, told, keepM, S3.lt]
theorem kp3 : putIf [(kX, kM2)] kX kM1 = [(kX, kM2)] := by simp [putIf, kM1, kM2, S3.right, putR, ID.irrefl, mxO, keepM, S3.lt]
theorem kt3 : (kM1.s.right && told (look [(kX, kM2)] kX) kM1) = false := by rw [klook]; simp [kM1, kM2, S3.right, told, keepM, S3.lt]
def kM4 : FM := ⟨⟨-1, 0, 0⟩, true⟩
theorem kp4 : putIf [(kX, kM2)] kX kM4 = [(kX, kM2)] := by simp [putIf, kM4, S3.right]
theorem kt4 : (kM4.s.right && told (look [(kX, kM2)] kX) kM4) = false := by simp [kM4, S3.right]
theorem kn4 : (if kM4.s.right then (0 : Int) else 21) = 21 := by simp [kM4, S3.right]
theorem kn0 : (if kM1.s.right then (0 : Int) else 21) = 0 ∧ (if kM2.s.right then (0 : Int) else 21) = 0 := by simp [kM1, kM2, S3.right]
structure KS (w0 : World) (m1 b1 m2 b2 gx gs gt : Nat) (R1 R2 : List FE) (W : World) : Prop where
  f1 : FSt W m1 b1 R1
  f2 : FSt W m2 b2 R2
  ax : At W gx (bv kX.l)
  a1 : At W gs [.int .i64 5, .int .i64 0, .int .i64 1]
  a2 : At W gt [.int .i64 5, .int .i64 0, .int .i64 2]
  bw : Below w0.heap.size w0 W
  h1 : w0.heap.size ≤ b1
  h2 : w0.heap.size ≤ b2
  ne : b1 ≠ b2
section
variable {w0 W W' : World} {m1 b1 m2 b2 gx gs gt : Nat} {R1 R2 R' : List FE}
theorem At.ne_fs {w : World} {g m b : Nat} {v : Value} {vs : List Value} {R : List FE} (h : At w g (v :: vs)) (h' : FSt w m b R) : g ≠ b := by
  rintro rfl
  obtain ⟨_, ⟨L, ⟨_, es, ⟨es', clock, hb, _⟩, _⟩, _⟩, _⟩ := h'
  have := h.c 0 rfl
  simp only [World.cell?, hb] at this
  cases this
theorem kX_cons : ∃ v vs, bv kX.l = v :: vs := ⟨_, _, rfl⟩
theorem KS.put (h : KS w0 m1 b1 m2 b2 gx gs gt R1 R2 W) (hf : FSt W' m1 b1 R') (hg : W.grownBy W' (some b1)) : KS w0 m1 b1 m2 b2 gx gs gt R' R2 W' := by
  obtain ⟨v, vs, e⟩ := kX_cons
  have n1 : gx ≠ b1 := At.ne_fs (v := v) (vs := vs) (by rw [← e]; exact h.ax) h.f1
  exact ⟨hf, h.f2.kept hg h.ne.symm (h.f2.ne h.f1), h.ax.grown hg (fun e => n1 (Option.some.inj e).symm), h.a1.grown hg (fun e => h.a1.ne_fs h.f1 (Option.some.inj e).symm), h.a2.grown hg (fun e => h.a2.ne_fs h.f1 (Option.some.inj e).symm),
    below_grown h.bw hg h.h1 h.bw.size, h.h1, h.h2, h.ne⟩
theorem KS.put2 (h : KS w0 m1 b1 m2 b2 gx gs gt R1 R2 W) (hf : FSt W' m2 b2 R') (hg : W.grownBy W' (some b2)) : KS w0 m1 b1 m2 b2 gx gs gt R1 R' W' := by
  obtain ⟨v, vs, e⟩ := kX_cons
  have n1 : gx ≠ b2 := At.ne_fs (v := v) (vs := vs) (by rw [← e]; exact h.ax) h.f2
  exact ⟨h.f1.kept hg h.ne (h.f1.ne h.f2), hf, h.ax.grown hg (fun e => n1 (Option.some.inj e).symm), h.a1.grown hg (fun e => h.a1.ne_fs h.f2 (Option.some.inj e).symm), h.a2.grown hg (fun e => h.a2.ne_fs h.f2 (Option.some.inj e).symm),
    below_grown h.bw hg h.h2 h.bw.size, h.h1, h.h2, h.ne⟩
theorem KS.below (h : KS w0 m1 b1 m2 b2 gx gs gt R1 R2 W) (hb : Below W.heap.size W W') : KS w0 m1 b1 m2 b2 gx gs gt R1 R2 W' :=
  ⟨h.f1.below hb, h.f2.below hb, h.ax.below hb, h.a1.below hb, h.a2.below hb, h.bw.trans (hb.mono h.bw.size), h.h1, h.h2, h.ne⟩
end
def BothS (w0 : World) (m1 b1 m2 b2 : Nat) (W : World) : Prop := FSt W m1 b1 [] ∧ FSt W m2 b2 [] ∧ Below w0.heap.size w0 W ∧ w0.heap.size ≤ b1 ∧ w0.heap.size ≤ b2 ∧ b1 ≠ b2
def z3 : Array Value := #[.int .i64 0, .int .i64 0, .int .i64 0]
theorem kx_s5 {w2 w3 w5 : World} (hq3 : w3.heap.size = w2.heap.size + 1 ∧ At w3 w2.heap.size (bv z32) ∧ Below w2.heap.size w2 w3) (h : w5 = putL ((w3.alloc (.cells #[.int .i64 0, .int .i64 0, .int .i64 0] 30)).alloc (.cells #[.int .i64 0, .int .i64 0, .int .i64 0] 30)) w2.heap.size 0 (bv kX.l)) :
    At w5 w2.heap.size (bv kX.l) ∧ At w5 w3.heap.size [.int .i64 0, .int .i64 0, .int .i64 0] ∧ At w5 (w3.heap.size + 1) [.int .i64 0, .int .i64 0, .int .i64 0] ∧ Below w2.heap.size w2 w5 := by
  subst h
  obtain ⟨h1, h2, h3⟩ := hq3
  have k1 := (At.new w3 30 #[.int .i64 0, .int .i64 0, .int .i64 0]).alloc (.cells #[.int .i64 0, .int .i64 0, .int .i64 0] 30)
  have k2 := At.new (w3.alloc (.cells #[.int .i64 0, .int .i64 0, .int .i64 0] 30)) 30 #[.int .i64 0, .int .i64 0, .int .i64 0]
  rw [World.size_alloc] at k2
  have k0 := (h2.alloc (.cells #[.int .i64 0, .int .i64 0, .int .i64 0] 30)).alloc (.cells #[.int .i64 0, .int .i64 0, .int .i64 0] 30)
  exact ⟨k0.putL _ (by rw [bv_len, kX.h]; rfl), k1.putL_other _ 0 _ (by omega), k2.putL_other _ 0 _ (by omega), below_putL _ 0 ((h3.alloc h3.size _).alloc (by simp; omega) _) (Nat.le_refl _)⟩
theorem kx_s6 {w w2 w3 w5 : World} {m1 m2 b2 : Nat} {b1 : Nat} (hb : BothS w m1 b1 m2 b2 w2) (hs : w3.heap.size = w2.heap.size + 1) (h5 : At w5 w2.heap.size (bv kX.l) ∧ At w5 w3.heap.size [.int .i64 0, .int .i64 0, .int .i64 0] ∧ At w5 (w3.heap.size + 1) [.int .i64 0, .int .i64 0, .int .i64 0] ∧ Below w2.heap.size w2 w5) :
    KS w m1 b1 m2 b2 w2.heap.size w3.heap.size (w3.heap.size + 1) [] [] (putL (putL w5 w3.heap.size 0 [.int .i64 5, .int .i64 0, .int .i64 1]) (w3.heap.size + 1) 0 [.int .i64 5, .int .i64 0, .int .i64 2]) := by
  obtain ⟨k0, k1, k2, k3⟩ := h5
  obtain ⟨f1, f2, bw, e1, e2, ne⟩ := hb
  have k4 := below_putL [.int .i64 5, .int .i64 0, .int .i64 1] 0 k3 (g := w3.heap.size) (by omega)
  have k5 := below_putL [.int .i64 5, .int .i64 0, .int .i64 2] 0 k4 (g := w3.heap.size + 1) (by omega)
  have a0 := (k0.putL_other [.int .i64 5, .int .i64 0, .int .i64 1] 0 w5 (g' := w3.heap.size) (by omega))
  have a0' := a0.putL_other [.int .i64 5, .int .i64 0, .int .i64 2] 0 _ (g' := w3.heap.size + 1) (by omega)
  have a1 := k1.putL [.int .i64 5, .int .i64 0, .int .i64 1] rfl
  have a1' := a1.putL_other [.int .i64 5, .int .i64 0, .int .i64 2] 0 _ (g' := w3.heap.size + 1) (by omega)
  have a2 := k2.putL_other [.int .i64 5, .int .i64 0, .int .i64 1] 0 w5 (g' := w3.heap.size) (by omega)
  have a2' := a2.putL [.int .i64 5, .int .i64 0, .int .i64 2] rfl
  clear a0 a1 a2 k4
  generalize putL (putL w5 w3.heap.size 0 [.int .i64 5, .int .i64 0, .int .i64 1]) (w3.heap.size + 1) 0 [.int .i64 5, .int .i64 0, .int .i64 2] = w6 at *
  exact { f1 := f1.below k5, f2 := f2.below k5, ax := a0', a1 := a1', a2 := a2', bw := bw.trans (k5.mono bw.size), h1 := e1, h2 := e2, ne := ne }
theorem stSize (w : World) : (sizeOf 30).run Try.prog w = .ok 3 w := by first | exact Try.sizeOf30 w | go_simp
theorem kx_a2 {w2 w3 w5 w6 : World} {vs us : List Value} (h5 : At w5 w2.heap.size (bv kX.l) ∧ At w5 w3.heap.size vs ∧ At w5 (w3.heap.size + 1) us ∧ Below w2.heap.size w2 w5) (h : w6 = putL w5 w3.heap.size 0 [.int .i64 5, .int .i64 0, .int .i64 1]) : At w6 (w3.heap.size + 1) us := by
  subst h
  exact h5.2.2.1.putL_other _ 0 _ (by omega)
theorem kx_k7 {w w2 w3 w5 w6 w7 : World} {m1 m2 b2 : Nat} {b1 : Nat} (hb : BothS w m1 b1 m2 b2 w2) (hs : w3.heap.size = w2.heap.size + 1) (h5 : At w5 w2.heap.size (bv kX.l) ∧ At w5 w3.heap.size [.int .i64 0, .int .i64 0, .int .i64 0] ∧ At w5 (w3.heap.size + 1) [.int .i64 0, .int .i64 0, .int .i64 0] ∧ Below w2.heap.size w2 w5)
    (h6 : w6 = putL w5 w3.heap.size 0 [.int .i64 5, .int .i64 0, .int .i64 1]) (h7 : w7 = putL w6 (w3.heap.size + 1) 0 [.int .i64 5, .int .i64 0, .int .i64 2]) : KS w m1 b1 m2 b2 w2.heap.size w3.heap.size (w3.heap.size + 1) [] [] w7 := by
  subst h6 h7
  exact kx_s6 hb hs h5
theorem kget {w : World} {m b : Nat} (h : FSt w m b [(kX, kM2)]) : Calls Try.prog 12 #[.pointer (some ⟨m, 0, none⟩), kX.v] w fun e w' => e = .returned (.tuple #[.bool false, .agg #[.int .i64 5, .int .i64 0, .int .i64 2], .bool true]) ∧ Below w.heap.size w w' := by
  have := Get_any w m b _ h kX
  rw [klook] at this
  exact this
theorem klen {w : World} {m b : Nat} (h : FSt w m b [(kX, kM2)]) : Calls Try.prog 22 #[.pointer (some ⟨m, 0, none⟩)] w fun e w' => e = .returned (.int .i64 1) ∧ w = w' := Len_any w m b _ h
theorem kids {w : World} {m b : Nat} (h : FSt w m b [(kX, kM2)]) : Calls Try.prog 23 #[.pointer (some ⟨m, 0, none⟩)] w fun e w' => ∃ A c, e = .returned (.slice A 1 c) ∧ Below w.heap.size w w' :=
  (Ids_any w m b _ h (by simp)).mono fun e w' ⟨A, c, h1, _, _, _, h2⟩ => ⟨A, c, h1, h2⟩
theorem ksame {w : World} {m b m2 b2 : Nat} (h : FSt w m b [(kX, kM2)]) (h2 : FSt w m2 b2 []) : Calls Try.prog 13 #[.pointer (some ⟨m, 0, none⟩), .pointer (some ⟨m2, 0, none⟩)] w fun e w' => e = .returned (.bool false) ∧ Below w.heap.size w w' := by
  have := Same_any w m b m2 b2 _ _ h h2
  rw [decide_eq_false (fun h => by cases h)] at this
  exact this
theorem ksame2 {w : World} {m b m2 b2 : Nat} (h : FSt w m b [(kX, kM2)]) (h2 : FSt w m2 b2 [(kX, kM2)]) : Calls Try.prog 13 #[.pointer (some ⟨m, 0, none⟩), .pointer (some ⟨m2, 0, none⟩)] w fun e w' => e = .returned (.bool true) ∧ Below w.heap.size w w' := by
  have := Same_any w m b m2 b2 _ _ h h2
  rw [decide_eq_true rfl] at this
  exact this
theorem kjoin {w : World} {m b m2 b2 : Nat} (h : FSt w m b []) (h2 : FSt w m2 b2 [(kX, kM2)]) (hne : b ≠ b2) : Calls Try.prog 14 #[.pointer (some ⟨m, 0, none⟩), .pointer (some ⟨m2, 0, none⟩)] w (JoinPost w m b [(kX, kM2)]) :=
  Join_any w m b m2 b2 _ _ h h2 hne (by simp)
set_option maxRecDepth 100000 in
set_option maxHeartbeats 3200000 in
theorem known_any (w : World) : Calls Try.prog 7 #[] w fun e w' => e = .returned (.bool true) ∧ Below w.heap.size w w' := by
  go_enter Try.func7, Try.ntmps7
  go_wp2_with fail
  refine (New_any w).mono ?_
  rintro e w1 ⟨rfl, hf1, hb1⟩
  have H1 := Lib.hid (And.intro hf1 hb1)
  clear hf1 hb1
  go_wp2_with fail
  refine (New_any w1).mono ?_
  rintro e w2 ⟨rfl, hf2, hb2⟩
  have H2 := Lib.hid (show BothS w (w.heap.size + 1) w.heap.size (w1.heap.size + 1) w1.heap.size w2 from ⟨H1.out.1.below hb2, hf2, H1.out.2.trans (hb2.mono H1.out.2.size), Nat.le_refl _, H1.out.2.size, Nat.ne_of_lt H1.out.1.blt⟩)
  clear hf2 hb2 H1
  generalize w.heap.size + 1 = m1 at *
  generalize w1.heap.size + 1 = m2 at *
  have H32 := Lib.hid (show (bv kX.l).length = 32 by rw [bv_len, kX.h])
  go_wp2_with (first
    | (refine opVal rfl (ex_bldT (by rfl) (by simp only [List.map_toArray, List.map_cons, List.map_nil]; rfl) kX_built) ?_; simp only [Act.put, List.setIfInBounds_toArray, List.set_cons_zero, List.set_cons_succ])
    | (refine opValV rfl (ex_al32 rfl) ?_; intro w3 hw3; have hq3 := Lib.hid (eq_s2 hw3); clear hw3; simp only [Act.put, List.setIfInBounds_toArray, List.set_cons_zero, List.set_cons_succ])
    | (refine opSkipV rfl (ex_st32 rfl rfl rfl ((hq3.out.2.1.alloc _).alloc _) (by rfl) H32.out (bv_one _)) ?_; intro w5 hw5; have hq5 := Lib.hid (kx_s5 hq3.out hw5); clear hw5; simp only [Act.put])
    | (refine opSkipV rfl (ex_stT stSize (by rfl) (by rfl) (us := [.int .i64 5, .int .i64 0, .int .i64 1]) (by rfl) hq5.out.2.1 rfl rfl (by simp [Value.oneCell'])) ?_; intro w6 hw6; have hq6 := Lib.hid hw6; clear hw6; simp only [Act.put])
    | (refine opSkipV rfl (ex_stT stSize (by rfl) (by rfl) (us := [.int .i64 5, .int .i64 0, .int .i64 2]) (by rfl) (kx_a2 hq5.out hq6.out) rfl rfl (by simp [Value.oneCell'])) ?_; intro w7 hw7; have K7 := Lib.hid (kx_k7 H2.out hq3.out.1 hq5.out hq6.out hw7); clear hw7; simp only [Act.put])
    | (refine opVal rfl (ex_ld32 rfl rfl K7.out.ax H32.out) ?_
       have s0 := K7.out.a1.c 0 rfl
       have s1 := K7.out.a1.c 1 rfl
       have s2 := K7.out.a1.c 2 rfl
       simp only [Act.put, List.setIfInBounds_toArray, List.set_cons_zero, List.set_cons_succ])
    | fail)
  refine (Put_at w7 m1 w.heap.size [] K7.out.f1 kX ⟨5, 0, 1⟩ true (by simp) kt1 kn0.1 kp1).mono ?_
  rintro e w8 ⟨rfl, hf, hg⟩
  have K8 := Lib.hid (K7.out.put hf hg)
  clear hf hg s0 s1 s2
  go_wp2_with (first
    | (refine opVal rfl (ex_ld32 rfl rfl K8.out.ax H32.out) ?_
       have s0 := K8.out.a2.c 0 rfl
       have s1 := K8.out.a2.c 1 rfl
       have s2 := K8.out.a2.c 2 rfl
       simp only [Act.put, List.setIfInBounds_toArray, List.set_cons_zero, List.set_cons_succ])
    | fail)
  refine (Put_at w8 m1 w.heap.size [(kX, kM1)] K8.out.f1 kX ⟨5, 0, 2⟩ false (by simp) kt2 kn0.2 kp2).mono ?_
  rintro e w9 ⟨rfl, hf, hg⟩
  have K9 := Lib.hid (K8.out.put hf hg)
  clear hf hg s0 s1 s2
  go_wp2_with (first
    | (refine opVal rfl (ex_ld32 rfl rfl K9.out.ax H32.out) ?_
       have s0 := K9.out.a1.c 0 rfl
       have s1 := K9.out.a1.c 1 rfl
       have s2 := K9.out.a1.c 2 rfl
       simp only [Act.put, List.setIfInBounds_toArray, List.set_cons_zero, List.set_cons_succ])
    | fail)
  refine (Put_at w9 m1 w.heap.size [(kX, kM2)] K9.out.f1 kX ⟨5, 0, 1⟩ true (by simp) kt3 kn0.1 kp3).mono ?_
  rintro e w10 ⟨rfl, hf, hg⟩
  have K10 := Lib.hid (K9.out.put hf hg)
  clear hf hg s0 s1 s2
  go_wp2_with (first
    | (refine opVal rfl (ex_ld32 rfl rfl K10.out.ax H32.out) ?_
       have s0 := K10.out.a1.c 0 rfl
       have s1 := K10.out.a1.c 1 rfl
       have s2 := K10.out.a1.c 2 rfl
       simp only [Act.put, List.setIfInBounds_toArray, List.set_cons_zero, List.set_cons_succ])
    | fail)
  refine (Put_at w10 m1 w.heap.size [(kX, kM2)] K10.out.f1 kX ⟨-1, 0, 0⟩ true (by simp) kt4 kn4 kp4).mono ?_
  rintro e w11 ⟨rfl, hf, hg⟩
  have K11 := Lib.hid (K10.out.put hf hg)
  clear hf hg s0 s1 s2
  go_wp2_with (first
    | (refine opVal rfl (ex_ld32 rfl rfl K11.out.ax H32.out) ?_; simp only [Act.put, List.setIfInBounds_toArray, List.set_cons_zero, List.set_cons_succ])
    | fail)
  refine (kget K11.out.f1).mono ?_
  rintro e w12 ⟨rfl, hb⟩
  have K12 := Lib.hid (K11.out.below hb)
  clear hb
  have K13 := Lib.hid (K12.out.below ((Below.refl _ w12).alloc (Nat.le_refl _) (.cells #[.int .i64 5, .int .i64 0, .int .i64 2] 30)))
  have hn := At.new w12 30 #[.int .i64 5, .int .i64 0, .int .i64 2]
  have s0 := K13.out.a2.c 0 rfl
  have s1 := K13.out.a2.c 1 rfl
  have s2 := K13.out.a2.c 2 rfl
  have t0 := hn.c 0 rfl
  have t1 := hn.c 1 rfl
  have t2 := hn.c 2 rfl
  clear hn
  go_wp2_with fail
  refine (klen K13.out.f1).mono ?_
  rintro e w14 ⟨rfl, rfl⟩
  go_wp2_with fail
  refine (kids K13.out.f1).mono ?_
  rintro e w14 ⟨A, c, rfl, hb⟩
  have K14 := Lib.hid (K13.out.below hb)
  clear hb s0 s1 s2 t0 t1 t2
  go_wp2_with fail
  refine (ksame K14.out.f1 K14.out.f2).mono ?_
  rintro e w15 ⟨rfl, hb⟩
  have K15 := Lib.hid (K14.out.below hb)
  clear hb
  go_wp2_with fail
  refine (kjoin K15.out.f2 K15.out.f1 K15.out.ne.symm).mono ?_
  rintro e w16 ⟨rfl, hf, hg⟩
  have K16 := Lib.hid (K15.out.put2 hf hg)
  clear hf hg
  go_wp2_with fail
  refine (ksame2 K16.out.f2 K16.out.f1).mono ?_
  rintro e w17 ⟨rfl, hb⟩
  have K17 := Lib.hid (K16.out.below hb)
  clear hb
  go_wp2_with fail
  refine (klen K17.out.f2).mono ?_
  rintro e w18 ⟨rfl, rfl⟩
  go_wp2_with fail
  go_ret
  exact ⟨rfl, K17.out.bw⟩
end Go.Proofs.Ytjijhmeagjhfoaa

