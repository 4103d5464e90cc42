/- 'FlagsGreatest': the walk of the law. -/
import Derived.Test.YtjijhmeagjhfoaaFlZ
import Derived.Test.YtjijhmeagjhfoaaStampF
import Derived.WalkSmall
namespace Go.Proofs.Ytjijhmeagjhfoaa
open Go.RowKit
set_option maxRecDepth 20000

def bitF (x i : Nat) : Bool := decide (x / 2 ^ i % 2 = 1)
theorem and1_bitF (x i : Nat) (hx : U64 x) : (bits .and .u64 ((x : Int) / 2 ^ i) 1 == 1) = bitF x i := by
  have e : (x : Int) / 2 ^ i = ((x / 2 ^ i : Nat) : Int) := by push_cast; rfl
  have h := Nat.div_le_self x (2 ^ i)
  have h' := hx.out
  rw [e, bitF]
  generalize x / 2 ^ i = y at *
  rw [and_one_u64 _ (by omega) (by omega), Bool.eq_iff_iff, beq_iff_eq, decide_eq_true_eq]
  omega
def mkA (l : List S3) (on : Nat) (i : Nat) : FM := ⟨l[i]?.getD ⟨0, 0, 0⟩, bitF on i⟩
def fwd (l : List S3) (on : Nat) (i : Nat) : Option FM := bestO none ((List.range i).map (mkA l on))
def bwd (l : List S3) (on k n : Nat) (i : Nat) : Option FM := bestO none ((List.range i).map fun j => mkA l on (n - 1 - (j + k) % n))
theorem fwd_succ (l : List S3) (on i : Nat) : fwd l on (i + 1) = if (mkA l on i).s.right then some (mxO (fwd l on i) (mkA l on i)) else fwd l on i := by
  unfold fwd
  rw [List.range_succ, List.map_append, List.map_cons, List.map_nil, bestO_snoc]
theorem bwd_succ (l : List S3) (on k n i : Nat) : bwd l on k n (i + 1) = if (mkA l on (n - 1 - (i + k) % n)).s.right then some (mxO (bwd l on k n i) (mkA l on (n - 1 - (i + k) % n))) else bwd l on k n i := by
  unfold bwd
  rw [List.range_succ, List.map_append, List.map_cons, List.map_nil, bestO_snoc]
theorem fwd_bwd (l : List S3) (on k n : Nat) : fwd l on n = bwd l on k n n := by
  unfold fwd bwd
  rcases Nat.eq_zero_or_pos n with rfl | hn
  · rfl
  · have h := (turn_perm n k hn).map (mkA l on)
    rw [List.map_map] at h
    exact (best_perm h).symm
theorem fwd_right (l : List S3) (on i : Nat) : rightO (fwd l on i) := bestO_right _ _ rightO_none
theorem putIf_one (x : ID) (o : Option FM) (m : FM) : putIf (oneR x o) x m = oneR x (if m.s.right then some (mxO o m) else o) := by
  unfold putIf
  split
  · exact put_one x o m
  · rfl
theorem one_len (x : ID) (o : Option FM) : (oneR x o).length < 1000000 := by cases o <;> simp [oneR]
structure GS (w0 : World) (m1 b1 m2 b2 gx gB : Nat) (x : ID) (O1 O2 : Option FM) (B : S3) (W : World) : Prop where
  f1 : FSt W m1 b1 (oneR x O1)
  f2 : FSt W m2 b2 (oneR x O2)
  ax : At W gx (bv x.l)
  aB : At W gB [.int .i64 B.p, .int .i64 B.l, .int .i64 B.r]
  bw : Below w0.heap.size w0 W
  h1 : w0.heap.size ≤ b1
  h2 : w0.heap.size ≤ b2
  hB : w0.heap.size ≤ gB
  ne : b1 ≠ b2
  nx : gx ≠ gB
section
variable {w0 W W' : World} {m1 b1 m2 b2 gx gB : Nat} {x : ID} {O1 O2 O' : Option FM} {B : S3}
theorem bvx_cons' (x : ID) : ∃ v vs, bv x.l = v :: vs := by
  have h : (bv x.l).length = 32 := by rw [bv_len, x.h]
  cases e : bv x.l with
  | nil => rw [e] at h; cases h
  | cons v vs => exact ⟨v, vs, rfl⟩
theorem GS.below (h : GS w0 m1 b1 m2 b2 gx gB x O1 O2 B W) (hb : Below W.heap.size W W') : GS w0 m1 b1 m2 b2 gx gB x O1 O2 B W' :=
  ⟨h.f1.below hb, h.f2.below hb, h.ax.below hb, h.aB.below hb, h.bw.trans (hb.mono h.bw.size), h.h1, h.h2, h.hB, h.ne, h.nx⟩
theorem GS.put1 (h : GS w0 m1 b1 m2 b2 gx gB x O1 O2 B W) (hf : FSt W' m1 b1 (oneR x O')) (hg : W.grownBy W' (some b1)) : GS w0 m1 b1 m2 b2 gx gB x O' O2 B W' := by
  obtain ⟨v, vs, e⟩ := bvx_cons' x
  have n1 : gx ≠ b1 := At.ne_fs (v := v) (vs := vs) (by rw [← e]; exact h.ax) h.f1
  exact ⟨hf, h.f2.kept hg h.ne.symm (h.f2.ne h.f1), h.ax.grown hg (fun e => n1 (Option.some.inj e).symm), h.aB.grown hg (fun e => h.aB.ne_fs h.f1 (Option.some.inj e).symm), below_grown h.bw hg h.h1 h.bw.size, h.h1, h.h2, h.hB, h.ne, h.nx⟩
theorem GS.put2 (h : GS w0 m1 b1 m2 b2 gx gB x O1 O2 B W) (hf : FSt W' m2 b2 (oneR x O')) (hg : W.grownBy W' (some b2)) : GS w0 m1 b1 m2 b2 gx gB x O1 O' B W' := by
  obtain ⟨v, vs, e⟩ := bvx_cons' x
  have n1 : gx ≠ b2 := At.ne_fs (v := v) (vs := vs) (by rw [← e]; exact h.ax) h.f2
  exact ⟨h.f1.kept hg h.ne (h.f1.ne h.f2), hf, h.ax.grown hg (fun e => n1 (Option.some.inj e).symm), h.aB.grown hg (fun e => h.aB.ne_fs h.f2 (Option.some.inj e).symm), below_grown h.bw hg h.h2 h.bw.size, h.h1, h.h2, h.hB, h.ne, h.nx⟩
/-- the best's box is turned -/
theorem GS.best (h : GS w0 m1 b1 m2 b2 gx gB x O1 O2 B W) (s : S3) : GS w0 m1 b1 m2 b2 gx gB x O1 O2 s (putL W gB 0 [.int .i64 s.p, .int .i64 s.l, .int .i64 s.r]) := by
  have k := below_putL [.int .i64 s.p, .int .i64 s.l, .int .i64 s.r] 0 h.bw h.hB
  have hg : W.grownBy (putL W gB 0 [.int .i64 s.p, .int .i64 s.l, .int .i64 s.r]) (some gB) := grown_putL _ 0 (World.grownBy.refl _ _) (.inl rfl)
  have n1 : b1 ≠ gB := fun e => h.aB.ne_fs h.f1 e.symm
  have n2 : b2 ≠ gB := fun e => h.aB.ne_fs h.f2 e.symm
  have n3 : ∀ {m b : Nat} {R : List FE}, FSt W m b R → m ≠ gB := fun hf e => by
    have c1 := hf.1.c 0 (v := .map (some _)) rfl
    rw [e, h.aB.c 0 rfl] at c1
    cases c1
  exact ⟨h.f1.kept hg n1 (n3 h.f1), h.f2.kept hg n2 (n3 h.f2), h.ax.putL_other _ 0 _ h.nx.symm, h.aB.putL _ rfl, k, h.h1, h.h2, h.hB, h.ne, h.nx⟩
end
set_option maxRecDepth 100000 in
set_option maxHeartbeats 8000000 in
theorem FlagsGreatest_walk (w : World) (A0 : Option Addr) (c0 : Nat) (l : List S3) (s0 : Sl w w.heap.size A0 (sv l)) (hc0 : l.length ≤ c0) (hm0 : c0 ≤ maxLen) (on : Nat) (hon : U64 on) (q : Nat) (hq : q < 256) (xl : List UInt8) (hxl : xl.length = 32) :
    Calls Try.prog 3 #[.slice A0 l.length c0, .int .u64 (on : Int), .int .u8 (q : Int), .agg (bv xl).toArray] w fun e w' => e = .returned (.bool true) ∧ Below w.heap.size w w' := by
  obtain ⟨x, hx⟩ : ∃ x : ID, x.l = xl := ⟨⟨xl, hxl⟩, rfl⟩
  subst hx
  obtain ⟨n, hn⟩ : ∃ n, l.length = n := ⟨_, rfl⟩
  rw [hn]
  have HN := Lib.hid (And.intro hn s0)
  have HON := Lib.hid hon
  have H32 := Lib.hid (show (bv x.l).length = 32 by rw [bv_len, x.h])
  have kx := At.new w 25 (bv x.l).toArray
  have hb0 : Below w.heap.size w (w.alloc (.cells (bv x.l).toArray 25)) := (Below.refl _ w).alloc (Nat.le_refl _) _
  clear hn s0 hon hc0 hm0 hxl
  by_cases hbig : n > 60
  · have h0' : (60 : Int) < (n : Int) := by omega
    go_enter Try.func3, Try.ntmps3
    go_wp2_with (refine opVal rfl (ex_box32 rfl rfl) ?_)
    refine (known_any _).mono ?_
    rintro e w1 ⟨rfl, hb⟩
    have HB1 := Lib.hid (hb0.trans (hb.mono hb0.size))
    clear hb hb0 kx
    go_wp2
    go_ret
    exact ⟨rfl, HB1.out⟩
  · have h0 : n ≤ 60 := by omega
    have h0' : ¬ (60 : Int) < (n : Int) := by omega
    clear hbig
    go_enter Try.func3, Try.ntmps3
    go_wp2_with (refine opVal rfl (ex_box32 rfl rfl) ?_)
    refine (known_any _).mono ?_
    rintro e w1 ⟨rfl, hb⟩
    have H1 := Lib.hid (And.intro (show At w1 w.heap.size (bv x.l) from kx.below hb) (hb0.trans (hb.mono hb0.size)))
    clear hb hb0 kx
    go_wp2_with fail
    refine (New_any w1).mono ?_
    rintro e w2 ⟨rfl, hf2, hb2⟩
    go_wp2_with fail
    refine (New_any w2).mono ?_
    rintro e w3 ⟨rfl, hf3, hb3⟩
    have hb4 : Below w3.heap.size w3 (w3.alloc (.cells #[.int .i64 0, .int .i64 0, .int .i64 0] 30)) := (Below.refl _ _).alloc (Nat.le_refl _) _
    have hb23 := hb2.trans (hb3.mono hb2.size)
    have n4 := At.new w3 30 #[.int .i64 0, .int .i64 0, .int .i64 0]
    have e1 := H1.out.1.1
    have e2 := hb2.size
    have e3 := hb3.size
    have e4 := H1.out.2.size
    have e5 := hf2.blt
    have H4 := Lib.hid (show GS w (w1.heap.size + 1) w1.heap.size (w2.heap.size + 1) w2.heap.size w.heap.size w3.heap.size x (fwd l on 0) (bwd l on q n 0) ((fwd l on 0).getD zeroM).s (w3.alloc (.cells #[.int .i64 0, .int .i64 0, .int .i64 0] 30)) from
      ⟨(hf2.below hb3).below hb4, hf3.below hb4, (H1.out.1.below hb23).below hb4, n4, H1.out.2.trans ((hb23.trans (hb4.mono hb23.size)).mono H1.out.2.size), e4, by omega, by omega, by omega, by omega⟩)
    clear hf2 hb2 hf3 hb3 hb4 hb23 n4 e1 e2 e3 e4 e5
    go_wp2_with fail
    generalize w1.heap.size + 1 = m1 at *
    generalize w2.heap.size + 1 = m2 at *
    generalize w1.heap.size = b1 at *
    generalize w2.heap.size = b2 at *
    generalize w3.alloc (.cells #[.int .i64 0, .int .i64 0, .int .i64 0] 30) = w4 at *
    generalize w3.heap.size = gB at *
    go_loopw [11, 13, 14] (fun t11 t13 t14 wr => ∃ i : Nat, t14 = .int .i64 (i : Int) ∧ i ≤ n ∧ t11 = .bool (fwd l on i).isSome ∧ t13 = .bool ((fwd l on i).getD zeroM).on ∧ GS w m1 b1 m2 b2 w.heap.size gB x (fwd l on i) (bwd l on q n i) ((fwd l on i).getD zeroM).s wr) (fun _ _ t14 _ => n - (intOf t14).toNat)
    case atStart => exact ⟨0, rfl, Nat.zero_le _, rfl, rfl, H4.out⟩
    case round =>
      obtain ⟨i, rfl, hi, rfl, rfl, hg⟩ := hrel
      have HG := Lib.hid hg
      clear hg
      by_cases hlt : i < n
      · obtain ⟨g, o, rfl, hg1, hg2, c0, c1, c2⟩ := stampAt HN.out.2 (k := i) (by rw [HN.out.1]; exact hlt)
        have hmk : mkA l on i = ⟨l[i]?.getD ⟨0, 0, 0⟩, bitF on i⟩ := rfl
        have hfs := fwd_succ l on i
        rw [hmk] at hfs
        simp only at hfs
        have hbit := and1_bitF on i HON.out
        generalize l[i]?.getD ⟨0, 0, 0⟩ = si at *
        generalize bitF on i = bi at *
        obtain ⟨p, ll, r⟩ := si
        simp only at c0 c1 c2
        have c0' := (HG.out.bw.cell (p := ⟨g, o + i * 3, none⟩) hg1).trans c0
        have c1' := (HG.out.bw.cell (p := ⟨g, o + i * 3 + 1, none⟩) hg1).trans c1
        have c2' := (HG.out.bw.cell (p := ⟨g, o + i * 3 + 2, none⟩) hg1).trans c2
        obtain ⟨O, hO⟩ : ∃ O, fwd l on i = O := ⟨_, rfl⟩
        rw [hO] at hfs HG ⊢
        obtain ⟨⟨⟨bp, bl, br⟩, bon⟩, hM⟩ : ∃ M, O.getD zeroM = M := ⟨_, rfl⟩
        rw [hM] at HG ⊢
        obtain ⟨th, hth⟩ : ∃ th, O.isSome = th := ⟨_, rfl⟩
        rw [hth]
        have HO := Lib.hid (And.intro hO (And.intro hM (And.intro hth (And.intro hmk hfs))))
        have HC := Lib.hid (And.intro c0 (And.intro c1 (And.intro c2 (And.intro hg1 hg2))))
        have hx0 : (0 : Int) ≤ (i : Int) := by omega
        have hx1 : (i : Int) < (n : Int) := by omega
        have hx2 : (i : Int) < 64 := by omega
        clear hO hM hth hmk hfs c0 c1 c2
        obtain ⟨jj, hjj⟩ : ∃ jj, n - 1 - (i + q) % n = jj := ⟨_, rfl⟩
        have hmod := Nat.mod_lt (i + q) (show 0 < n by omega)
        have hjlt : jj < n := by omega
        have hJ : wrap64 ((n : Int) - 1 - ((i : Int) + (q : Int)) % (n : Int)) = (jj : Int) := by
          have e : ((i : Int) + (q : Int)) % (n : Int) = (((i + q) % n : Nat) : Int) := by push_cast; rfl
          rw [e, IntWalk.wrap64_in _ (by omega)]
          omega
        obtain ⟨g', o', e', _, _, d0, d1, d2⟩ := stampAt HN.out.2 (k := jj) (by rw [HN.out.1]; exact hjlt)
        simp only [Option.some.injEq, Addr.mk.injEq] at e'
        obtain ⟨rfl, rfl, _⟩ := e'
        have hbs := bwd_succ l on q n i
        rw [hjj] at hbs
        have hmj : mkA l on jj = ⟨l[jj]?.getD ⟨0, 0, 0⟩, bitF on jj⟩ := rfl
        rw [hmj] at hbs
        simp only at hbs
        have hbj := and1_bitF on jj HON.out
        generalize l[jj]?.getD ⟨0, 0, 0⟩ = sj at *
        generalize bitF on jj = bj at *
        obtain ⟨pj, lj, rj⟩ := sj
        simp only at d0 d1 d2
        have HJ := Lib.hid (And.intro d0 (And.intro d1 (And.intro d2 (And.intro hbs hbj))))
        have hj1 : (jj : Int) < (n : Int) := by omega
        have hj2 : (jj : Int) < 64 := by omega
        clear d0 d1 d2 hbs hbj hmj hjj hmod
        go_wp2_with fail
        have n5 := At.new wr 30 #[.int .i64 p, .int .i64 ll, .int .i64 r]
        have hb5 : Below wr.heap.size wr (wr.alloc (.cells #[.int .i64 p, .int .i64 ll, .int .i64 r] 30)) := (Below.refl _ _).alloc (Nat.le_refl _) _
        have G5 := Lib.hid (And.intro (HG.out.below hb5) n5)
        clear n5 hb5 c0' c1' c2'
        generalize wr.alloc (.cells #[.int .i64 p, .int .i64 ll, .int .i64 r] 30) = w5 at *
        generalize wr.heap.size = gs at *
        refine (RefRight_any w5 ⟨p, ll, r⟩).mono ?_
        rintro e w6 ⟨rfl, hb6⟩
        have G6 := Lib.hid (And.intro (G5.out.1.below hb6) (show At w6 gs ([.int .i64 p, .int .i64 ll, .int .i64 r] : List Value) from G5.out.2.below hb6))
        clear hb6 G5
        obtain ⟨rt, hrt⟩ : ∃ rt, (⟨p, ll, r⟩ : S3).right = rt := ⟨_, rfl⟩
        rw [hrt]
        have HRT := Lib.hid hrt
        clear hrt
        cases rt with
        | false =>
          have hf : fwd l on (i + 1) = O := by rw [HO.out.2.2.2.2, HRT.out]; rfl
          go_wp2_with fail
          have HF := Lib.hid (And.intro (show (fwd l on (i + 1)).isSome = th from (by rw [hf, HO.out.2.2.1])) (show (fwd l on (i + 1)).getD zeroM = ⟨⟨bp, bl, br⟩, bon⟩ from (by rw [hf, HO.out.2.1])))
          clear hf
          have GC := Lib.hid (G6.out.1)
          have HID := Lib.hid GC.out.ax
          have cc0 := (GC.out.bw.cell (p := ⟨g, o + i * 3, none⟩) HC.out.2.2.2.1).trans HC.out.1
          have cc1 := (GC.out.bw.cell (p := ⟨g, o + i * 3 + 1, none⟩) HC.out.2.2.2.1).trans HC.out.2.1
          have cc2 := (GC.out.bw.cell (p := ⟨g, o + i * 3 + 2, none⟩) HC.out.2.2.2.1).trans HC.out.2.2.1
          have f0 := cellB cc0
          have f1 := cellB cc1
          have f2 := cellB cc2
          clear cc0 cc1 cc2
          have HP1 := Lib.hid (fun W (h : FSt W m1 b1 (oneR x O)) => Put_any W m1 b1 _ h x ⟨p, ll, r⟩ bi (one_len x O))
          have hS0 : KB w6.heap w6.drew := KB.refl _
          refine bstartE (KB w6.heap) 11 (by kernel_rfl) ?_
          refine btakeE 0 [] (oi := _) (v := ?_) (by simp only [List.getElem?_toArray, List.getElem?_cons_succ, List.getElem?_cons_zero]; rfl) (by kernel_rfl) (by exact fun _ _ _ h => h) (by first | assumption | exact KB.refl _) (.inl ⟨by rfl, fun W hW => ?_⟩) ?_; rotate_left
          · (go_simp; first | done | with_reducible rfl)
          try simp only [Act.put, List.setIfInBounds_toArray, List.set_cons_zero, List.set_cons_succ]
          refine btakeE 1 [] (oi := _) (v := ?_) (by simp only [List.getElem?_toArray, List.getElem?_cons_succ, List.getElem?_cons_zero]; rfl) (by kernel_rfl) (by exact fun _ _ _ h => h) (by first | assumption | exact KB.refl _) (.inl ⟨by rfl, fun W hW => ?_⟩) ?_; rotate_left
          · refine Eq.trans (ex_ld32 (us := bv x.l) (by rfl) (by rfl) (HID.out.kb hW) H32.out) ?_
            with_reducible rfl
          try simp only [Act.put, List.setIfInBounds_toArray, List.set_cons_zero, List.set_cons_succ]
          refine btakeE 2 [5, 4] (oi := _) (v := ?_) (by simp only [List.getElem?_toArray, List.getElem?_cons_succ, List.getElem?_cons_zero]; rfl) (by kernel_rfl) (by exact fun _ _ _ h => h) (by first | assumption | exact KB.refl _) (.inl ⟨by rfl, fun W hW => ?_⟩) ?_; rotate_left
          · (go_simp; first | done | with_reducible rfl)
          try simp only [Act.put, List.setIfInBounds_toArray, List.set_cons_zero, List.set_cons_succ]
          refine btakeE 3 [5, 4] (oi := _) (v := ?_) (by simp only [List.getElem?_toArray, List.getElem?_cons_succ, List.getElem?_cons_zero]; rfl) (by kernel_rfl) (by exact fun _ _ _ h => h) (by first | assumption | exact KB.refl _) (.inl ⟨by rfl, fun W hW => ?_⟩) ?_; rotate_left
          · (go_simp; first | done | with_reducible rfl)
          try simp only [Act.put, List.setIfInBounds_toArray, List.set_cons_zero, List.set_cons_succ]
          refine btakeE 4 [5] (oi := _) (v := ?_) (by simp only [List.getElem?_toArray, List.getElem?_cons_succ, List.getElem?_cons_zero]; rfl) (by kernel_rfl) (by exact fun _ _ _ h => h) (by first | assumption | exact KB.refl _) (.inl ⟨by rfl, fun W hW => ?_⟩) ?_; rotate_left
          · (go_simp; first | done | with_reducible rfl)
          try simp only [Act.put, List.setIfInBounds_toArray, List.set_cons_zero, List.set_cons_succ]
          refine btakeE 5 [] (oi := _) (v := ?_) (by simp only [List.getElem?_toArray, List.getElem?_cons_succ, List.getElem?_cons_zero]; rfl) (by kernel_rfl) (by exact fun _ _ _ h => h) (by first | assumption | exact KB.refl _) (.inl ⟨by rfl, fun W hW => ?_⟩) ?_; rotate_left
          · (go_simp; first | done | with_reducible rfl)
          try simp only [Act.put, List.setIfInBounds_toArray, List.set_cons_zero, List.set_cons_succ]
          refine btakeE 6 [10, 9, 8] (oi := _) (v := ?_) (by simp only [List.getElem?_toArray, List.getElem?_cons_succ, List.getElem?_cons_zero]; rfl) (by kernel_rfl) (by exact fun _ _ _ h => h) (by first | assumption | exact KB.refl _) (.inl ⟨by rfl, fun W hW => ?_⟩) ?_; rotate_left
          · (go_simp; first | done | with_reducible rfl)
          try simp only [Act.put, List.setIfInBounds_toArray, List.set_cons_zero, List.set_cons_succ]
          refine btakeE 7 [10, 9, 8] (oi := _) (v := ?_) (by simp only [List.getElem?_toArray, List.getElem?_cons_succ, List.getElem?_cons_zero]; rfl) (by kernel_rfl) (by exact fun _ _ _ h => h) (by first | assumption | exact KB.refl _) (.inl ⟨by rfl, fun W hW => ?_⟩) ?_; rotate_left
          · (go_simp; first | done | with_reducible rfl)
          try simp only [Act.put, List.setIfInBounds_toArray, List.set_cons_zero, List.set_cons_succ]
          refine btakeE 8 [10, 9] (oi := _) (v := ?_) (by simp only [List.getElem?_toArray, List.getElem?_cons_succ, List.getElem?_cons_zero]; rfl) (by kernel_rfl) (by exact fun _ _ _ h => h) (by first | assumption | exact KB.refl _) (.inl ⟨by rfl, fun W hW => ?_⟩) ?_; rotate_left
          · (go_simp; first | done | with_reducible rfl)
          try simp only [Act.put, List.setIfInBounds_toArray, List.set_cons_zero, List.set_cons_succ]
          refine btakeE 9 [10] (oi := _) (v := ?_) (by simp only [List.getElem?_toArray, List.getElem?_cons_succ, List.getElem?_cons_zero]; rfl) (by kernel_rfl) (by exact fun _ _ _ h => h) (by first | assumption | exact KB.refl _) (.inl ⟨by rfl, fun W hW => ?_⟩) ?_; rotate_left
          · (go_simp; first | done | with_reducible rfl)
          try simp only [Act.put, List.setIfInBounds_toArray, List.set_cons_zero, List.set_cons_succ]
          refine btakeE 10 [] (oi := _) (v := ?_) (by simp only [List.getElem?_toArray, List.getElem?_cons_succ, List.getElem?_cons_zero]; rfl) (by kernel_rfl) (by exact fun _ _ _ h => h) (by first | assumption | exact KB.refl _) (.inl ⟨by rfl, fun W hW => ?_⟩) ?_; rotate_left
          · (go_simp; first | done | with_reducible rfl)
          try simp only [Act.put, List.setIfInBounds_toArray, List.set_cons_zero, List.set_cons_succ]
          -- 11: (*newsreel/flags.Map).Put
          refine blastE 11 (o := _) (by simp only [List.getElem?_toArray, List.getElem?_cons_succ, List.getElem?_cons_zero]; rfl) (by kernel_rfl) (by rfl) (by rfl) (fun K hK => ?_)
          go_simp
          refine (HP1.out w6.drew GC.out.f1.drew).mono ?_
          rintro e w8 ⟨he, hp8, hg8⟩
          obtain ⟨v8, rfl⟩ : ∃ v, e = .returned v := ⟨_, he⟩
          clear he
          rw [putIf_one, ← HO.out.2.2.2.2] at hp8
          have G8 := Lib.hid ((GC.out.below ((Below.refl w6.heap.size w6).drew)).put1 hp8 hg8)
          clear hp8 hg8
          refine hK.out _ _ ?_; clear hK K
          try simp only [Act.put, List.setIfInBounds_toArray, List.set_cons_zero, List.set_cons_succ]
          refine bdoneE (by kernel_rfl) ?_
          clear f0 f1 f2 hS0 GC HID HP1
          have HID := Lib.hid G8.out.ax
          have cc0 := (G8.out.bw.cell (p := ⟨g, o + jj * 3, none⟩) HC.out.2.2.2.1).trans HJ.out.1
          have cc1 := (G8.out.bw.cell (p := ⟨g, o + jj * 3 + 1, none⟩) HC.out.2.2.2.1).trans HJ.out.2.1
          have cc2 := (G8.out.bw.cell (p := ⟨g, o + jj * 3 + 2, none⟩) HC.out.2.2.2.1).trans HJ.out.2.2.1
          have f0 := cellB cc0
          have f1 := cellB cc1
          have f2 := cellB cc2
          clear cc0 cc1 cc2
          have hbj := HJ.out.2.2.2.2
          have HP2 := Lib.hid (fun W (h : FSt W m2 b2 (oneR x (bwd l on q n i))) => Put_any W m2 b2 _ h x ⟨pj, lj, rj⟩ bj (one_len x _))
          have hS0 : KB w8.heap w8.drew := KB.refl _
          have hj0 : (0 : Int) ≤ (jj : Int) := by omega
          go_wp2_with fail
          refine bstartE (KB w8.heap) 11 (by kernel_rfl) ?_
          refine btakeE 0 [] (oi := _) (v := ?_) (by simp only [List.getElem?_toArray, List.getElem?_cons_succ, List.getElem?_cons_zero]; rfl) (by kernel_rfl) (by exact fun _ _ _ h => h) (by first | assumption | exact KB.refl _) (.inl ⟨by rfl, fun W hW => ?_⟩) ?_; rotate_left
          · (go_simp; first | done | with_reducible rfl)
          try simp only [Act.put, List.setIfInBounds_toArray, List.set_cons_zero, List.set_cons_succ]
          refine btakeE 1 [] (oi := _) (v := ?_) (by simp only [List.getElem?_toArray, List.getElem?_cons_succ, List.getElem?_cons_zero]; rfl) (by kernel_rfl) (by exact fun _ _ _ h => h) (by first | assumption | exact KB.refl _) (.inl ⟨by rfl, fun W hW => ?_⟩) ?_; rotate_left
          · refine Eq.trans (ex_ld32 (us := bv x.l) (by rfl) (by rfl) (HID.out.kb hW) H32.out) ?_
            with_reducible rfl
          try simp only [Act.put, List.setIfInBounds_toArray, List.set_cons_zero, List.set_cons_succ]
          refine btakeE 2 [5, 4] (oi := _) (v := ?_) (by simp only [List.getElem?_toArray, List.getElem?_cons_succ, List.getElem?_cons_zero]; rfl) (by kernel_rfl) (by exact fun _ _ _ h => h) (by first | assumption | exact KB.refl _) (.inl ⟨by rfl, fun W hW => ?_⟩) ?_; rotate_left
          · (go_simp; first | done | with_reducible rfl)
          try simp only [Act.put, List.setIfInBounds_toArray, List.set_cons_zero, List.set_cons_succ]
          refine btakeE 3 [5, 4] (oi := _) (v := ?_) (by simp only [List.getElem?_toArray, List.getElem?_cons_succ, List.getElem?_cons_zero]; rfl) (by kernel_rfl) (by exact fun _ _ _ h => h) (by first | assumption | exact KB.refl _) (.inl ⟨by rfl, fun W hW => ?_⟩) ?_; rotate_left
          · (go_simp; first | done | with_reducible rfl)
          try simp only [Act.put, List.setIfInBounds_toArray, List.set_cons_zero, List.set_cons_succ]
          refine btakeE 4 [5] (oi := _) (v := ?_) (by simp only [List.getElem?_toArray, List.getElem?_cons_succ, List.getElem?_cons_zero]; rfl) (by kernel_rfl) (by exact fun _ _ _ h => h) (by first | assumption | exact KB.refl _) (.inl ⟨by rfl, fun W hW => ?_⟩) ?_; rotate_left
          · (go_simp; first | done | with_reducible rfl)
          try simp only [Act.put, List.setIfInBounds_toArray, List.set_cons_zero, List.set_cons_succ]
          refine btakeE 5 [] (oi := _) (v := ?_) (by simp only [List.getElem?_toArray, List.getElem?_cons_succ, List.getElem?_cons_zero]; rfl) (by kernel_rfl) (by exact fun _ _ _ h => h) (by first | assumption | exact KB.refl _) (.inl ⟨by rfl, fun W hW => ?_⟩) ?_; rotate_left
          · (go_simp; first | done | with_reducible rfl)
          try simp only [Act.put, List.setIfInBounds_toArray, List.set_cons_zero, List.set_cons_succ]
          refine btakeE 6 [10, 9, 8] (oi := _) (v := ?_) (by simp only [List.getElem?_toArray, List.getElem?_cons_succ, List.getElem?_cons_zero]; rfl) (by kernel_rfl) (by exact fun _ _ _ h => h) (by first | assumption | exact KB.refl _) (.inl ⟨by rfl, fun W hW => ?_⟩) ?_; rotate_left
          · (go_simp; first | done | with_reducible rfl)
          try simp only [Act.put, List.setIfInBounds_toArray, List.set_cons_zero, List.set_cons_succ]
          refine btakeE 7 [10, 9, 8] (oi := _) (v := ?_) (by simp only [List.getElem?_toArray, List.getElem?_cons_succ, List.getElem?_cons_zero]; rfl) (by kernel_rfl) (by exact fun _ _ _ h => h) (by first | assumption | exact KB.refl _) (.inl ⟨by rfl, fun W hW => ?_⟩) ?_; rotate_left
          · (go_simp; first | done | with_reducible rfl)
          try simp only [Act.put, List.setIfInBounds_toArray, List.set_cons_zero, List.set_cons_succ]
          refine btakeE 8 [10, 9] (oi := _) (v := ?_) (by simp only [List.getElem?_toArray, List.getElem?_cons_succ, List.getElem?_cons_zero]; rfl) (by kernel_rfl) (by exact fun _ _ _ h => h) (by first | assumption | exact KB.refl _) (.inl ⟨by rfl, fun W hW => ?_⟩) ?_; rotate_left
          · (go_simp; first | done | with_reducible rfl)
          try simp only [Act.put, List.setIfInBounds_toArray, List.set_cons_zero, List.set_cons_succ]
          refine btakeE 9 [10] (oi := _) (v := ?_) (by simp only [List.getElem?_toArray, List.getElem?_cons_succ, List.getElem?_cons_zero]; rfl) (by kernel_rfl) (by exact fun _ _ _ h => h) (by first | assumption | exact KB.refl _) (.inl ⟨by rfl, fun W hW => ?_⟩) ?_; rotate_left
          · (go_simp; first | done | with_reducible rfl)
          try simp only [Act.put, List.setIfInBounds_toArray, List.set_cons_zero, List.set_cons_succ]
          refine btakeE 10 [] (oi := _) (v := ?_) (by simp only [List.getElem?_toArray, List.getElem?_cons_succ, List.getElem?_cons_zero]; rfl) (by kernel_rfl) (by exact fun _ _ _ h => h) (by first | assumption | exact KB.refl _) (.inl ⟨by rfl, fun W hW => ?_⟩) ?_; rotate_left
          · (go_simp; first | done | with_reducible rfl)
          try simp only [Act.put, List.setIfInBounds_toArray, List.set_cons_zero, List.set_cons_succ]
          -- 11: (*newsreel/flags.Map).Put
          refine blastE 11 (o := _) (by simp only [List.getElem?_toArray, List.getElem?_cons_succ, List.getElem?_cons_zero]; rfl) (by kernel_rfl) (by rfl) (by rfl) (fun K hK => ?_)
          go_simp
          refine (HP2.out w8.drew G8.out.f2.drew).mono ?_
          rintro e w9 ⟨he, hp9, hg9⟩
          obtain ⟨v9, rfl⟩ : ∃ v, e = .returned v := ⟨_, he⟩
          clear he
          rw [putIf_one, ← HJ.out.2.2.2.1] at hp9
          have G9 := Lib.hid ((G8.out.below ((Below.refl w8.heap.size w8).drew)).put2 hp9 hg9)
          clear hp9 hg9
          refine hK.out _ _ ?_; clear hK K
          try simp only [Act.put, List.setIfInBounds_toArray, List.set_cons_zero, List.set_cons_succ]
          refine bdoneE (by kernel_rfl) ?_
          clear f0 f1 f2 hS0 G8 HID HP2 hbj
          go_wp2_with fail
          go_roundw
          case rel => exact ⟨i + 1, by go_num, hlt, by rw [HF.out.1], by rw [HF.out.2], by rw [HF.out.2]; exact G9.out⟩
          case measure => simp [intOf]; omega
        | true =>
          have z0 := G6.out.2.c 0 rfl
          have z1 := G6.out.2.c 1 rfl
          have z2 := G6.out.2.c 2 rfl
          have x0 := G6.out.1.aB.c 0 rfl
          have x1 := G6.out.1.aB.c 1 rfl
          have x2 := G6.out.1.aB.c 2 rfl
          have y0 := G6.out.1.aB.f 0 rfl
          have y1 := G6.out.1.aB.f 1 rfl
          have y2 := G6.out.1.aB.f 2 rfl
          have hf0 : fwd l on (i + 1) = some (mxO O ⟨⟨p, ll, r⟩, bi⟩) := by rw [HO.out.2.2.2.2, HRT.out]; rfl
          cases th with
          | false =>
            have hON : O = none := by
              cases O with
              | none => rfl
              | some v => have := HO.out.2.2.1; cases this
            have hf : fwd l on (i + 1) = some ⟨⟨p, ll, r⟩, bi⟩ := by rw [hf0, hON]; rfl
            go_wp2_with fail
            have HF := Lib.hid (And.intro (show (fwd l on (i + 1)).isSome = true from (by rw [hf]; rfl)) (show (fwd l on (i + 1)).getD zeroM = ⟨⟨p, ll, r⟩, bi⟩ from (by rw [hf]; rfl)))
            clear hf hf0 z0 z1 z2 x0 x1 x2 y0 y1 y2
            have gcx := G6.out.1.best ⟨p, ll, r⟩
            simp only [putL] at gcx
            generalize ((w6.setCell ⟨gB, 0, none⟩ (.int .i64 p)).setCell ⟨gB, 1, none⟩ (.int .i64 ll)).setCell ⟨gB, 2, none⟩ (.int .i64 r) = wc at *
            have GC := Lib.hid (gcx)
            have HID := Lib.hid GC.out.ax
            have cc0 := (GC.out.bw.cell (p := ⟨g, o + i * 3, none⟩) HC.out.2.2.2.1).trans HC.out.1
            have cc1 := (GC.out.bw.cell (p := ⟨g, o + i * 3 + 1, none⟩) HC.out.2.2.2.1).trans HC.out.2.1
            have cc2 := (GC.out.bw.cell (p := ⟨g, o + i * 3 + 2, none⟩) HC.out.2.2.2.1).trans HC.out.2.2.1
            have f0 := cellB cc0
            have f1 := cellB cc1
            have f2 := cellB cc2
            clear cc0 cc1 cc2
            have HP1 := Lib.hid (fun W (h : FSt W m1 b1 (oneR x O)) => Put_any W m1 b1 _ h x ⟨p, ll, r⟩ bi (one_len x O))
            have hS0 : KB wc.heap wc.drew := KB.refl _
            refine bstartE (KB wc.heap) 11 (by kernel_rfl) ?_
            refine btakeE 0 [] (oi := _) (v := ?_) (by simp only [List.getElem?_toArray, List.getElem?_cons_succ, List.getElem?_cons_zero]; rfl) (by kernel_rfl) (by exact fun _ _ _ h => h) (by first | assumption | exact KB.refl _) (.inl ⟨by rfl, fun W hW => ?_⟩) ?_; rotate_left
            · (go_simp; first | done | with_reducible rfl)
            try simp only [Act.put, List.setIfInBounds_toArray, List.set_cons_zero, List.set_cons_succ]
            refine btakeE 1 [] (oi := _) (v := ?_) (by simp only [List.getElem?_toArray, List.getElem?_cons_succ, List.getElem?_cons_zero]; rfl) (by kernel_rfl) (by exact fun _ _ _ h => h) (by first | assumption | exact KB.refl _) (.inl ⟨by rfl, fun W hW => ?_⟩) ?_; rotate_left
            · refine Eq.trans (ex_ld32 (us := bv x.l) (by rfl) (by rfl) (HID.out.kb hW) H32.out) ?_
              with_reducible rfl
            try simp only [Act.put, List.setIfInBounds_toArray, List.set_cons_zero, List.set_cons_succ]
            refine btakeE 2 [5, 4] (oi := _) (v := ?_) (by simp only [List.getElem?_toArray, List.getElem?_cons_succ, List.getElem?_cons_zero]; rfl) (by kernel_rfl) (by exact fun _ _ _ h => h) (by first | assumption | exact KB.refl _) (.inl ⟨by rfl, fun W hW => ?_⟩) ?_; rotate_left
            · (go_simp; first | done | with_reducible rfl)
            try simp only [Act.put, List.setIfInBounds_toArray, List.set_cons_zero, List.set_cons_succ]
            refine btakeE 3 [5, 4] (oi := _) (v := ?_) (by simp only [List.getElem?_toArray, List.getElem?_cons_succ, List.getElem?_cons_zero]; rfl) (by kernel_rfl) (by exact fun _ _ _ h => h) (by first | assumption | exact KB.refl _) (.inl ⟨by rfl, fun W hW => ?_⟩) ?_; rotate_left
            · (go_simp; first | done | with_reducible rfl)
            try simp only [Act.put, List.setIfInBounds_toArray, List.set_cons_zero, List.set_cons_succ]
            refine btakeE 4 [5] (oi := _) (v := ?_) (by simp only [List.getElem?_toArray, List.getElem?_cons_succ, List.getElem?_cons_zero]; rfl) (by kernel_rfl) (by exact fun _ _ _ h => h) (by first | assumption | exact KB.refl _) (.inl ⟨by rfl, fun W hW => ?_⟩) ?_; rotate_left
            · (go_simp; first | done | with_reducible rfl)
            try simp only [Act.put, List.setIfInBounds_toArray, List.set_cons_zero, List.set_cons_succ]
            refine btakeE 5 [] (oi := _) (v := ?_) (by simp only [List.getElem?_toArray, List.getElem?_cons_succ, List.getElem?_cons_zero]; rfl) (by kernel_rfl) (by exact fun _ _ _ h => h) (by first | assumption | exact KB.refl _) (.inl ⟨by rfl, fun W hW => ?_⟩) ?_; rotate_left
            · (go_simp; first | done | with_reducible rfl)
            try simp only [Act.put, List.setIfInBounds_toArray, List.set_cons_zero, List.set_cons_succ]
            refine btakeE 6 [10, 9, 8] (oi := _) (v := ?_) (by simp only [List.getElem?_toArray, List.getElem?_cons_succ, List.getElem?_cons_zero]; rfl) (by kernel_rfl) (by exact fun _ _ _ h => h) (by first | assumption | exact KB.refl _) (.inl ⟨by rfl, fun W hW => ?_⟩) ?_; rotate_left
            · (go_simp; first | done | with_reducible rfl)
            try simp only [Act.put, List.setIfInBounds_toArray, List.set_cons_zero, List.set_cons_succ]
            refine btakeE 7 [10, 9, 8] (oi := _) (v := ?_) (by simp only [List.getElem?_toArray, List.getElem?_cons_succ, List.getElem?_cons_zero]; rfl) (by kernel_rfl) (by exact fun _ _ _ h => h) (by first | assumption | exact KB.refl _) (.inl ⟨by rfl, fun W hW => ?_⟩) ?_; rotate_left
            · (go_simp; first | done | with_reducible rfl)
            try simp only [Act.put, List.setIfInBounds_toArray, List.set_cons_zero, List.set_cons_succ]
            refine btakeE 8 [10, 9] (oi := _) (v := ?_) (by simp only [List.getElem?_toArray, List.getElem?_cons_succ, List.getElem?_cons_zero]; rfl) (by kernel_rfl) (by exact fun _ _ _ h => h) (by first | assumption | exact KB.refl _) (.inl ⟨by rfl, fun W hW => ?_⟩) ?_; rotate_left
            · (go_simp; first | done | with_reducible rfl)
            try simp only [Act.put, List.setIfInBounds_toArray, List.set_cons_zero, List.set_cons_succ]
            refine btakeE 9 [10] (oi := _) (v := ?_) (by simp only [List.getElem?_toArray, List.getElem?_cons_succ, List.getElem?_cons_zero]; rfl) (by kernel_rfl) (by exact fun _ _ _ h => h) (by first | assumption | exact KB.refl _) (.inl ⟨by rfl, fun W hW => ?_⟩) ?_; rotate_left
            · (go_simp; first | done | with_reducible rfl)
            try simp only [Act.put, List.setIfInBounds_toArray, List.set_cons_zero, List.set_cons_succ]
            refine btakeE 10 [] (oi := _) (v := ?_) (by simp only [List.getElem?_toArray, List.getElem?_cons_succ, List.getElem?_cons_zero]; rfl) (by kernel_rfl) (by exact fun _ _ _ h => h) (by first | assumption | exact KB.refl _) (.inl ⟨by rfl, fun W hW => ?_⟩) ?_; rotate_left
            · (go_simp; first | done | with_reducible rfl)
            try simp only [Act.put, List.setIfInBounds_toArray, List.set_cons_zero, List.set_cons_succ]
            -- 11: (*newsreel/flags.Map).Put
            refine blastE 11 (o := _) (by simp only [List.getElem?_toArray, List.getElem?_cons_succ, List.getElem?_cons_zero]; rfl) (by kernel_rfl) (by rfl) (by rfl) (fun K hK => ?_)
            go_simp
            refine (HP1.out wc.drew GC.out.f1.drew).mono ?_
            rintro e w8 ⟨he, hp8, hg8⟩
            obtain ⟨v8, rfl⟩ : ∃ v, e = .returned v := ⟨_, he⟩
            clear he
            rw [putIf_one, ← HO.out.2.2.2.2] at hp8
            have G8 := Lib.hid ((GC.out.below ((Below.refl wc.heap.size wc).drew)).put1 hp8 hg8)
            clear hp8 hg8
            refine hK.out _ _ ?_; clear hK K
            try simp only [Act.put, List.setIfInBounds_toArray, List.set_cons_zero, List.set_cons_succ]
            refine bdoneE (by kernel_rfl) ?_
            clear f0 f1 f2 hS0 GC HID HP1
            have HID := Lib.hid G8.out.ax
            have cc0 := (G8.out.bw.cell (p := ⟨g, o + jj * 3, none⟩) HC.out.2.2.2.1).trans HJ.out.1
            have cc1 := (G8.out.bw.cell (p := ⟨g, o + jj * 3 + 1, none⟩) HC.out.2.2.2.1).trans HJ.out.2.1
            have cc2 := (G8.out.bw.cell (p := ⟨g, o + jj * 3 + 2, none⟩) HC.out.2.2.2.1).trans HJ.out.2.2.1
            have f0 := cellB cc0
            have f1 := cellB cc1
            have f2 := cellB cc2
            clear cc0 cc1 cc2
            have hbj := HJ.out.2.2.2.2
            have HP2 := Lib.hid (fun W (h : FSt W m2 b2 (oneR x (bwd l on q n i))) => Put_any W m2 b2 _ h x ⟨pj, lj, rj⟩ bj (one_len x _))
            have hS0 : KB w8.heap w8.drew := KB.refl _
            have hj0 : (0 : Int) ≤ (jj : Int) := by omega
            go_wp2_with fail
            refine bstartE (KB w8.heap) 11 (by kernel_rfl) ?_
            refine btakeE 0 [] (oi := _) (v := ?_) (by simp only [List.getElem?_toArray, List.getElem?_cons_succ, List.getElem?_cons_zero]; rfl) (by kernel_rfl) (by exact fun _ _ _ h => h) (by first | assumption | exact KB.refl _) (.inl ⟨by rfl, fun W hW => ?_⟩) ?_; rotate_left
            · (go_simp; first | done | with_reducible rfl)
            try simp only [Act.put, List.setIfInBounds_toArray, List.set_cons_zero, List.set_cons_succ]
            refine btakeE 1 [] (oi := _) (v := ?_) (by simp only [List.getElem?_toArray, List.getElem?_cons_succ, List.getElem?_cons_zero]; rfl) (by kernel_rfl) (by exact fun _ _ _ h => h) (by first | assumption | exact KB.refl _) (.inl ⟨by rfl, fun W hW => ?_⟩) ?_; rotate_left
            · refine Eq.trans (ex_ld32 (us := bv x.l) (by rfl) (by rfl) (HID.out.kb hW) H32.out) ?_
              with_reducible rfl
            try simp only [Act.put, List.setIfInBounds_toArray, List.set_cons_zero, List.set_cons_succ]
            refine btakeE 2 [5, 4] (oi := _) (v := ?_) (by simp only [List.getElem?_toArray, List.getElem?_cons_succ, List.getElem?_cons_zero]; rfl) (by kernel_rfl) (by exact fun _ _ _ h => h) (by first | assumption | exact KB.refl _) (.inl ⟨by rfl, fun W hW => ?_⟩) ?_; rotate_left
            · (go_simp; first | done | with_reducible rfl)
            try simp only [Act.put, List.setIfInBounds_toArray, List.set_cons_zero, List.set_cons_succ]
            refine btakeE 3 [5, 4] (oi := _) (v := ?_) (by simp only [List.getElem?_toArray, List.getElem?_cons_succ, List.getElem?_cons_zero]; rfl) (by kernel_rfl) (by exact fun _ _ _ h => h) (by first | assumption | exact KB.refl _) (.inl ⟨by rfl, fun W hW => ?_⟩) ?_; rotate_left
            · (go_simp; first | done | with_reducible rfl)
            try simp only [Act.put, List.setIfInBounds_toArray, List.set_cons_zero, List.set_cons_succ]
            refine btakeE 4 [5] (oi := _) (v := ?_) (by simp only [List.getElem?_toArray, List.getElem?_cons_succ, List.getElem?_cons_zero]; rfl) (by kernel_rfl) (by exact fun _ _ _ h => h) (by first | assumption | exact KB.refl _) (.inl ⟨by rfl, fun W hW => ?_⟩) ?_; rotate_left
            · (go_simp; first | done | with_reducible rfl)
            try simp only [Act.put, List.setIfInBounds_toArray, List.set_cons_zero, List.set_cons_succ]
            refine btakeE 5 [] (oi := _) (v := ?_) (by simp only [List.getElem?_toArray, List.getElem?_cons_succ, List.getElem?_cons_zero]; rfl) (by kernel_rfl) (by exact fun _ _ _ h => h) (by first | assumption | exact KB.refl _) (.inl ⟨by rfl, fun W hW => ?_⟩) ?_; rotate_left
            · (go_simp; first | done | with_reducible rfl)
            try simp only [Act.put, List.setIfInBounds_toArray, List.set_cons_zero, List.set_cons_succ]
            refine btakeE 6 [10, 9, 8] (oi := _) (v := ?_) (by simp only [List.getElem?_toArray, List.getElem?_cons_succ, List.getElem?_cons_zero]; rfl) (by kernel_rfl) (by exact fun _ _ _ h => h) (by first | assumption | exact KB.refl _) (.inl ⟨by rfl, fun W hW => ?_⟩) ?_; rotate_left
            · (go_simp; first | done | with_reducible rfl)
            try simp only [Act.put, List.setIfInBounds_toArray, List.set_cons_zero, List.set_cons_succ]
            refine btakeE 7 [10, 9, 8] (oi := _) (v := ?_) (by simp only [List.getElem?_toArray, List.getElem?_cons_succ, List.getElem?_cons_zero]; rfl) (by kernel_rfl) (by exact fun _ _ _ h => h) (by first | assumption | exact KB.refl _) (.inl ⟨by rfl, fun W hW => ?_⟩) ?_; rotate_left
            · (go_simp; first | done | with_reducible rfl)
            try simp only [Act.put, List.setIfInBounds_toArray, List.set_cons_zero, List.set_cons_succ]
            refine btakeE 8 [10, 9] (oi := _) (v := ?_) (by simp only [List.getElem?_toArray, List.getElem?_cons_succ, List.getElem?_cons_zero]; rfl) (by kernel_rfl) (by exact fun _ _ _ h => h) (by first | assumption | exact KB.refl _) (.inl ⟨by rfl, fun W hW => ?_⟩) ?_; rotate_left
            · (go_simp; first | done | with_reducible rfl)
            try simp only [Act.put, List.setIfInBounds_toArray, List.set_cons_zero, List.set_cons_succ]
            refine btakeE 9 [10] (oi := _) (v := ?_) (by simp only [List.getElem?_toArray, List.getElem?_cons_succ, List.getElem?_cons_zero]; rfl) (by kernel_rfl) (by exact fun _ _ _ h => h) (by first | assumption | exact KB.refl _) (.inl ⟨by rfl, fun W hW => ?_⟩) ?_; rotate_left
            · (go_simp; first | done | with_reducible rfl)
            try simp only [Act.put, List.setIfInBounds_toArray, List.set_cons_zero, List.set_cons_succ]
            refine btakeE 10 [] (oi := _) (v := ?_) (by simp only [List.getElem?_toArray, List.getElem?_cons_succ, List.getElem?_cons_zero]; rfl) (by kernel_rfl) (by exact fun _ _ _ h => h) (by first | assumption | exact KB.refl _) (.inl ⟨by rfl, fun W hW => ?_⟩) ?_; rotate_left
            · (go_simp; first | done | with_reducible rfl)
            try simp only [Act.put, List.setIfInBounds_toArray, List.set_cons_zero, List.set_cons_succ]
            -- 11: (*newsreel/flags.Map).Put
            refine blastE 11 (o := _) (by simp only [List.getElem?_toArray, List.getElem?_cons_succ, List.getElem?_cons_zero]; rfl) (by kernel_rfl) (by rfl) (by rfl) (fun K hK => ?_)
            go_simp
            refine (HP2.out w8.drew G8.out.f2.drew).mono ?_
            rintro e w9 ⟨he, hp9, hg9⟩
            obtain ⟨v9, rfl⟩ : ∃ v, e = .returned v := ⟨_, he⟩
            clear he
            rw [putIf_one, ← HJ.out.2.2.2.1] at hp9
            have G9 := Lib.hid ((G8.out.below ((Below.refl w8.heap.size w8).drew)).put2 hp9 hg9)
            clear hp9 hg9
            refine hK.out _ _ ?_; clear hK K
            try simp only [Act.put, List.setIfInBounds_toArray, List.set_cons_zero, List.set_cons_succ]
            refine bdoneE (by kernel_rfl) ?_
            clear f0 f1 f2 hS0 G8 HID HP2 hbj
            go_wp2_with fail
            go_roundw
            case rel => exact ⟨i + 1, by go_num, hlt, by rw [HF.out.1], by rw [HF.out.2], by rw [HF.out.2]; exact G9.out⟩
            case measure => simp [intOf]; omega
          | true =>
            have hOS : O = some ⟨⟨bp, bl, br⟩, bon⟩ := some_of HO.out.2.1 HO.out.2.2.1
            rw [hOS, best_step] at hf0
            obtain ⟨lt, hlt'⟩ : ∃ lt, S3.lt ⟨bp, bl, br⟩ ⟨p, ll, r⟩ = lt := ⟨_, rfl⟩
            obtain ⟨eq, heq⟩ : ∃ eq, decide ((⟨bp, bl, br⟩ : S3) = ⟨p, ll, r⟩) = eq := ⟨_, rfl⟩
            have hLe := RefLess_any w6 ⟨bp, bl, br⟩ ⟨p, ll, r⟩
            have hEq := fun W => eq3 W ⟨bp, bl, br⟩ ⟨p, ll, r⟩
            rw [hlt'] at hLe
            rw [heq] at hEq
            simp only [S3.v] at hEq
            have HEQ := Lib.hid hEq
            have HLT := Lib.hid (And.intro hlt' heq)
            clear hlt' heq hEq
            simp only at hf0
            go_wp2_with fail
            refine hLe.mono ?_
            rintro e w7 ⟨rfl, hb7⟩
            have G7 := Lib.hid (And.intro (G6.out.1.below hb7) (G6.out.2.below hb7))
            clear hLe hb7 z0 z1 z2 x0 x1 x2 y0 y1 y2
            have z0 := G7.out.2.c 0 rfl
            have z1 := G7.out.2.c 1 rfl
            have z2 := G7.out.2.c 2 rfl
            have x0 := G7.out.1.aB.c 0 rfl
            have x1 := G7.out.1.aB.c 1 rfl
            have x2 := G7.out.1.aB.c 2 rfl
            have y0 := G7.out.1.aB.f 0 rfl
            have y1 := G7.out.1.aB.f 1 rfl
            have y2 := G7.out.1.aB.f 2 rfl
            have hEq := HEQ.out
            cases lt with
            | true =>
              have hf : fwd l on (i + 1) = some ⟨⟨p, ll, r⟩, bi⟩ := by rw [hf0, if_pos HLT.out.1]
              go_wp2_with fail
              have HF := Lib.hid (And.intro (show (fwd l on (i + 1)).isSome = true from (by rw [hf]; rfl)) (show (fwd l on (i + 1)).getD zeroM = ⟨⟨p, ll, r⟩, bi⟩ from (by rw [hf]; rfl)))
              clear hf hf0 hEq z0 z1 z2 x0 x1 x2 y0 y1 y2
              have gcx := G7.out.1.best ⟨p, ll, r⟩
              simp only [putL] at gcx
              generalize ((w7.setCell ⟨gB, 0, none⟩ (.int .i64 p)).setCell ⟨gB, 1, none⟩ (.int .i64 ll)).setCell ⟨gB, 2, none⟩ (.int .i64 r) = wc at *
              have GC := Lib.hid (gcx)
              have HID := Lib.hid GC.out.ax
              have cc0 := (GC.out.bw.cell (p := ⟨g, o + i * 3, none⟩) HC.out.2.2.2.1).trans HC.out.1
              have cc1 := (GC.out.bw.cell (p := ⟨g, o + i * 3 + 1, none⟩) HC.out.2.2.2.1).trans HC.out.2.1
              have cc2 := (GC.out.bw.cell (p := ⟨g, o + i * 3 + 2, none⟩) HC.out.2.2.2.1).trans HC.out.2.2.1
              have f0 := cellB cc0
              have f1 := cellB cc1
              have f2 := cellB cc2
              clear cc0 cc1 cc2
              have HP1 := Lib.hid (fun W (h : FSt W m1 b1 (oneR x O)) => Put_any W m1 b1 _ h x ⟨p, ll, r⟩ bi (one_len x O))
              have hS0 : KB wc.heap wc.drew := KB.refl _
              refine bstartE (KB wc.heap) 11 (by kernel_rfl) ?_
              refine btakeE 0 [] (oi := _) (v := ?_) (by simp only [List.getElem?_toArray, List.getElem?_cons_succ, List.getElem?_cons_zero]; rfl) (by kernel_rfl) (by exact fun _ _ _ h => h) (by first | assumption | exact KB.refl _) (.inl ⟨by rfl, fun W hW => ?_⟩) ?_; rotate_left
              · (go_simp; first | done | with_reducible rfl)
              try simp only [Act.put, List.setIfInBounds_toArray, List.set_cons_zero, List.set_cons_succ]
              refine btakeE 1 [] (oi := _) (v := ?_) (by simp only [List.getElem?_toArray, List.getElem?_cons_succ, List.getElem?_cons_zero]; rfl) (by kernel_rfl) (by exact fun _ _ _ h => h) (by first | assumption | exact KB.refl _) (.inl ⟨by rfl, fun W hW => ?_⟩) ?_; rotate_left
              · refine Eq.trans (ex_ld32 (us := bv x.l) (by rfl) (by rfl) (HID.out.kb hW) H32.out) ?_
                with_reducible rfl
              try simp only [Act.put, List.setIfInBounds_toArray, List.set_cons_zero, List.set_cons_succ]
              refine btakeE 2 [5, 4] (oi := _) (v := ?_) (by simp only [List.getElem?_toArray, List.getElem?_cons_succ, List.getElem?_cons_zero]; rfl) (by kernel_rfl) (by exact fun _ _ _ h => h) (by first | assumption | exact KB.refl _) (.inl ⟨by rfl, fun W hW => ?_⟩) ?_; rotate_left
              · (go_simp; first | done | with_reducible rfl)
              try simp only [Act.put, List.setIfInBounds_toArray, List.set_cons_zero, List.set_cons_succ]
              refine btakeE 3 [5, 4] (oi := _) (v := ?_) (by simp only [List.getElem?_toArray, List.getElem?_cons_succ, List.getElem?_cons_zero]; rfl) (by kernel_rfl) (by exact fun _ _ _ h => h) (by first | assumption | exact KB.refl _) (.inl ⟨by rfl, fun W hW => ?_⟩) ?_; rotate_left
              · (go_simp; first | done | with_reducible rfl)
              try simp only [Act.put, List.setIfInBounds_toArray, List.set_cons_zero, List.set_cons_succ]
              refine btakeE 4 [5] (oi := _) (v := ?_) (by simp only [List.getElem?_toArray, List.getElem?_cons_succ, List.getElem?_cons_zero]; rfl) (by kernel_rfl) (by exact fun _ _ _ h => h) (by first | assumption | exact KB.refl _) (.inl ⟨by rfl, fun W hW => ?_⟩) ?_; rotate_left
              · (go_simp; first | done | with_reducible rfl)
              try simp only [Act.put, List.setIfInBounds_toArray, List.set_cons_zero, List.set_cons_succ]
              refine btakeE 5 [] (oi := _) (v := ?_) (by simp only [List.getElem?_toArray, List.getElem?_cons_succ, List.getElem?_cons_zero]; rfl) (by kernel_rfl) (by exact fun _ _ _ h => h) (by first | assumption | exact KB.refl _) (.inl ⟨by rfl, fun W hW => ?_⟩) ?_; rotate_left
              · (go_simp; first | done | with_reducible rfl)
              try simp only [Act.put, List.setIfInBounds_toArray, List.set_cons_zero, List.set_cons_succ]
              refine btakeE 6 [10, 9, 8] (oi := _) (v := ?_) (by simp only [List.getElem?_toArray, List.getElem?_cons_succ, List.getElem?_cons_zero]; rfl) (by kernel_rfl) (by exact fun _ _ _ h => h) (by first | assumption | exact KB.refl _) (.inl ⟨by rfl, fun W hW => ?_⟩) ?_; rotate_left
              · (go_simp; first | done | with_reducible rfl)
              try simp only [Act.put, List.setIfInBounds_toArray, List.set_cons_zero, List.set_cons_succ]
              refine btakeE 7 [10, 9, 8] (oi := _) (v := ?_) (by simp only [List.getElem?_toArray, List.getElem?_cons_succ, List.getElem?_cons_zero]; rfl) (by kernel_rfl) (by exact fun _ _ _ h => h) (by first | assumption | exact KB.refl _) (.inl ⟨by rfl, fun W hW => ?_⟩) ?_; rotate_left
              · (go_simp; first | done | with_reducible rfl)
              try simp only [Act.put, List.setIfInBounds_toArray, List.set_cons_zero, List.set_cons_succ]
              refine btakeE 8 [10, 9] (oi := _) (v := ?_) (by simp only [List.getElem?_toArray, List.getElem?_cons_succ, List.getElem?_cons_zero]; rfl) (by kernel_rfl) (by exact fun _ _ _ h => h) (by first | assumption | exact KB.refl _) (.inl ⟨by rfl, fun W hW => ?_⟩) ?_; rotate_left
              · (go_simp; first | done | with_reducible rfl)
              try simp only [Act.put, List.setIfInBounds_toArray, List.set_cons_zero, List.set_cons_succ]
              refine btakeE 9 [10] (oi := _) (v := ?_) (by simp only [List.getElem?_toArray, List.getElem?_cons_succ, List.getElem?_cons_zero]; rfl) (by kernel_rfl) (by exact fun _ _ _ h => h) (by first | assumption | exact KB.refl _) (.inl ⟨by rfl, fun W hW => ?_⟩) ?_; rotate_left
              · (go_simp; first | done | with_reducible rfl)
              try simp only [Act.put, List.setIfInBounds_toArray, List.set_cons_zero, List.set_cons_succ]
              refine btakeE 10 [] (oi := _) (v := ?_) (by simp only [List.getElem?_toArray, List.getElem?_cons_succ, List.getElem?_cons_zero]; rfl) (by kernel_rfl) (by exact fun _ _ _ h => h) (by first | assumption | exact KB.refl _) (.inl ⟨by rfl, fun W hW => ?_⟩) ?_; rotate_left
              · (go_simp; first | done | with_reducible rfl)
              try simp only [Act.put, List.setIfInBounds_toArray, List.set_cons_zero, List.set_cons_succ]
              -- 11: (*newsreel/flags.Map).Put
              refine blastE 11 (o := _) (by simp only [List.getElem?_toArray, List.getElem?_cons_succ, List.getElem?_cons_zero]; rfl) (by kernel_rfl) (by rfl) (by rfl) (fun K hK => ?_)
              go_simp
              refine (HP1.out wc.drew GC.out.f1.drew).mono ?_
              rintro e w8 ⟨he, hp8, hg8⟩
              obtain ⟨v8, rfl⟩ : ∃ v, e = .returned v := ⟨_, he⟩
              clear he
              rw [putIf_one, ← HO.out.2.2.2.2] at hp8
              have G8 := Lib.hid ((GC.out.below ((Below.refl wc.heap.size wc).drew)).put1 hp8 hg8)
              clear hp8 hg8
              refine hK.out _ _ ?_; clear hK K
              try simp only [Act.put, List.setIfInBounds_toArray, List.set_cons_zero, List.set_cons_succ]
              refine bdoneE (by kernel_rfl) ?_
              clear f0 f1 f2 hS0 GC HID HP1
              have HID := Lib.hid G8.out.ax
              have cc0 := (G8.out.bw.cell (p := ⟨g, o + jj * 3, none⟩) HC.out.2.2.2.1).trans HJ.out.1
              have cc1 := (G8.out.bw.cell (p := ⟨g, o + jj * 3 + 1, none⟩) HC.out.2.2.2.1).trans HJ.out.2.1
              have cc2 := (G8.out.bw.cell (p := ⟨g, o + jj * 3 + 2, none⟩) HC.out.2.2.2.1).trans HJ.out.2.2.1
              have f0 := cellB cc0
              have f1 := cellB cc1
              have f2 := cellB cc2
              clear cc0 cc1 cc2
              have hbj := HJ.out.2.2.2.2
              have HP2 := Lib.hid (fun W (h : FSt W m2 b2 (oneR x (bwd l on q n i))) => Put_any W m2 b2 _ h x ⟨pj, lj, rj⟩ bj (one_len x _))
              have hS0 : KB w8.heap w8.drew := KB.refl _
              have hj0 : (0 : Int) ≤ (jj : Int) := by omega
              go_wp2_with fail
              refine bstartE (KB w8.heap) 11 (by kernel_rfl) ?_
              refine btakeE 0 [] (oi := _) (v := ?_) (by simp only [List.getElem?_toArray, List.getElem?_cons_succ, List.getElem?_cons_zero]; rfl) (by kernel_rfl) (by exact fun _ _ _ h => h) (by first | assumption | exact KB.refl _) (.inl ⟨by rfl, fun W hW => ?_⟩) ?_; rotate_left
              · (go_simp; first | done | with_reducible rfl)
              try simp only [Act.put, List.setIfInBounds_toArray, List.set_cons_zero, List.set_cons_succ]
              refine btakeE 1 [] (oi := _) (v := ?_) (by simp only [List.getElem?_toArray, List.getElem?_cons_succ, List.getElem?_cons_zero]; rfl) (by kernel_rfl) (by exact fun _ _ _ h => h) (by first | assumption | exact KB.refl _) (.inl ⟨by rfl, fun W hW => ?_⟩) ?_; rotate_left
              · refine Eq.trans (ex_ld32 (us := bv x.l) (by rfl) (by rfl) (HID.out.kb hW) H32.out) ?_
                with_reducible rfl
              try simp only [Act.put, List.setIfInBounds_toArray, List.set_cons_zero, List.set_cons_succ]
              refine btakeE 2 [5, 4] (oi := _) (v := ?_) (by simp only [List.getElem?_toArray, List.getElem?_cons_succ, List.getElem?_cons_zero]; rfl) (by kernel_rfl) (by exact fun _ _ _ h => h) (by first | assumption | exact KB.refl _) (.inl ⟨by rfl, fun W hW => ?_⟩) ?_; rotate_left
              · (go_simp; first | done | with_reducible rfl)
              try simp only [Act.put, List.setIfInBounds_toArray, List.set_cons_zero, List.set_cons_succ]
              refine btakeE 3 [5, 4] (oi := _) (v := ?_) (by simp only [List.getElem?_toArray, List.getElem?_cons_succ, List.getElem?_cons_zero]; rfl) (by kernel_rfl) (by exact fun _ _ _ h => h) (by first | assumption | exact KB.refl _) (.inl ⟨by rfl, fun W hW => ?_⟩) ?_; rotate_left
              · (go_simp; first | done | with_reducible rfl)
              try simp only [Act.put, List.setIfInBounds_toArray, List.set_cons_zero, List.set_cons_succ]
              refine btakeE 4 [5] (oi := _) (v := ?_) (by simp only [List.getElem?_toArray, List.getElem?_cons_succ, List.getElem?_cons_zero]; rfl) (by kernel_rfl) (by exact fun _ _ _ h => h) (by first | assumption | exact KB.refl _) (.inl ⟨by rfl, fun W hW => ?_⟩) ?_; rotate_left
              · (go_simp; first | done | with_reducible rfl)
              try simp only [Act.put, List.setIfInBounds_toArray, List.set_cons_zero, List.set_cons_succ]
              refine btakeE 5 [] (oi := _) (v := ?_) (by simp only [List.getElem?_toArray, List.getElem?_cons_succ, List.getElem?_cons_zero]; rfl) (by kernel_rfl) (by exact fun _ _ _ h => h) (by first | assumption | exact KB.refl _) (.inl ⟨by rfl, fun W hW => ?_⟩) ?_; rotate_left
              · (go_simp; first | done | with_reducible rfl)
              try simp only [Act.put, List.setIfInBounds_toArray, List.set_cons_zero, List.set_cons_succ]
              refine btakeE 6 [10, 9, 8] (oi := _) (v := ?_) (by simp only [List.getElem?_toArray, List.getElem?_cons_succ, List.getElem?_cons_zero]; rfl) (by kernel_rfl) (by exact fun _ _ _ h => h) (by first | assumption | exact KB.refl _) (.inl ⟨by rfl, fun W hW => ?_⟩) ?_; rotate_left
              · (go_simp; first | done | with_reducible rfl)
              try simp only [Act.put, List.setIfInBounds_toArray, List.set_cons_zero, List.set_cons_succ]
              refine btakeE 7 [10, 9, 8] (oi := _) (v := ?_) (by simp only [List.getElem?_toArray, List.getElem?_cons_succ, List.getElem?_cons_zero]; rfl) (by kernel_rfl) (by exact fun _ _ _ h => h) (by first | assumption | exact KB.refl _) (.inl ⟨by rfl, fun W hW => ?_⟩) ?_; rotate_left
              · (go_simp; first | done | with_reducible rfl)
              try simp only [Act.put, List.setIfInBounds_toArray, List.set_cons_zero, List.set_cons_succ]
              refine btakeE 8 [10, 9] (oi := _) (v := ?_) (by simp only [List.getElem?_toArray, List.getElem?_cons_succ, List.getElem?_cons_zero]; rfl) (by kernel_rfl) (by exact fun _ _ _ h => h) (by first | assumption | exact KB.refl _) (.inl ⟨by rfl, fun W hW => ?_⟩) ?_; rotate_left
              · (go_simp; first | done | with_reducible rfl)
              try simp only [Act.put, List.setIfInBounds_toArray, List.set_cons_zero, List.set_cons_succ]
              refine btakeE 9 [10] (oi := _) (v := ?_) (by simp only [List.getElem?_toArray, List.getElem?_cons_succ, List.getElem?_cons_zero]; rfl) (by kernel_rfl) (by exact fun _ _ _ h => h) (by first | assumption | exact KB.refl _) (.inl ⟨by rfl, fun W hW => ?_⟩) ?_; rotate_left
              · (go_simp; first | done | with_reducible rfl)
              try simp only [Act.put, List.setIfInBounds_toArray, List.set_cons_zero, List.set_cons_succ]
              refine btakeE 10 [] (oi := _) (v := ?_) (by simp only [List.getElem?_toArray, List.getElem?_cons_succ, List.getElem?_cons_zero]; rfl) (by kernel_rfl) (by exact fun _ _ _ h => h) (by first | assumption | exact KB.refl _) (.inl ⟨by rfl, fun W hW => ?_⟩) ?_; rotate_left
              · (go_simp; first | done | with_reducible rfl)
              try simp only [Act.put, List.setIfInBounds_toArray, List.set_cons_zero, List.set_cons_succ]
              -- 11: (*newsreel/flags.Map).Put
              refine blastE 11 (o := _) (by simp only [List.getElem?_toArray, List.getElem?_cons_succ, List.getElem?_cons_zero]; rfl) (by kernel_rfl) (by rfl) (by rfl) (fun K hK => ?_)
              go_simp
              refine (HP2.out w8.drew G8.out.f2.drew).mono ?_
              rintro e w9 ⟨he, hp9, hg9⟩
              obtain ⟨v9, rfl⟩ : ∃ v, e = .returned v := ⟨_, he⟩
              clear he
              rw [putIf_one, ← HJ.out.2.2.2.1] at hp9
              have G9 := Lib.hid ((G8.out.below ((Below.refl w8.heap.size w8).drew)).put2 hp9 hg9)
              clear hp9 hg9
              refine hK.out _ _ ?_; clear hK K
              try simp only [Act.put, List.setIfInBounds_toArray, List.set_cons_zero, List.set_cons_succ]
              refine bdoneE (by kernel_rfl) ?_
              clear f0 f1 f2 hS0 G8 HID HP2 hbj
              go_wp2_with fail
              go_roundw
              case rel => exact ⟨i + 1, by go_num, hlt, by rw [HF.out.1], by rw [HF.out.2], by rw [HF.out.2]; exact G9.out⟩
              case measure => simp [intOf]; omega
            | false =>
              cases eq with
              | true =>
                have hf : fwd l on (i + 1) = some ⟨⟨bp, bl, br⟩, bon || bi⟩ := by
                  rw [hf0, if_neg (by rw [HLT.out.1]; simp), if_pos (of_decide_eq_true HLT.out.2)]
                cases bon with
                | true =>
                  go_wp2_with fail
                  have HF := Lib.hid (And.intro (show (fwd l on (i + 1)).isSome = true from (by rw [hf]; rfl)) (show (fwd l on (i + 1)).getD zeroM = ⟨⟨bp, bl, br⟩, true⟩ from (by rw [hf]; rfl)))
                  clear hf hf0 hEq z0 z1 z2 x0 x1 x2 y0 y1 y2
                  have GC := Lib.hid (G7.out.1)
                  have HID := Lib.hid GC.out.ax
                  have cc0 := (GC.out.bw.cell (p := ⟨g, o + i * 3, none⟩) HC.out.2.2.2.1).trans HC.out.1
                  have cc1 := (GC.out.bw.cell (p := ⟨g, o + i * 3 + 1, none⟩) HC.out.2.2.2.1).trans HC.out.2.1
                  have cc2 := (GC.out.bw.cell (p := ⟨g, o + i * 3 + 2, none⟩) HC.out.2.2.2.1).trans HC.out.2.2.1
                  have f0 := cellB cc0
                  have f1 := cellB cc1
                  have f2 := cellB cc2
                  clear cc0 cc1 cc2
                  have HP1 := Lib.hid (fun W (h : FSt W m1 b1 (oneR x O)) => Put_any W m1 b1 _ h x ⟨p, ll, r⟩ bi (one_len x O))
                  have hS0 : KB w7.heap w7.drew := KB.refl _
                  refine bstartE (KB w7.heap) 11 (by kernel_rfl) ?_
                  refine btakeE 0 [] (oi := _) (v := ?_) (by simp only [List.getElem?_toArray, List.getElem?_cons_succ, List.getElem?_cons_zero]; rfl) (by kernel_rfl) (by exact fun _ _ _ h => h) (by first | assumption | exact KB.refl _) (.inl ⟨by rfl, fun W hW => ?_⟩) ?_; rotate_left
                  · (go_simp; first | done | with_reducible rfl)
                  try simp only [Act.put, List.setIfInBounds_toArray, List.set_cons_zero, List.set_cons_succ]
                  refine btakeE 1 [] (oi := _) (v := ?_) (by simp only [List.getElem?_toArray, List.getElem?_cons_succ, List.getElem?_cons_zero]; rfl) (by kernel_rfl) (by exact fun _ _ _ h => h) (by first | assumption | exact KB.refl _) (.inl ⟨by rfl, fun W hW => ?_⟩) ?_; rotate_left
                  · refine Eq.trans (ex_ld32 (us := bv x.l) (by rfl) (by rfl) (HID.out.kb hW) H32.out) ?_
                    with_reducible rfl
                  try simp only [Act.put, List.setIfInBounds_toArray, List.set_cons_zero, List.set_cons_succ]
                  refine btakeE 2 [5, 4] (oi := _) (v := ?_) (by simp only [List.getElem?_toArray, List.getElem?_cons_succ, List.getElem?_cons_zero]; rfl) (by kernel_rfl) (by exact fun _ _ _ h => h) (by first | assumption | exact KB.refl _) (.inl ⟨by rfl, fun W hW => ?_⟩) ?_; rotate_left
                  · (go_simp; first | done | with_reducible rfl)
                  try simp only [Act.put, List.setIfInBounds_toArray, List.set_cons_zero, List.set_cons_succ]
                  refine btakeE 3 [5, 4] (oi := _) (v := ?_) (by simp only [List.getElem?_toArray, List.getElem?_cons_succ, List.getElem?_cons_zero]; rfl) (by kernel_rfl) (by exact fun _ _ _ h => h) (by first | assumption | exact KB.refl _) (.inl ⟨by rfl, fun W hW => ?_⟩) ?_; rotate_left
                  · (go_simp; first | done | with_reducible rfl)
                  try simp only [Act.put, List.setIfInBounds_toArray, List.set_cons_zero, List.set_cons_succ]
                  refine btakeE 4 [5] (oi := _) (v := ?_) (by simp only [List.getElem?_toArray, List.getElem?_cons_succ, List.getElem?_cons_zero]; rfl) (by kernel_rfl) (by exact fun _ _ _ h => h) (by first | assumption | exact KB.refl _) (.inl ⟨by rfl, fun W hW => ?_⟩) ?_; rotate_left
                  · (go_simp; first | done | with_reducible rfl)
                  try simp only [Act.put, List.setIfInBounds_toArray, List.set_cons_zero, List.set_cons_succ]
                  refine btakeE 5 [] (oi := _) (v := ?_) (by simp only [List.getElem?_toArray, List.getElem?_cons_succ, List.getElem?_cons_zero]; rfl) (by kernel_rfl) (by exact fun _ _ _ h => h) (by first | assumption | exact KB.refl _) (.inl ⟨by rfl, fun W hW => ?_⟩) ?_; rotate_left
                  · (go_simp; first | done | with_reducible rfl)
                  try simp only [Act.put, List.setIfInBounds_toArray, List.set_cons_zero, List.set_cons_succ]
                  refine btakeE 6 [10, 9, 8] (oi := _) (v := ?_) (by simp only [List.getElem?_toArray, List.getElem?_cons_succ, List.getElem?_cons_zero]; rfl) (by kernel_rfl) (by exact fun _ _ _ h => h) (by first | assumption | exact KB.refl _) (.inl ⟨by rfl, fun W hW => ?_⟩) ?_; rotate_left
                  · (go_simp; first | done | with_reducible rfl)
                  try simp only [Act.put, List.setIfInBounds_toArray, List.set_cons_zero, List.set_cons_succ]
                  refine btakeE 7 [10, 9, 8] (oi := _) (v := ?_) (by simp only [List.getElem?_toArray, List.getElem?_cons_succ, List.getElem?_cons_zero]; rfl) (by kernel_rfl) (by exact fun _ _ _ h => h) (by first | assumption | exact KB.refl _) (.inl ⟨by rfl, fun W hW => ?_⟩) ?_; rotate_left
                  · (go_simp; first | done | with_reducible rfl)
                  try simp only [Act.put, List.setIfInBounds_toArray, List.set_cons_zero, List.set_cons_succ]
                  refine btakeE 8 [10, 9] (oi := _) (v := ?_) (by simp only [List.getElem?_toArray, List.getElem?_cons_succ, List.getElem?_cons_zero]; rfl) (by kernel_rfl) (by exact fun _ _ _ h => h) (by first | assumption | exact KB.refl _) (.inl ⟨by rfl, fun W hW => ?_⟩) ?_; rotate_left
                  · (go_simp; first | done | with_reducible rfl)
                  try simp only [Act.put, List.setIfInBounds_toArray, List.set_cons_zero, List.set_cons_succ]
                  refine btakeE 9 [10] (oi := _) (v := ?_) (by simp only [List.getElem?_toArray, List.getElem?_cons_succ, List.getElem?_cons_zero]; rfl) (by kernel_rfl) (by exact fun _ _ _ h => h) (by first | assumption | exact KB.refl _) (.inl ⟨by rfl, fun W hW => ?_⟩) ?_; rotate_left
                  · (go_simp; first | done | with_reducible rfl)
                  try simp only [Act.put, List.setIfInBounds_toArray, List.set_cons_zero, List.set_cons_succ]
                  refine btakeE 10 [] (oi := _) (v := ?_) (by simp only [List.getElem?_toArray, List.getElem?_cons_succ, List.getElem?_cons_zero]; rfl) (by kernel_rfl) (by exact fun _ _ _ h => h) (by first | assumption | exact KB.refl _) (.inl ⟨by rfl, fun W hW => ?_⟩) ?_; rotate_left
                  · (go_simp; first | done | with_reducible rfl)
                  try simp only [Act.put, List.setIfInBounds_toArray, List.set_cons_zero, List.set_cons_succ]
                  -- 11: (*newsreel/flags.Map).Put
                  refine blastE 11 (o := _) (by simp only [List.getElem?_toArray, List.getElem?_cons_succ, List.getElem?_cons_zero]; rfl) (by kernel_rfl) (by rfl) (by rfl) (fun K hK => ?_)
                  go_simp
                  refine (HP1.out w7.drew GC.out.f1.drew).mono ?_
                  rintro e w8 ⟨he, hp8, hg8⟩
                  obtain ⟨v8, rfl⟩ : ∃ v, e = .returned v := ⟨_, he⟩
                  clear he
                  rw [putIf_one, ← HO.out.2.2.2.2] at hp8
                  have G8 := Lib.hid ((GC.out.below ((Below.refl w7.heap.size w7).drew)).put1 hp8 hg8)
                  clear hp8 hg8
                  refine hK.out _ _ ?_; clear hK K
                  try simp only [Act.put, List.setIfInBounds_toArray, List.set_cons_zero, List.set_cons_succ]
                  refine bdoneE (by kernel_rfl) ?_
                  clear f0 f1 f2 hS0 GC HID HP1
                  have HID := Lib.hid G8.out.ax
                  have cc0 := (G8.out.bw.cell (p := ⟨g, o + jj * 3, none⟩) HC.out.2.2.2.1).trans HJ.out.1
                  have cc1 := (G8.out.bw.cell (p := ⟨g, o + jj * 3 + 1, none⟩) HC.out.2.2.2.1).trans HJ.out.2.1
                  have cc2 := (G8.out.bw.cell (p := ⟨g, o + jj * 3 + 2, none⟩) HC.out.2.2.2.1).trans HJ.out.2.2.1
                  have f0 := cellB cc0
                  have f1 := cellB cc1
                  have f2 := cellB cc2
                  clear cc0 cc1 cc2
                  have hbj := HJ.out.2.2.2.2
                  have HP2 := Lib.hid (fun W (h : FSt W m2 b2 (oneR x (bwd l on q n i))) => Put_any W m2 b2 _ h x ⟨pj, lj, rj⟩ bj (one_len x _))
                  have hS0 : KB w8.heap w8.drew := KB.refl _
                  have hj0 : (0 : Int) ≤ (jj : Int) := by omega
                  go_wp2_with fail
                  refine bstartE (KB w8.heap) 11 (by kernel_rfl) ?_
                  refine btakeE 0 [] (oi := _) (v := ?_) (by simp only [List.getElem?_toArray, List.getElem?_cons_succ, List.getElem?_cons_zero]; rfl) (by kernel_rfl) (by exact fun _ _ _ h => h) (by first | assumption | exact KB.refl _) (.inl ⟨by rfl, fun W hW => ?_⟩) ?_; rotate_left
                  · (go_simp; first | done | with_reducible rfl)
                  try simp only [Act.put, List.setIfInBounds_toArray, List.set_cons_zero, List.set_cons_succ]
                  refine btakeE 1 [] (oi := _) (v := ?_) (by simp only [List.getElem?_toArray, List.getElem?_cons_succ, List.getElem?_cons_zero]; rfl) (by kernel_rfl) (by exact fun _ _ _ h => h) (by first | assumption | exact KB.refl _) (.inl ⟨by rfl, fun W hW => ?_⟩) ?_; rotate_left
                  · refine Eq.trans (ex_ld32 (us := bv x.l) (by rfl) (by rfl) (HID.out.kb hW) H32.out) ?_
                    with_reducible rfl
                  try simp only [Act.put, List.setIfInBounds_toArray, List.set_cons_zero, List.set_cons_succ]
                  refine btakeE 2 [5, 4] (oi := _) (v := ?_) (by simp only [List.getElem?_toArray, List.getElem?_cons_succ, List.getElem?_cons_zero]; rfl) (by kernel_rfl) (by exact fun _ _ _ h => h) (by first | assumption | exact KB.refl _) (.inl ⟨by rfl, fun W hW => ?_⟩) ?_; rotate_left
                  · (go_simp; first | done | with_reducible rfl)
                  try simp only [Act.put, List.setIfInBounds_toArray, List.set_cons_zero, List.set_cons_succ]
                  refine btakeE 3 [5, 4] (oi := _) (v := ?_) (by simp only [List.getElem?_toArray, List.getElem?_cons_succ, List.getElem?_cons_zero]; rfl) (by kernel_rfl) (by exact fun _ _ _ h => h) (by first | assumption | exact KB.refl _) (.inl ⟨by rfl, fun W hW => ?_⟩) ?_; rotate_left
                  · (go_simp; first | done | with_reducible rfl)
                  try simp only [Act.put, List.setIfInBounds_toArray, List.set_cons_zero, List.set_cons_succ]
                  refine btakeE 4 [5] (oi := _) (v := ?_) (by simp only [List.getElem?_toArray, List.getElem?_cons_succ, List.getElem?_cons_zero]; rfl) (by kernel_rfl) (by exact fun _ _ _ h => h) (by first | assumption | exact KB.refl _) (.inl ⟨by rfl, fun W hW => ?_⟩) ?_; rotate_left
                  · (go_simp; first | done | with_reducible rfl)
                  try simp only [Act.put, List.setIfInBounds_toArray, List.set_cons_zero, List.set_cons_succ]
                  refine btakeE 5 [] (oi := _) (v := ?_) (by simp only [List.getElem?_toArray, List.getElem?_cons_succ, List.getElem?_cons_zero]; rfl) (by kernel_rfl) (by exact fun _ _ _ h => h) (by first | assumption | exact KB.refl _) (.inl ⟨by rfl, fun W hW => ?_⟩) ?_; rotate_left
                  · (go_simp; first | done | with_reducible rfl)
                  try simp only [Act.put, List.setIfInBounds_toArray, List.set_cons_zero, List.set_cons_succ]
                  refine btakeE 6 [10, 9, 8] (oi := _) (v := ?_) (by simp only [List.getElem?_toArray, List.getElem?_cons_succ, List.getElem?_cons_zero]; rfl) (by kernel_rfl) (by exact fun _ _ _ h => h) (by first | assumption | exact KB.refl _) (.inl ⟨by rfl, fun W hW => ?_⟩) ?_; rotate_left
                  · (go_simp; first | done | with_reducible rfl)
                  try simp only [Act.put, List.setIfInBounds_toArray, List.set_cons_zero, List.set_cons_succ]
                  refine btakeE 7 [10, 9, 8] (oi := _) (v := ?_) (by simp only [List.getElem?_toArray, List.getElem?_cons_succ, List.getElem?_cons_zero]; rfl) (by kernel_rfl) (by exact fun _ _ _ h => h) (by first | assumption | exact KB.refl _) (.inl ⟨by rfl, fun W hW => ?_⟩) ?_; rotate_left
                  · (go_simp; first | done | with_reducible rfl)
                  try simp only [Act.put, List.setIfInBounds_toArray, List.set_cons_zero, List.set_cons_succ]
                  refine btakeE 8 [10, 9] (oi := _) (v := ?_) (by simp only [List.getElem?_toArray, List.getElem?_cons_succ, List.getElem?_cons_zero]; rfl) (by kernel_rfl) (by exact fun _ _ _ h => h) (by first | assumption | exact KB.refl _) (.inl ⟨by rfl, fun W hW => ?_⟩) ?_; rotate_left
                  · (go_simp; first | done | with_reducible rfl)
                  try simp only [Act.put, List.setIfInBounds_toArray, List.set_cons_zero, List.set_cons_succ]
                  refine btakeE 9 [10] (oi := _) (v := ?_) (by simp only [List.getElem?_toArray, List.getElem?_cons_succ, List.getElem?_cons_zero]; rfl) (by kernel_rfl) (by exact fun _ _ _ h => h) (by first | assumption | exact KB.refl _) (.inl ⟨by rfl, fun W hW => ?_⟩) ?_; rotate_left
                  · (go_simp; first | done | with_reducible rfl)
                  try simp only [Act.put, List.setIfInBounds_toArray, List.set_cons_zero, List.set_cons_succ]
                  refine btakeE 10 [] (oi := _) (v := ?_) (by simp only [List.getElem?_toArray, List.getElem?_cons_succ, List.getElem?_cons_zero]; rfl) (by kernel_rfl) (by exact fun _ _ _ h => h) (by first | assumption | exact KB.refl _) (.inl ⟨by rfl, fun W hW => ?_⟩) ?_; rotate_left
                  · (go_simp; first | done | with_reducible rfl)
                  try simp only [Act.put, List.setIfInBounds_toArray, List.set_cons_zero, List.set_cons_succ]
                  -- 11: (*newsreel/flags.Map).Put
                  refine blastE 11 (o := _) (by simp only [List.getElem?_toArray, List.getElem?_cons_succ, List.getElem?_cons_zero]; rfl) (by kernel_rfl) (by rfl) (by rfl) (fun K hK => ?_)
                  go_simp
                  refine (HP2.out w8.drew G8.out.f2.drew).mono ?_
                  rintro e w9 ⟨he, hp9, hg9⟩
                  obtain ⟨v9, rfl⟩ : ∃ v, e = .returned v := ⟨_, he⟩
                  clear he
                  rw [putIf_one, ← HJ.out.2.2.2.1] at hp9
                  have G9 := Lib.hid ((G8.out.below ((Below.refl w8.heap.size w8).drew)).put2 hp9 hg9)
                  clear hp9 hg9
                  refine hK.out _ _ ?_; clear hK K
                  try simp only [Act.put, List.setIfInBounds_toArray, List.set_cons_zero, List.set_cons_succ]
                  refine bdoneE (by kernel_rfl) ?_
                  clear f0 f1 f2 hS0 G8 HID HP2 hbj
                  go_wp2_with fail
                  go_roundw
                  case rel => exact ⟨i + 1, by go_num, hlt, by rw [HF.out.1], by rw [HF.out.2], by rw [HF.out.2]; exact G9.out⟩
                  case measure => simp [intOf]; omega
                | false =>
                  go_wp2_with fail
                  have HF := Lib.hid (And.intro (show (fwd l on (i + 1)).isSome = true from (by rw [hf]; rfl)) (show (fwd l on (i + 1)).getD zeroM = ⟨⟨bp, bl, br⟩, bi⟩ from (by rw [hf]; rfl)))
                  clear hf hf0 hEq z0 z1 z2 x0 x1 x2 y0 y1 y2
                  have GC := Lib.hid (G7.out.1)
                  have HID := Lib.hid GC.out.ax
                  have cc0 := (GC.out.bw.cell (p := ⟨g, o + i * 3, none⟩) HC.out.2.2.2.1).trans HC.out.1
                  have cc1 := (GC.out.bw.cell (p := ⟨g, o + i * 3 + 1, none⟩) HC.out.2.2.2.1).trans HC.out.2.1
                  have cc2 := (GC.out.bw.cell (p := ⟨g, o + i * 3 + 2, none⟩) HC.out.2.2.2.1).trans HC.out.2.2.1
                  have f0 := cellB cc0
                  have f1 := cellB cc1
                  have f2 := cellB cc2
                  clear cc0 cc1 cc2
                  have HP1 := Lib.hid (fun W (h : FSt W m1 b1 (oneR x O)) => Put_any W m1 b1 _ h x ⟨p, ll, r⟩ bi (one_len x O))
                  have hS0 : KB w7.heap w7.drew := KB.refl _
                  refine bstartE (KB w7.heap) 11 (by kernel_rfl) ?_
                  refine btakeE 0 [] (oi := _) (v := ?_) (by simp only [List.getElem?_toArray, List.getElem?_cons_succ, List.getElem?_cons_zero]; rfl) (by kernel_rfl) (by exact fun _ _ _ h => h) (by first | assumption | exact KB.refl _) (.inl ⟨by rfl, fun W hW => ?_⟩) ?_; rotate_left
                  · (go_simp; first | done | with_reducible rfl)
                  try simp only [Act.put, List.setIfInBounds_toArray, List.set_cons_zero, List.set_cons_succ]
                  refine btakeE 1 [] (oi := _) (v := ?_) (by simp only [List.getElem?_toArray, List.getElem?_cons_succ, List.getElem?_cons_zero]; rfl) (by kernel_rfl) (by exact fun _ _ _ h => h) (by first | assumption | exact KB.refl _) (.inl ⟨by rfl, fun W hW => ?_⟩) ?_; rotate_left
                  · refine Eq.trans (ex_ld32 (us := bv x.l) (by rfl) (by rfl) (HID.out.kb hW) H32.out) ?_
                    with_reducible rfl
                  try simp only [Act.put, List.setIfInBounds_toArray, List.set_cons_zero, List.set_cons_succ]
                  refine btakeE 2 [5, 4] (oi := _) (v := ?_) (by simp only [List.getElem?_toArray, List.getElem?_cons_succ, List.getElem?_cons_zero]; rfl) (by kernel_rfl) (by exact fun _ _ _ h => h) (by first | assumption | exact KB.refl _) (.inl ⟨by rfl, fun W hW => ?_⟩) ?_; rotate_left
                  · (go_simp; first | done | with_reducible rfl)
                  try simp only [Act.put, List.setIfInBounds_toArray, List.set_cons_zero, List.set_cons_succ]
                  refine btakeE 3 [5, 4] (oi := _) (v := ?_) (by simp only [List.getElem?_toArray, List.getElem?_cons_succ, List.getElem?_cons_zero]; rfl) (by kernel_rfl) (by exact fun _ _ _ h => h) (by first | assumption | exact KB.refl _) (.inl ⟨by rfl, fun W hW => ?_⟩) ?_; rotate_left
                  · (go_simp; first | done | with_reducible rfl)
                  try simp only [Act.put, List.setIfInBounds_toArray, List.set_cons_zero, List.set_cons_succ]
                  refine btakeE 4 [5] (oi := _) (v := ?_) (by simp only [List.getElem?_toArray, List.getElem?_cons_succ, List.getElem?_cons_zero]; rfl) (by kernel_rfl) (by exact fun _ _ _ h => h) (by first | assumption | exact KB.refl _) (.inl ⟨by rfl, fun W hW => ?_⟩) ?_; rotate_left
                  · (go_simp; first | done | with_reducible rfl)
                  try simp only [Act.put, List.setIfInBounds_toArray, List.set_cons_zero, List.set_cons_succ]
                  refine btakeE 5 [] (oi := _) (v := ?_) (by simp only [List.getElem?_toArray, List.getElem?_cons_succ, List.getElem?_cons_zero]; rfl) (by kernel_rfl) (by exact fun _ _ _ h => h) (by first | assumption | exact KB.refl _) (.inl ⟨by rfl, fun W hW => ?_⟩) ?_; rotate_left
                  · (go_simp; first | done | with_reducible rfl)
                  try simp only [Act.put, List.setIfInBounds_toArray, List.set_cons_zero, List.set_cons_succ]
                  refine btakeE 6 [10, 9, 8] (oi := _) (v := ?_) (by simp only [List.getElem?_toArray, List.getElem?_cons_succ, List.getElem?_cons_zero]; rfl) (by kernel_rfl) (by exact fun _ _ _ h => h) (by first | assumption | exact KB.refl _) (.inl ⟨by rfl, fun W hW => ?_⟩) ?_; rotate_left
                  · (go_simp; first | done | with_reducible rfl)
                  try simp only [Act.put, List.setIfInBounds_toArray, List.set_cons_zero, List.set_cons_succ]
                  refine btakeE 7 [10, 9, 8] (oi := _) (v := ?_) (by simp only [List.getElem?_toArray, List.getElem?_cons_succ, List.getElem?_cons_zero]; rfl) (by kernel_rfl) (by exact fun _ _ _ h => h) (by first | assumption | exact KB.refl _) (.inl ⟨by rfl, fun W hW => ?_⟩) ?_; rotate_left
                  · (go_simp; first | done | with_reducible rfl)
                  try simp only [Act.put, List.setIfInBounds_toArray, List.set_cons_zero, List.set_cons_succ]
                  refine btakeE 8 [10, 9] (oi := _) (v := ?_) (by simp only [List.getElem?_toArray, List.getElem?_cons_succ, List.getElem?_cons_zero]; rfl) (by kernel_rfl) (by exact fun _ _ _ h => h) (by first | assumption | exact KB.refl _) (.inl ⟨by rfl, fun W hW => ?_⟩) ?_; rotate_left
                  · (go_simp; first | done | with_reducible rfl)
                  try simp only [Act.put, List.setIfInBounds_toArray, List.set_cons_zero, List.set_cons_succ]
                  refine btakeE 9 [10] (oi := _) (v := ?_) (by simp only [List.getElem?_toArray, List.getElem?_cons_succ, List.getElem?_cons_zero]; rfl) (by kernel_rfl) (by exact fun _ _ _ h => h) (by first | assumption | exact KB.refl _) (.inl ⟨by rfl, fun W hW => ?_⟩) ?_; rotate_left
                  · (go_simp; first | done | with_reducible rfl)
                  try simp only [Act.put, List.setIfInBounds_toArray, List.set_cons_zero, List.set_cons_succ]
                  refine btakeE 10 [] (oi := _) (v := ?_) (by simp only [List.getElem?_toArray, List.getElem?_cons_succ, List.getElem?_cons_zero]; rfl) (by kernel_rfl) (by exact fun _ _ _ h => h) (by first | assumption | exact KB.refl _) (.inl ⟨by rfl, fun W hW => ?_⟩) ?_; rotate_left
                  · (go_simp; first | done | with_reducible rfl)
                  try simp only [Act.put, List.setIfInBounds_toArray, List.set_cons_zero, List.set_cons_succ]
                  -- 11: (*newsreel/flags.Map).Put
                  refine blastE 11 (o := _) (by simp only [List.getElem?_toArray, List.getElem?_cons_succ, List.getElem?_cons_zero]; rfl) (by kernel_rfl) (by rfl) (by rfl) (fun K hK => ?_)
                  go_simp
                  refine (HP1.out w7.drew GC.out.f1.drew).mono ?_
                  rintro e w8 ⟨he, hp8, hg8⟩
                  obtain ⟨v8, rfl⟩ : ∃ v, e = .returned v := ⟨_, he⟩
                  clear he
                  rw [putIf_one, ← HO.out.2.2.2.2] at hp8
                  have G8 := Lib.hid ((GC.out.below ((Below.refl w7.heap.size w7).drew)).put1 hp8 hg8)
                  clear hp8 hg8
                  refine hK.out _ _ ?_; clear hK K
                  try simp only [Act.put, List.setIfInBounds_toArray, List.set_cons_zero, List.set_cons_succ]
                  refine bdoneE (by kernel_rfl) ?_
                  clear f0 f1 f2 hS0 GC HID HP1
                  have HID := Lib.hid G8.out.ax
                  have cc0 := (G8.out.bw.cell (p := ⟨g, o + jj * 3, none⟩) HC.out.2.2.2.1).trans HJ.out.1
                  have cc1 := (G8.out.bw.cell (p := ⟨g, o + jj * 3 + 1, none⟩) HC.out.2.2.2.1).trans HJ.out.2.1
                  have cc2 := (G8.out.bw.cell (p := ⟨g, o + jj * 3 + 2, none⟩) HC.out.2.2.2.1).trans HJ.out.2.2.1
                  have f0 := cellB cc0
                  have f1 := cellB cc1
                  have f2 := cellB cc2
                  clear cc0 cc1 cc2
                  have hbj := HJ.out.2.2.2.2
                  have HP2 := Lib.hid (fun W (h : FSt W m2 b2 (oneR x (bwd l on q n i))) => Put_any W m2 b2 _ h x ⟨pj, lj, rj⟩ bj (one_len x _))
                  have hS0 : KB w8.heap w8.drew := KB.refl _
                  have hj0 : (0 : Int) ≤ (jj : Int) := by omega
                  go_wp2_with fail
                  refine bstartE (KB w8.heap) 11 (by kernel_rfl) ?_
                  refine btakeE 0 [] (oi := _) (v := ?_) (by simp only [List.getElem?_toArray, List.getElem?_cons_succ, List.getElem?_cons_zero]; rfl) (by kernel_rfl) (by exact fun _ _ _ h => h) (by first | assumption | exact KB.refl _) (.inl ⟨by rfl, fun W hW => ?_⟩) ?_; rotate_left
                  · (go_simp; first | done | with_reducible rfl)
                  try simp only [Act.put, List.setIfInBounds_toArray, List.set_cons_zero, List.set_cons_succ]
                  refine btakeE 1 [] (oi := _) (v := ?_) (by simp only [List.getElem?_toArray, List.getElem?_cons_succ, List.getElem?_cons_zero]; rfl) (by kernel_rfl) (by exact fun _ _ _ h => h) (by first | assumption | exact KB.refl _) (.inl ⟨by rfl, fun W hW => ?_⟩) ?_; rotate_left
                  · refine Eq.trans (ex_ld32 (us := bv x.l) (by rfl) (by rfl) (HID.out.kb hW) H32.out) ?_
                    with_reducible rfl
                  try simp only [Act.put, List.setIfInBounds_toArray, List.set_cons_zero, List.set_cons_succ]
                  refine btakeE 2 [5, 4] (oi := _) (v := ?_) (by simp only [List.getElem?_toArray, List.getElem?_cons_succ, List.getElem?_cons_zero]; rfl) (by kernel_rfl) (by exact fun _ _ _ h => h) (by first | assumption | exact KB.refl _) (.inl ⟨by rfl, fun W hW => ?_⟩) ?_; rotate_left
                  · (go_simp; first | done | with_reducible rfl)
                  try simp only [Act.put, List.setIfInBounds_toArray, List.set_cons_zero, List.set_cons_succ]
                  refine btakeE 3 [5, 4] (oi := _) (v := ?_) (by simp only [List.getElem?_toArray, List.getElem?_cons_succ, List.getElem?_cons_zero]; rfl) (by kernel_rfl) (by exact fun _ _ _ h => h) (by first | assumption | exact KB.refl _) (.inl ⟨by rfl, fun W hW => ?_⟩) ?_; rotate_left
                  · (go_simp; first | done | with_reducible rfl)
                  try simp only [Act.put, List.setIfInBounds_toArray, List.set_cons_zero, List.set_cons_succ]
                  refine btakeE 4 [5] (oi := _) (v := ?_) (by simp only [List.getElem?_toArray, List.getElem?_cons_succ, List.getElem?_cons_zero]; rfl) (by kernel_rfl) (by exact fun _ _ _ h => h) (by first | assumption | exact KB.refl _) (.inl ⟨by rfl, fun W hW => ?_⟩) ?_; rotate_left
                  · (go_simp; first | done | with_reducible rfl)
                  try simp only [Act.put, List.setIfInBounds_toArray, List.set_cons_zero, List.set_cons_succ]
                  refine btakeE 5 [] (oi := _) (v := ?_) (by simp only [List.getElem?_toArray, List.getElem?_cons_succ, List.getElem?_cons_zero]; rfl) (by kernel_rfl) (by exact fun _ _ _ h => h) (by first | assumption | exact KB.refl _) (.inl ⟨by rfl, fun W hW => ?_⟩) ?_; rotate_left
                  · (go_simp; first | done | with_reducible rfl)
                  try simp only [Act.put, List.setIfInBounds_toArray, List.set_cons_zero, List.set_cons_succ]
                  refine btakeE 6 [10, 9, 8] (oi := _) (v := ?_) (by simp only [List.getElem?_toArray, List.getElem?_cons_succ, List.getElem?_cons_zero]; rfl) (by kernel_rfl) (by exact fun _ _ _ h => h) (by first | assumption | exact KB.refl _) (.inl ⟨by rfl, fun W hW => ?_⟩) ?_; rotate_left
                  · (go_simp; first | done | with_reducible rfl)
                  try simp only [Act.put, List.setIfInBounds_toArray, List.set_cons_zero, List.set_cons_succ]
                  refine btakeE 7 [10, 9, 8] (oi := _) (v := ?_) (by simp only [List.getElem?_toArray, List.getElem?_cons_succ, List.getElem?_cons_zero]; rfl) (by kernel_rfl) (by exact fun _ _ _ h => h) (by first | assumption | exact KB.refl _) (.inl ⟨by rfl, fun W hW => ?_⟩) ?_; rotate_left
                  · (go_simp; first | done | with_reducible rfl)
                  try simp only [Act.put, List.setIfInBounds_toArray, List.set_cons_zero, List.set_cons_succ]
                  refine btakeE 8 [10, 9] (oi := _) (v := ?_) (by simp only [List.getElem?_toArray, List.getElem?_cons_succ, List.getElem?_cons_zero]; rfl) (by kernel_rfl) (by exact fun _ _ _ h => h) (by first | assumption | exact KB.refl _) (.inl ⟨by rfl, fun W hW => ?_⟩) ?_; rotate_left
                  · (go_simp; first | done | with_reducible rfl)
                  try simp only [Act.put, List.setIfInBounds_toArray, List.set_cons_zero, List.set_cons_succ]
                  refine btakeE 9 [10] (oi := _) (v := ?_) (by simp only [List.getElem?_toArray, List.getElem?_cons_succ, List.getElem?_cons_zero]; rfl) (by kernel_rfl) (by exact fun _ _ _ h => h) (by first | assumption | exact KB.refl _) (.inl ⟨by rfl, fun W hW => ?_⟩) ?_; rotate_left
                  · (go_simp; first | done | with_reducible rfl)
                  try simp only [Act.put, List.setIfInBounds_toArray, List.set_cons_zero, List.set_cons_succ]
                  refine btakeE 10 [] (oi := _) (v := ?_) (by simp only [List.getElem?_toArray, List.getElem?_cons_succ, List.getElem?_cons_zero]; rfl) (by kernel_rfl) (by exact fun _ _ _ h => h) (by first | assumption | exact KB.refl _) (.inl ⟨by rfl, fun W hW => ?_⟩) ?_; rotate_left
                  · (go_simp; first | done | with_reducible rfl)
                  try simp only [Act.put, List.setIfInBounds_toArray, List.set_cons_zero, List.set_cons_succ]
                  -- 11: (*newsreel/flags.Map).Put
                  refine blastE 11 (o := _) (by simp only [List.getElem?_toArray, List.getElem?_cons_succ, List.getElem?_cons_zero]; rfl) (by kernel_rfl) (by rfl) (by rfl) (fun K hK => ?_)
                  go_simp
                  refine (HP2.out w8.drew G8.out.f2.drew).mono ?_
                  rintro e w9 ⟨he, hp9, hg9⟩
                  obtain ⟨v9, rfl⟩ : ∃ v, e = .returned v := ⟨_, he⟩
                  clear he
                  rw [putIf_one, ← HJ.out.2.2.2.1] at hp9
                  have G9 := Lib.hid ((G8.out.below ((Below.refl w8.heap.size w8).drew)).put2 hp9 hg9)
                  clear hp9 hg9
                  refine hK.out _ _ ?_; clear hK K
                  try simp only [Act.put, List.setIfInBounds_toArray, List.set_cons_zero, List.set_cons_succ]
                  refine bdoneE (by kernel_rfl) ?_
                  clear f0 f1 f2 hS0 G8 HID HP2 hbj
                  go_wp2_with fail
                  go_roundw
                  case rel => exact ⟨i + 1, by go_num, hlt, by rw [HF.out.1], by rw [HF.out.2], by rw [HF.out.2]; exact G9.out⟩
                  case measure => simp [intOf]; omega
              | false =>
                have hf : fwd l on (i + 1) = some ⟨⟨bp, bl, br⟩, bon⟩ := by
                  rw [hf0, if_neg (by rw [HLT.out.1]; simp), if_neg (of_decide_eq_false HLT.out.2)]
                go_wp2_with fail
                have HF := Lib.hid (And.intro (show (fwd l on (i + 1)).isSome = true from (by rw [hf]; rfl)) (show (fwd l on (i + 1)).getD zeroM = ⟨⟨bp, bl, br⟩, bon⟩ from (by rw [hf]; rfl)))
                clear hf hf0 hEq z0 z1 z2 x0 x1 x2 y0 y1 y2
                have GC := Lib.hid (G7.out.1)
                have HID := Lib.hid GC.out.ax
                have cc0 := (GC.out.bw.cell (p := ⟨g, o + i * 3, none⟩) HC.out.2.2.2.1).trans HC.out.1
                have cc1 := (GC.out.bw.cell (p := ⟨g, o + i * 3 + 1, none⟩) HC.out.2.2.2.1).trans HC.out.2.1
                have cc2 := (GC.out.bw.cell (p := ⟨g, o + i * 3 + 2, none⟩) HC.out.2.2.2.1).trans HC.out.2.2.1
                have f0 := cellB cc0
                have f1 := cellB cc1
                have f2 := cellB cc2
                clear cc0 cc1 cc2
                have HP1 := Lib.hid (fun W (h : FSt W m1 b1 (oneR x O)) => Put_any W m1 b1 _ h x ⟨p, ll, r⟩ bi (one_len x O))
                have hS0 : KB w7.heap w7.drew := KB.refl _
                refine bstartE (KB w7.heap) 11 (by kernel_rfl) ?_
                refine btakeE 0 [] (oi := _) (v := ?_) (by simp only [List.getElem?_toArray, List.getElem?_cons_succ, List.getElem?_cons_zero]; rfl) (by kernel_rfl) (by exact fun _ _ _ h => h) (by first | assumption | exact KB.refl _) (.inl ⟨by rfl, fun W hW => ?_⟩) ?_; rotate_left
                · (go_simp; first | done | with_reducible rfl)
                try simp only [Act.put, List.setIfInBounds_toArray, List.set_cons_zero, List.set_cons_succ]
                refine btakeE 1 [] (oi := _) (v := ?_) (by simp only [List.getElem?_toArray, List.getElem?_cons_succ, List.getElem?_cons_zero]; rfl) (by kernel_rfl) (by exact fun _ _ _ h => h) (by first | assumption | exact KB.refl _) (.inl ⟨by rfl, fun W hW => ?_⟩) ?_; rotate_left
                · refine Eq.trans (ex_ld32 (us := bv x.l) (by rfl) (by rfl) (HID.out.kb hW) H32.out) ?_
                  with_reducible rfl
                try simp only [Act.put, List.setIfInBounds_toArray, List.set_cons_zero, List.set_cons_succ]
                refine btakeE 2 [5, 4] (oi := _) (v := ?_) (by simp only [List.getElem?_toArray, List.getElem?_cons_succ, List.getElem?_cons_zero]; rfl) (by kernel_rfl) (by exact fun _ _ _ h => h) (by first | assumption | exact KB.refl _) (.inl ⟨by rfl, fun W hW => ?_⟩) ?_; rotate_left
                · (go_simp; first | done | with_reducible rfl)
                try simp only [Act.put, List.setIfInBounds_toArray, List.set_cons_zero, List.set_cons_succ]
                refine btakeE 3 [5, 4] (oi := _) (v := ?_) (by simp only [List.getElem?_toArray, List.getElem?_cons_succ, List.getElem?_cons_zero]; rfl) (by kernel_rfl) (by exact fun _ _ _ h => h) (by first | assumption | exact KB.refl _) (.inl ⟨by rfl, fun W hW => ?_⟩) ?_; rotate_left
                · (go_simp; first | done | with_reducible rfl)
                try simp only [Act.put, List.setIfInBounds_toArray, List.set_cons_zero, List.set_cons_succ]
                refine btakeE 4 [5] (oi := _) (v := ?_) (by simp only [List.getElem?_toArray, List.getElem?_cons_succ, List.getElem?_cons_zero]; rfl) (by kernel_rfl) (by exact fun _ _ _ h => h) (by first | assumption | exact KB.refl _) (.inl ⟨by rfl, fun W hW => ?_⟩) ?_; rotate_left
                · (go_simp; first | done | with_reducible rfl)
                try simp only [Act.put, List.setIfInBounds_toArray, List.set_cons_zero, List.set_cons_succ]
                refine btakeE 5 [] (oi := _) (v := ?_) (by simp only [List.getElem?_toArray, List.getElem?_cons_succ, List.getElem?_cons_zero]; rfl) (by kernel_rfl) (by exact fun _ _ _ h => h) (by first | assumption | exact KB.refl _) (.inl ⟨by rfl, fun W hW => ?_⟩) ?_; rotate_left
                · (go_simp; first | done | with_reducible rfl)
                try simp only [Act.put, List.setIfInBounds_toArray, List.set_cons_zero, List.set_cons_succ]
                refine btakeE 6 [10, 9, 8] (oi := _) (v := ?_) (by simp only [List.getElem?_toArray, List.getElem?_cons_succ, List.getElem?_cons_zero]; rfl) (by kernel_rfl) (by exact fun _ _ _ h => h) (by first | assumption | exact KB.refl _) (.inl ⟨by rfl, fun W hW => ?_⟩) ?_; rotate_left
                · (go_simp; first | done | with_reducible rfl)
                try simp only [Act.put, List.setIfInBounds_toArray, List.set_cons_zero, List.set_cons_succ]
                refine btakeE 7 [10, 9, 8] (oi := _) (v := ?_) (by simp only [List.getElem?_toArray, List.getElem?_cons_succ, List.getElem?_cons_zero]; rfl) (by kernel_rfl) (by exact fun _ _ _ h => h) (by first | assumption | exact KB.refl _) (.inl ⟨by rfl, fun W hW => ?_⟩) ?_; rotate_left
                · (go_simp; first | done | with_reducible rfl)
                try simp only [Act.put, List.setIfInBounds_toArray, List.set_cons_zero, List.set_cons_succ]
                refine btakeE 8 [10, 9] (oi := _) (v := ?_) (by simp only [List.getElem?_toArray, List.getElem?_cons_succ, List.getElem?_cons_zero]; rfl) (by kernel_rfl) (by exact fun _ _ _ h => h) (by first | assumption | exact KB.refl _) (.inl ⟨by rfl, fun W hW => ?_⟩) ?_; rotate_left
                · (go_simp; first | done | with_reducible rfl)
                try simp only [Act.put, List.setIfInBounds_toArray, List.set_cons_zero, List.set_cons_succ]
                refine btakeE 9 [10] (oi := _) (v := ?_) (by simp only [List.getElem?_toArray, List.getElem?_cons_succ, List.getElem?_cons_zero]; rfl) (by kernel_rfl) (by exact fun _ _ _ h => h) (by first | assumption | exact KB.refl _) (.inl ⟨by rfl, fun W hW => ?_⟩) ?_; rotate_left
                · (go_simp; first | done | with_reducible rfl)
                try simp only [Act.put, List.setIfInBounds_toArray, List.set_cons_zero, List.set_cons_succ]
                refine btakeE 10 [] (oi := _) (v := ?_) (by simp only [List.getElem?_toArray, List.getElem?_cons_succ, List.getElem?_cons_zero]; rfl) (by kernel_rfl) (by exact fun _ _ _ h => h) (by first | assumption | exact KB.refl _) (.inl ⟨by rfl, fun W hW => ?_⟩) ?_; rotate_left
                · (go_simp; first | done | with_reducible rfl)
                try simp only [Act.put, List.setIfInBounds_toArray, List.set_cons_zero, List.set_cons_succ]
                -- 11: (*newsreel/flags.Map).Put
                refine blastE 11 (o := _) (by simp only [List.getElem?_toArray, List.getElem?_cons_succ, List.getElem?_cons_zero]; rfl) (by kernel_rfl) (by rfl) (by rfl) (fun K hK => ?_)
                go_simp
                refine (HP1.out w7.drew GC.out.f1.drew).mono ?_
                rintro e w8 ⟨he, hp8, hg8⟩
                obtain ⟨v8, rfl⟩ : ∃ v, e = .returned v := ⟨_, he⟩
                clear he
                rw [putIf_one, ← HO.out.2.2.2.2] at hp8
                have G8 := Lib.hid ((GC.out.below ((Below.refl w7.heap.size w7).drew)).put1 hp8 hg8)
                clear hp8 hg8
                refine hK.out _ _ ?_; clear hK K
                try simp only [Act.put, List.setIfInBounds_toArray, List.set_cons_zero, List.set_cons_succ]
                refine bdoneE (by kernel_rfl) ?_
                clear f0 f1 f2 hS0 GC HID HP1
                have HID := Lib.hid G8.out.ax
                have cc0 := (G8.out.bw.cell (p := ⟨g, o + jj * 3, none⟩) HC.out.2.2.2.1).trans HJ.out.1
                have cc1 := (G8.out.bw.cell (p := ⟨g, o + jj * 3 + 1, none⟩) HC.out.2.2.2.1).trans HJ.out.2.1
                have cc2 := (G8.out.bw.cell (p := ⟨g, o + jj * 3 + 2, none⟩) HC.out.2.2.2.1).trans HJ.out.2.2.1
                have f0 := cellB cc0
                have f1 := cellB cc1
                have f2 := cellB cc2
                clear cc0 cc1 cc2
                have hbj := HJ.out.2.2.2.2
                have HP2 := Lib.hid (fun W (h : FSt W m2 b2 (oneR x (bwd l on q n i))) => Put_any W m2 b2 _ h x ⟨pj, lj, rj⟩ bj (one_len x _))
                have hS0 : KB w8.heap w8.drew := KB.refl _
                have hj0 : (0 : Int) ≤ (jj : Int) := by omega
                go_wp2_with fail
                refine bstartE (KB w8.heap) 11 (by kernel_rfl) ?_
                refine btakeE 0 [] (oi := _) (v := ?_) (by simp only [List.getElem?_toArray, List.getElem?_cons_succ, List.getElem?_cons_zero]; rfl) (by kernel_rfl) (by exact fun _ _ _ h => h) (by first | assumption | exact KB.refl _) (.inl ⟨by rfl, fun W hW => ?_⟩) ?_; rotate_left
                · (go_simp; first | done | with_reducible rfl)
                try simp only [Act.put, List.setIfInBounds_toArray, List.set_cons_zero, List.set_cons_succ]
                refine btakeE 1 [] (oi := _) (v := ?_) (by simp only [List.getElem?_toArray, List.getElem?_cons_succ, List.getElem?_cons_zero]; rfl) (by kernel_rfl) (by exact fun _ _ _ h => h) (by first | assumption | exact KB.refl _) (.inl ⟨by rfl, fun W hW => ?_⟩) ?_; rotate_left
                · refine Eq.trans (ex_ld32 (us := bv x.l) (by rfl) (by rfl) (HID.out.kb hW) H32.out) ?_
                  with_reducible rfl
                try simp only [Act.put, List.setIfInBounds_toArray, List.set_cons_zero, List.set_cons_succ]
                refine btakeE 2 [5, 4] (oi := _) (v := ?_) (by simp only [List.getElem?_toArray, List.getElem?_cons_succ, List.getElem?_cons_zero]; rfl) (by kernel_rfl) (by exact fun _ _ _ h => h) (by first | assumption | exact KB.refl _) (.inl ⟨by rfl, fun W hW => ?_⟩) ?_; rotate_left
                · (go_simp; first | done | with_reducible rfl)
                try simp only [Act.put, List.setIfInBounds_toArray, List.set_cons_zero, List.set_cons_succ]
                refine btakeE 3 [5, 4] (oi := _) (v := ?_) (by simp only [List.getElem?_toArray, List.getElem?_cons_succ, List.getElem?_cons_zero]; rfl) (by kernel_rfl) (by exact fun _ _ _ h => h) (by first | assumption | exact KB.refl _) (.inl ⟨by rfl, fun W hW => ?_⟩) ?_; rotate_left
                · (go_simp; first | done | with_reducible rfl)
                try simp only [Act.put, List.setIfInBounds_toArray, List.set_cons_zero, List.set_cons_succ]
                refine btakeE 4 [5] (oi := _) (v := ?_) (by simp only [List.getElem?_toArray, List.getElem?_cons_succ, List.getElem?_cons_zero]; rfl) (by kernel_rfl) (by exact fun _ _ _ h => h) (by first | assumption | exact KB.refl _) (.inl ⟨by rfl, fun W hW => ?_⟩) ?_; rotate_left
                · (go_simp; first | done | with_reducible rfl)
                try simp only [Act.put, List.setIfInBounds_toArray, List.set_cons_zero, List.set_cons_succ]
                refine btakeE 5 [] (oi := _) (v := ?_) (by simp only [List.getElem?_toArray, List.getElem?_cons_succ, List.getElem?_cons_zero]; rfl) (by kernel_rfl) (by exact fun _ _ _ h => h) (by first | assumption | exact KB.refl _) (.inl ⟨by rfl, fun W hW => ?_⟩) ?_; rotate_left
                · (go_simp; first | done | with_reducible rfl)
                try simp only [Act.put, List.setIfInBounds_toArray, List.set_cons_zero, List.set_cons_succ]
                refine btakeE 6 [10, 9, 8] (oi := _) (v := ?_) (by simp only [List.getElem?_toArray, List.getElem?_cons_succ, List.getElem?_cons_zero]; rfl) (by kernel_rfl) (by exact fun _ _ _ h => h) (by first | assumption | exact KB.refl _) (.inl ⟨by rfl, fun W hW => ?_⟩) ?_; rotate_left
                · (go_simp; first | done | with_reducible rfl)
                try simp only [Act.put, List.setIfInBounds_toArray, List.set_cons_zero, List.set_cons_succ]
                refine btakeE 7 [10, 9, 8] (oi := _) (v := ?_) (by simp only [List.getElem?_toArray, List.getElem?_cons_succ, List.getElem?_cons_zero]; rfl) (by kernel_rfl) (by exact fun _ _ _ h => h) (by first | assumption | exact KB.refl _) (.inl ⟨by rfl, fun W hW => ?_⟩) ?_; rotate_left
                · (go_simp; first | done | with_reducible rfl)
                try simp only [Act.put, List.setIfInBounds_toArray, List.set_cons_zero, List.set_cons_succ]
                refine btakeE 8 [10, 9] (oi := _) (v := ?_) (by simp only [List.getElem?_toArray, List.getElem?_cons_succ, List.getElem?_cons_zero]; rfl) (by kernel_rfl) (by exact fun _ _ _ h => h) (by first | assumption | exact KB.refl _) (.inl ⟨by rfl, fun W hW => ?_⟩) ?_; rotate_left
                · (go_simp; first | done | with_reducible rfl)
                try simp only [Act.put, List.setIfInBounds_toArray, List.set_cons_zero, List.set_cons_succ]
                refine btakeE 9 [10] (oi := _) (v := ?_) (by simp only [List.getElem?_toArray, List.getElem?_cons_succ, List.getElem?_cons_zero]; rfl) (by kernel_rfl) (by exact fun _ _ _ h => h) (by first | assumption | exact KB.refl _) (.inl ⟨by rfl, fun W hW => ?_⟩) ?_; rotate_left
                · (go_simp; first | done | with_reducible rfl)
                try simp only [Act.put, List.setIfInBounds_toArray, List.set_cons_zero, List.set_cons_succ]
                refine btakeE 10 [] (oi := _) (v := ?_) (by simp only [List.getElem?_toArray, List.getElem?_cons_succ, List.getElem?_cons_zero]; rfl) (by kernel_rfl) (by exact fun _ _ _ h => h) (by first | assumption | exact KB.refl _) (.inl ⟨by rfl, fun W hW => ?_⟩) ?_; rotate_left
                · (go_simp; first | done | with_reducible rfl)
                try simp only [Act.put, List.setIfInBounds_toArray, List.set_cons_zero, List.set_cons_succ]
                -- 11: (*newsreel/flags.Map).Put
                refine blastE 11 (o := _) (by simp only [List.getElem?_toArray, List.getElem?_cons_succ, List.getElem?_cons_zero]; rfl) (by kernel_rfl) (by rfl) (by rfl) (fun K hK => ?_)
                go_simp
                refine (HP2.out w8.drew G8.out.f2.drew).mono ?_
                rintro e w9 ⟨he, hp9, hg9⟩
                obtain ⟨v9, rfl⟩ : ∃ v, e = .returned v := ⟨_, he⟩
                clear he
                rw [putIf_one, ← HJ.out.2.2.2.1] at hp9
                have G9 := Lib.hid ((G8.out.below ((Below.refl w8.heap.size w8).drew)).put2 hp9 hg9)
                clear hp9 hg9
                refine hK.out _ _ ?_; clear hK K
                try simp only [Act.put, List.setIfInBounds_toArray, List.set_cons_zero, List.set_cons_succ]
                refine bdoneE (by kernel_rfl) ?_
                clear f0 f1 f2 hS0 G8 HID HP2 hbj
                go_wp2_with fail
                go_roundw
                case rel => exact ⟨i + 1, by go_num, hlt, by rw [HF.out.1], by rw [HF.out.2], by rw [HF.out.2]; exact G9.out⟩
                case measure => simp [intOf]; omega
      · obtain rfl : i = n := by omega
        obtain ⟨O, hO⟩ : ∃ O, fwd l on i = O := ⟨_, rfl⟩
        have hbw := fwd_bwd l on q i
        rw [← hbw] at HG
        rw [hO] at HG ⊢
        obtain ⟨⟨⟨bp, bl, br⟩, bon⟩, hM⟩ : ∃ M, O.getD zeroM = M := ⟨_, rfl⟩
        obtain ⟨th, hth⟩ : ∃ th, O.isSome = th := ⟨_, rfl⟩
        have hGet := fun W (h : FSt W m1 b1 (oneR x O)) => Get_any W m1 b1 _ h x
        rw [one_look, hM, hth] at hGet
        rw [hM] at HG ⊢
        rw [hth]
        simp only [S3.v] at hGet
        have HGet := Lib.hid hGet
        clear hO hbw hM hth hGet
        have hEq := fun W => eq3 W ⟨bp, bl, br⟩ ⟨bp, bl, br⟩
        simp only [S3.v, decide_true] at hEq
        have HEQ := Lib.hid hEq
        clear hEq
        have HID := Lib.hid HG.out.ax
        go_wp2_with (first
          | (refine opVal rfl (ex_ld32 rfl rfl HID.out H32.out) ?_; simp only [Act.put, List.setIfInBounds_toArray, List.set_cons_zero, List.set_cons_succ])
          | fail)
        refine (HGet.out wr HG.out.f1).mono ?_
        rintro e w5 ⟨rfl, hb5⟩
        have n6 := At.new w5 30 #[.int .i64 bp, .int .i64 bl, .int .i64 br]
        have hb6 : Below wr.heap.size wr (w5.alloc (.cells #[.int .i64 bp, .int .i64 bl, .int .i64 br] 30)) := hb5.alloc hb5.size _
        have G6 := Lib.hid (HG.out.below hb6)
        have x0 := G6.out.aB.c 0 rfl
        have x1 := G6.out.aB.c 1 rfl
        have x2 := G6.out.aB.c 2 rfl
        have z0 := n6.c 0 rfl
        have z1 := n6.c 1 rfl
        have z2 := n6.c 2 rfl
        have hEq := HEQ.out
        have hbb : (bon == bon) = true := by simp
        have htt : (th == th) = true := by simp
        clear hb5 n6 hb6
        go_wp2_with fail
        refine (Same_any _ m1 b1 m2 b2 _ _ G6.out.f1 G6.out.f2).mono ?_
        rw [decide_eq_true rfl]
        rintro e w7 ⟨rfl, hb7⟩
        have HF := Lib.hid (G6.out.below hb7).bw
        clear hb7 x0 x1 x2 z0 z1 z2
        go_wp2_with fail
        go_ret
        exact ⟨rfl, HF.out⟩
end Go.Proofs.Ytjijhmeagjhfoaa

