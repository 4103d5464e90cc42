/- 'FlagsTell': the walk of the law. -/
import Derived.Test.YtjijhmeagjhfoaaFlZ
namespace Go.Proofs.Ytjijhmeagjhfoaa
open Go.RowKit
set_option maxRecDepth 20000

theorem told_ne {R : List FE} {x : ID} {m : FM} (hR : GoodR R) (hm : m.right) (ht : told (look R x) m = true) : putR R x m ≠ R := by
  intro h
  have h1 := look_put hR.1 x m x
  rw [h, if_pos rfl, mxO_told, ht] at h1
  have h2 := told_code (rightO_look hR.2 x) hm
  rw [ht, h1] at h2
  simp [codeO] at h2
theorem tell_none {R : List FE} {x : ID} {m : FM} (h : look R x = none) : told (look R x) m = true ∧ mxO (look R x) m = m := by rw [h]; exact ⟨rfl, rfl⟩
theorem GoodR.put {R : List FE} (h : GoodR R) (x : ID) {m : FM} (hm : m.right) : GoodR (putR R x m) := ⟨rise_put h.1 x m, all_put h.1 h.2 x hm⟩
theorem Objs.one {w0 W : World} {m b : Nat} {R : List FE} (h : FSt W m b R) (hb : w0.heap.size ≤ b) (bw : Below w0.heap.size w0 W) : Objs w0 [(m, b, R)] W := by
  refine ⟨fun i m' b' R' hi => ?_, fun i j m' b' m'' b'' R' R'' hij hi hj => ?_, bw⟩
  · match i, hi with
    | 0, hi => simp at hi; obtain ⟨rfl, rfl, rfl⟩ := hi; exact ⟨h, hb⟩
    | i + 1, hi => simp at hi
  · match i, j, hi, hj with
    | 0, 0, _, _ => exact absurd rfl hij
    | 0, j + 1, _, hj => simp at hj
    | i + 1, _, hi, _ => simp at hi
/-- the round's boxes: the id, the stamp, what was there -/
structure TB (gx gs g9 : Nat) (x : ID) (p r : Int) (a b c : Int) (W : World) : Prop where
  ax : At W gx (bv x.l)
  a1 : At W gs [.int .i64 p, .int .i64 0, .int .i64 r]
  a2 : At W g9 [.int .i64 a, .int .i64 b, .int .i64 c]
theorem bvx_cons (x : ID) : ∃ v vs, bv x.l = v :: vs := by
  have h : (bv x.l).length = 32 := by rw [bv_len, x.h]
  cases e : bv x.l with
  | nil => rw [e] at h; cases h
  | cons v vs => exact ⟨v, vs, rfl⟩
theorem TB.below {gx gs g9 : Nat} {x : ID} {p r a b c : Int} {W W' : World} (h : TB gx gs g9 x p r a b c W) (hb : Below W.heap.size W W') : TB gx gs g9 x p r a b c W' := ⟨h.ax.below hb, h.a1.below hb, h.a2.below hb⟩
theorem TB.put {gx gs g9 : Nat} {x : ID} {p r a b c : Int} {W W' : World} {m bl : Nat} {R : List FE} (h : TB gx gs g9 x p r a b c W) (hf : FSt W m bl R) (hg : W.grownBy W' (some bl)) : TB gx gs g9 x p r a b c W' := by
  obtain ⟨v, vs, e⟩ := bvx_cons x
  have n1 : gx ≠ bl := At.ne_fs (v := v) (vs := vs) (by rw [← e]; exact h.ax) hf
  exact ⟨h.ax.grown hg (fun e => n1 (Option.some.inj e).symm), h.a1.grown hg (fun e => h.a1.ne_fs hf (Option.some.inj e).symm), h.a2.grown hg (fun e => h.a2.ne_fs hf (Option.some.inj e).symm)⟩
set_option maxRecDepth 100000 in
set_option maxHeartbeats 8000000 in
theorem FlagsTell_walk (w : World) (A0 : Option Addr) (c0 : Nat) (l0 : List Nat) (s0 : Sl w w.heap.size A0 (l0.map fun (n : Nat) => Value.int .u32 (n : Int))) (hc0 : l0.length ≤ c0) (hm0 : c0 * 4 ≤ 140737488351232) (hb0 : ∀ n ∈ l0, n < 4294967296) :
    Calls Try.prog 6 #[.slice A0 l0.length c0] w fun e w' => e = .returned (.bool true) ∧ Below w.heap.size w w' := by
  obtain ⟨nn, hnn⟩ : ∃ n, l0.length = n := ⟨_, rfl⟩
  rw [hnn]
  have HN := Lib.hid (And.intro hnn (And.intro s0 hb0))
  clear hnn s0 hb0 hc0 hm0
  by_cases hbig : nn > 100
  · have h0' : (100 : Int) < (nn : Int) := by omega
    go_enter Try.func6, Try.ntmps6
    go_wp2_with fail
    refine (known_any w).mono ?_
    rintro e w1 ⟨rfl, hb⟩
    have HB1 := Lib.hid hb
    clear hb
    go_wp2
    go_ret
    exact ⟨rfl, HB1.out⟩
  · have h0 : nn ≤ 100 := by omega
    have h0' : ¬ (100 : Int) < (nn : Int) := by omega
    go_enter Try.func6, Try.ntmps6
    go_wp2_with fail
    refine (known_any w).mono ?_
    rintro e w1 ⟨rfl, hb⟩
    have HB1 := Lib.hid hb
    clear hb
    go_wp2_with fail
    refine (New_any w1).mono ?_
    rintro e w2 ⟨rfl, hf2, hb2⟩
    have H2 := Lib.hid (And.intro hf2 (HB1.out.trans (hb2.mono HB1.out.size)))
    clear hf2 hb2
    have hw1 := HB1.out.size
    obtain ⟨b, hbb⟩ : ∃ b, b = w1.heap.size := ⟨_, rfl⟩
    obtain ⟨m, hmm⟩ : ∃ m, m = w1.heap.size + 1 := ⟨_, rfl⟩
    rw [← hmm, ← hbb] at H2
    rw [← hmm]
    have HM := Lib.hid (show w.heap.size ≤ b ∧ w.heap.size ≤ m by omega)
    clear hbb hmm hw1 hbig
    go_wp2_with fail
    go_loopw [4] (fun i wr => ∃ (k : Nat) (R : List FE), i = .int .i64 (k : Int) ∧ k ≤ nn ∧ FSt wr m b R ∧ R.length ≤ k ∧ Below w.heap.size w wr) (fun i _ => nn - (intOf i).toNat)
    case atStart => exact ⟨0, [], rfl, Nat.zero_le _, H2.out.1, Nat.le_refl _, H2.out.2⟩
    case round =>
      obtain ⟨k, R, rfl, hk, f1, hRk, hb⟩ := hrel
      have HX := Lib.hid (And.intro f1 (And.intro hRk hb))
      clear f1 hRk hb
      by_cases hlt : k < nn
      · obtain ⟨n, hx⟩ : ∃ n, l0[k]? = some n := ⟨_, List.getElem?_eq_getElem (by have := HN.out.1; omega)⟩
        obtain ⟨g, o, rfl, hg, hg2, hc⟩ := HN.out.2.1.at_ (k := k) (by rw [List.length_map]; have := HN.out.1; omega)
        have hcell := hc k (.int .u32 (n : Int)) (by rw [List.getElem?_map, hx]; rfl)
        replace hcell := (HX.out.2.2.cell (p := ⟨g, o + k, none⟩) hg2).trans hcell
        have hn32 := HN.out.2.2 n (List.mem_of_getElem? hx)
        have hgw : g < wr.heap.size := Nat.lt_of_lt_of_le hg2 HX.out.2.2.size
        have hx0 : (0 : Int) ≤ (k : Int) := by omega
        have hx1 : (k : Int) < (nn : Int) := by omega
        have HC := Lib.hid hcell
        have b0 := u32_s1 n 1 hn32
        rw [Int.cast_ofNat_Int, Int.ediv_one, Nat.div_one] at b0
        have b1 := u32_s3 n 256 hn32
        have b3 := u32_s3 n 2048 hn32
        have b4 : (bits .and .u32 ((n : Int) / ((8192 : Nat) : Int)) 1 == 1) = decide (n / 8192 % 2 = 1) := by
          rw [u32_s1 n 8192 hn32]
          by_cases h : n / 8192 % 2 = 1
          · rw [h]; rfl
          · rw [decide_eq_false h, beq_eq_false_iff_ne]; omega
        have ha : n % 2 < 256 := by omega
        have d0 : IntKind.u8.wrap ((n % 2 : Nat) : Int) = ((n % 2 : Nat) : Int) := by rw [wrap_u8]; congr 1; omega
        have d1 := wrap_small (n / 256 % 4) (by omega)
        have d3 := wrap_small (n / 2048 % 4) (by omega)
        have hp : n / 256 % 4 < 4 := by omega
        have hr : n / 2048 % 4 < 4 := by omega
        generalize n % 2 = a at *
        generalize n / 256 % 4 = p at *
        generalize n / 2048 % 4 = r at *
        generalize decide (n / 8192 % 2 = 1) = on at *
        simp only [Int.cast_ofNat_Int] at b1 b3 b4
        have HA := Lib.hid (show a < 256 ∧ p < 4 ∧ r < 4 from ⟨ha, hp, hr⟩)
        clear hc hx hp hr
        go_wp2_with fail
        have H32 := Lib.hid (show (bv (idOf a).l).length = 32 by rw [bv_len, (idOf a).h])
        refine (id_any wr a HA.out.1).mono ?_
        rintro e w2 ⟨rfl, hb2⟩
        have H2 := Lib.hid (And.intro hb2 ((hb2.cell (p := ⟨g, o + k, none⟩) hgw).trans hcell))
        clear hb2 hcell
        go_wp2_with (first
          | (refine opValV rfl (ex_al32 rfl) ?_; intro w3 hw3; have hq3 := Lib.hid (eq_s2 hw3); clear hw3; simp only [Act.put, List.setIfInBounds_toArray, List.set_cons_zero, List.set_cons_succ])
          | (refine opSkipV rfl (ex_st32 rfl rfl rfl hq3.out.2.1 (by rfl) H32.out (bv_one _)) ?_; intro w4 hw4; have hq4 := Lib.hid (key_s4 H32.out hq3.out hw4); clear hw4; simp only [Act.put, List.setIfInBounds_toArray, List.set_cons_zero, List.set_cons_succ])
          | fail)
        have hgw2 : g < w2.heap.size := Nat.lt_of_lt_of_le hgw H2.out.1.size
        have hc4 := (hq4.out.2.cell (p := ⟨g, o + k, none⟩) hgw2).trans H2.out.2
        have f0 := cellB hc4
        have hgw4 : g < w4.heap.size := Nat.lt_of_lt_of_le hgw2 hq4.out.2.size
        have hS0 : KB w4.heap w4.drew := KB.refl _
        refine bstartH (w4.heap) (by kernel_rfl) ?_
        refine btake 0 (oi := _) (v := ?_) (by simp only [List.getElem?_toArray, List.getElem?_cons_zero]; rfl) (by kernel_rfl) (by exact fun _ _ _ h => h) (by first | assumption | exact KB.refl _) (.inl ⟨by rfl, fun W hW => ?_⟩) ?_; rotate_left
        · (go_simp; first | done | with_reducible rfl)
        try simp only [Act.put, List.setIfInBounds_toArray, List.set_cons_zero, List.set_cons_succ]
        refine btake 1 (oi := _) (v := ?_) (by simp only [List.getElem?_toArray, List.getElem?_cons_succ, List.getElem?_cons_zero]; rfl) (by kernel_rfl) (by exact fun _ _ _ h => h) (by first | assumption | exact KB.refl _) (.inl ⟨by rfl, fun W hW => ?_⟩) ?_; rotate_left
        · (go_simp; first | done | with_reducible rfl)
        try simp only [Act.put, List.setIfInBounds_toArray, List.set_cons_zero, List.set_cons_succ]
        refine btake 2 (oi := _) (v := ?_) (by simp only [List.getElem?_toArray, List.getElem?_cons_succ, List.getElem?_cons_zero]; rfl) (by kernel_rfl) (by exact fun _ _ _ h => h) (by first | assumption | exact KB.refl _) (.inl ⟨by rfl, fun W hW => ?_⟩) ?_; rotate_left
        · (go_simp; first | done | with_reducible rfl)
        try simp only [Act.put, List.setIfInBounds_toArray, List.set_cons_zero, List.set_cons_succ]
        refine btake 3 (oi := _) (v := ?_) (by simp only [List.getElem?_toArray, List.getElem?_cons_succ, List.getElem?_cons_zero]; rfl) (by kernel_rfl) (by exact fun _ _ _ h => h) (by first | assumption | exact KB.refl _) (.inl ⟨by rfl, fun W hW => ?_⟩) ?_; rotate_left
        · (go_simp; first | done | with_reducible rfl)
        try simp only [Act.put, List.setIfInBounds_toArray, List.set_cons_zero, List.set_cons_succ]
        refine btake 4 (oi := _) (v := ?_) (by simp only [List.getElem?_toArray, List.getElem?_cons_succ, List.getElem?_cons_zero]; rfl) (by kernel_rfl) (by exact fun _ _ _ h => h) (by first | assumption | exact KB.refl _) (.inl ⟨by rfl, fun W hW => ?_⟩) ?_; rotate_left
        · (go_simp; first | done | with_reducible rfl)
        try simp only [Act.put, List.setIfInBounds_toArray, List.set_cons_zero, List.set_cons_succ]
        refine btake 5 (oi := _) (v := ?_) (by simp only [List.getElem?_toArray, List.getElem?_cons_succ, List.getElem?_cons_zero]; rfl) (by kernel_rfl) (by exact fun _ _ _ h => h) (by first | assumption | exact KB.refl _) (.inl ⟨by rfl, fun W hW => ?_⟩) ?_; rotate_left
        · (go_simp; first | done | with_reducible rfl)
        try simp only [Act.put, List.setIfInBounds_toArray, List.set_cons_zero, List.set_cons_succ]
        refine btake 6 (oi := _) (v := ?_) (by simp only [List.getElem?_toArray, List.getElem?_cons_succ, List.getElem?_cons_zero]; rfl) (by kernel_rfl) (by exact fun _ _ _ h => h) (by first | assumption | exact KB.refl _) (.inl ⟨by rfl, fun W hW => ?_⟩) ?_; rotate_left
        · (go_simp; first | done | with_reducible rfl)
        try simp only [Act.put, List.setIfInBounds_toArray, List.set_cons_zero, List.set_cons_succ]
        refine btake 7 (oi := _) (v := ?_) (by simp only [List.getElem?_toArray, List.getElem?_cons_succ, List.getElem?_cons_zero]; rfl) (by kernel_rfl) (by exact fun _ _ _ h => h) (by first | assumption | exact KB.refl _) (.inl ⟨by rfl, fun W hW => ?_⟩) ?_; rotate_left
        · (go_simp; first | done | with_reducible rfl)
        try simp only [Act.put, List.setIfInBounds_toArray, List.set_cons_zero, List.set_cons_succ]
        refine btake 8 (oi := _) (v := ?_) (by simp only [List.getElem?_toArray, List.getElem?_cons_succ, List.getElem?_cons_zero]; rfl) (by kernel_rfl) (by exact fun _ _ _ h => h) (by first | assumption | exact KB.refl _) (.inl ⟨by rfl, fun W hW => ?_⟩) ?_; rotate_left
        · (go_simp; first | done | with_reducible rfl)
        try simp only [Act.put, List.setIfInBounds_toArray, List.set_cons_zero, List.set_cons_succ]
        refine btake 9 (oi := _) (v := ?_) (by simp only [List.getElem?_toArray, List.getElem?_cons_succ, List.getElem?_cons_zero]; rfl) (by kernel_rfl) (by exact fun _ _ _ h => h) (by first | assumption | exact KB.refl _) (.inl ⟨by rfl, fun W hW => ?_⟩) ?_; rotate_left
        · (go_simp; first | done | with_reducible rfl)
        try simp only [Act.put, List.setIfInBounds_toArray, List.set_cons_zero, List.set_cons_succ]
        refine btake 10 (oi := _) (v := ?_) (by simp only [List.getElem?_toArray, List.getElem?_cons_succ, List.getElem?_cons_zero]; rfl) (by kernel_rfl) (by exact fun _ _ _ h => h) (by first | assumption | exact KB.refl _) (.inl ⟨by rfl, fun W hW => ?_⟩) ?_; rotate_left
        · (go_simp; first | done | with_reducible rfl)
        try simp only [Act.put, List.setIfInBounds_toArray, List.set_cons_zero, List.set_cons_succ]
        refine btake 11 (oi := _) (v := ?_) (by simp only [List.getElem?_toArray, List.getElem?_cons_succ, List.getElem?_cons_zero]; rfl) (by kernel_rfl) (by exact fun _ _ _ h => h) (by first | assumption | exact KB.refl _) (.inl ⟨by rfl, fun W hW => ?_⟩) ?_; rotate_left
        · (go_simp; first | done | with_reducible rfl)
        try simp only [Act.put, List.setIfInBounds_toArray, List.set_cons_zero, List.set_cons_succ]
        refine btake 12 (oi := _) (v := ?_) (by simp only [List.getElem?_toArray, List.getElem?_cons_succ, List.getElem?_cons_zero]; rfl) (by kernel_rfl) (by exact fun _ _ _ h => h) (by first | assumption | exact KB.refl _) (.inl ⟨by rfl, fun W hW => ?_⟩) ?_; rotate_left
        · (go_simp; first | done | with_reducible rfl)
        try simp only [Act.put, List.setIfInBounds_toArray, List.set_cons_zero, List.set_cons_succ]
        refine btake 13 (oi := _) (v := ?_) (by simp only [List.getElem?_toArray, List.getElem?_cons_succ, List.getElem?_cons_zero]; rfl) (by kernel_rfl) (by exact fun _ _ _ h => h) (by first | assumption | exact KB.refl _) (.inl ⟨by rfl, fun W hW => ?_⟩) ?_; rotate_left
        · (go_simp; first | done | with_reducible rfl)
        try simp only [Act.put, List.setIfInBounds_toArray, List.set_cons_zero, List.set_cons_succ]
        refine btake 14 (oi := _) (v := ?_) (by simp only [List.getElem?_toArray, List.getElem?_cons_succ, List.getElem?_cons_zero]; rfl) (by kernel_rfl) (by exact fun _ _ _ h => h) (by first | assumption | exact KB.refl _) (.inl ⟨by rfl, fun W hW => ?_⟩) ?_; rotate_left
        · (go_simp; first | done | with_reducible rfl)
        try simp only [Act.put, List.setIfInBounds_toArray, List.set_cons_zero, List.set_cons_succ]
        -- 15: Op.alloc 30
        refine bopH 15 (o := _) (by simp only [List.getElem?_toArray, List.getElem?_cons_succ, List.getElem?_cons_zero]; rfl) (by kernel_rfl) (by first | assumption | exact KB.refl _) (by rfl) (fun K hK => ?_)
        go_simp
        have hkb : KB w4.heap (w4.alloc (.cells #[.int .i64 0, .int .i64 0, .int .i64 0] 30)) := KB.alloc w4 _
        refine hK.out _ _ hkb ?_; clear hK K
        try simp only [Act.put, List.setIfInBounds_toArray, List.set_cons_zero, List.set_cons_succ]
        -- 16: Op.store 30 (Operand.tmp 6) (Operand.tmp 53)
        refine bopH 16 (o := _) (by simp only [List.getElem?_toArray, List.getElem?_cons_succ, List.getElem?_cons_zero]; rfl) (by kernel_rfl) (by first | assumption | exact KB.refl _) (by rfl) (fun K hK => ?_)
        go_simp
        have hkb : KB w4.heap (w4.alloc (.cells #[.int .i64 (p : Int), .int .i64 0, .int .i64 (r : Int)] 30)) := KB.alloc w4 _
        refine hK.out _ _ hkb ?_; clear hK K
        try simp only [Act.put, List.setIfInBounds_toArray, List.set_cons_zero, List.set_cons_succ]
        refine bdone (by kernel_rfl) ?_
        have hb5 : Below w4.heap.size w4 (w4.alloc (.cells #[.int .i64 (p : Int), .int .i64 0, .int .i64 (r : Int)] 30)).drew := ((Below.refl _ _).alloc (Nat.le_refl _) _).drew
        have hb25 := H2.out.1.trans ((hq4.out.2.trans (hb5.mono hq4.out.2.size)).mono H2.out.1.size)
        have s5 := (At.new w4 30 #[.int .i64 (p : Int), .int .i64 0, .int .i64 (r : Int)]).drew
        have H5 := Lib.hid (And.intro (hq4.out.1.below hb5) (And.intro (show At _ w4.heap.size ([.int .i64 (p : Int), .int .i64 0, .int .i64 (r : Int)] : List Value) from s5) (Objs.one (HX.out.1.below hb25) HM.out.1 (HX.out.2.2.trans (hb25.mono HX.out.2.2.size)))))
        have hc5 := (hb25.cell (p := ⟨g, o + k, none⟩) hgw).trans HC.out
        generalize (w4.alloc (.cells #[.int .i64 (p : Int), .int .i64 0, .int .i64 (r : Int)] 30)).drew = w5 at *
        generalize w4.heap.size = gs at *
        generalize w2.heap.size = gx at *
        have hRk := HX.out.2.1
        clear hc4 f0 hS0 hkb hb5 s5 H2 hq3 hq4 hgw2 hgw4 hb25
        obtain ⟨⟨⟨mp, ml, mr⟩, mon⟩, hMv⟩ : ∃ M, (look R (idOf a)).getD zeroM = M := ⟨_, rfl⟩
        obtain ⟨is, hIs⟩ : ∃ is, (look R (idOf a)).isSome = is := ⟨_, rfl⟩
        have HG := Lib.hid (fun W (h : FSt W m b R) => Get_any W m b R h (idOf a))
        rw [hMv, hIs] at HG
        have HMV := Lib.hid (And.intro hMv hIs)
        clear hMv hIs
        unfold S3.v at HG
        go_wp2_with (first
          | (refine opVal rfl (ex_ld32 rfl rfl H5.out.1 H32.out) ?_; simp only [Act.put, List.setIfInBounds_toArray, List.set_cons_zero, List.set_cons_succ])
          | fail)
        refine (HG.out w5 (H5.out.2.2.fs (i := 0) rfl)).mono ?_
        rintro e w6 ⟨rfl, hb6⟩
        have n9 := At.new w6 30 #[.int .i64 mp, .int .i64 ml, .int .i64 mr]
        have hb7 : Below w5.heap.size w5 (w6.alloc (.cells #[.int .i64 mp, .int .i64 ml, .int .i64 mr] 30)) := hb6.alloc hb6.size _
        have H7 := Lib.hid (And.intro (show TB gx gs w6.heap.size (idOf a) p r mp ml mr _ from ⟨H5.out.1.below hb7, H5.out.2.1.below hb7, n9⟩) (H5.out.2.2.below hb7))
        clear hb6 n9 hb7 hc5
        go_wp2_with fail
        generalize w6.alloc (.cells #[.int .i64 mp, .int .i64 ml, .int .i64 mr] 30) = w7 at *
        generalize w6.heap.size = g9 at *
        refine (Len_any w7 m b R (H7.out.2.fs (i := 0) rfl)).mono ?_
        rintro e w8 ⟨rfl, rfl⟩
        obtain ⟨rn, hrn⟩ : ∃ rn, R.length = rn := ⟨_, rfl⟩
        rw [hrn] at hRk ⊢
        have HRN := Lib.hid hrn
        clear hrn
        go_wp2_with fail
        refine (Copy_any w7 m b R (H7.out.2.fs (i := 0) rfl)).mono ?_
        rintro e w8 ⟨rfl, hf8, hb8⟩
        have H8 := Lib.hid (And.intro (H7.out.1.below hb8) (H7.out.2.add hb8 hf8 (Nat.le_refl _)))
        clear hf8 hb8
        generalize w7.heap.size + 1 = mo at *
        generalize w7.heap.size = bo at *
        have s0 := H8.out.1.a1.c 0 rfl
        have s1 := H8.out.1.a1.c 1 rfl
        have s2 := H8.out.1.a1.c 2 rfl
        go_wp2_with (first
          | (refine opVal rfl (ex_ld32 rfl rfl H8.out.1.ax H32.out) ?_; simp only [Act.put, List.setIfInBounds_toArray, List.set_cons_zero, List.set_cons_succ])
          | fail)
        have hright : (⟨(p : Int), 0, (r : Int)⟩ : S3).right = true := by
          rw [S3.right_iff]
          have := HA.out
          simp only
          omega
        have HRt := Lib.hid hright
        clear hright
        obtain ⟨t, ht⟩ : ∃ t, told (look R (idOf a)) ⟨⟨(p : Int), 0, (r : Int)⟩, on⟩ = t := ⟨_, rfl⟩
        have HT := Lib.hid ht
        clear ht
        refine (Put_at w8 m b R (H8.out.2.fs (i := 0) rfl) (idOf a) ⟨(p : Int), 0, (r : Int)⟩ on (by rw [HRN.out]; omega) (t := t) (n := 0) (R' := putR R (idOf a) ⟨⟨(p : Int), 0, (r : Int)⟩, on⟩) (by rw [HRt.out, HT.out]; rfl) (by rw [HRt.out]; rfl) (by unfold putIf; rw [HRt.out]; rfl)).mono ?_
        rintro e w9 ⟨rfl, hf9, hg9⟩
        have H9 := Lib.hid (And.intro (H8.out.1.put (H8.out.2.fs (i := 0) rfl) hg9) (show Objs w [(m, b, putR R (idOf a) ⟨⟨(p : Int), 0, (r : Int)⟩, on⟩), (mo, bo, R)] w9 from H8.out.2.put (i := 0) rfl hf9 hg9))
        clear hf9 hg9 s0 s1 s2
        -- TAIL
        have HGR := Lib.hid (show GoodR R from ⟨HX.out.1.2.2.1, HX.out.1.2.2.2⟩)
        have hself := fun W => ne3 W ⟨(p : Int), 0, (r : Int)⟩ ⟨(p : Int), 0, (r : Int)⟩
        simp only [S3.v, decide_true, Bool.not_true] at hself
        have hrn1 : rn ≤ 100 := by omega
        cases is with
        | false =>
          have hno : look R (idOf a) = none := by
            cases h : look R (idOf a) with
            | none => rfl
            | some v => have := HMV.out.2; rw [h] at this; cases this
          have htt : t = true := by rw [← HT.out, hno]; rfl
          subst htt
          have hL2 : look (putR R (idOf a) ⟨⟨(p : Int), 0, (r : Int)⟩, on⟩) (idOf a) = some ⟨⟨(p : Int), 0, (r : Int)⟩, on⟩ := by
            rw [look_put (HX.out.1).2.2.1, if_pos rfl, mxO_told, HT.out]
            rfl
          have HG2 := Lib.hid (Get_any w9 m b _ (H9.out.2.fs (i := 0) rfl) (idOf a))
          rw [hL2] at HG2
          clear hL2
          simp only [Option.getD_some, Option.isSome_some, S3.v] at HG2
          go_wp2_with (first
            | (refine opVal rfl (ex_ld32 rfl rfl H9.out.1.ax H32.out) ?_; simp only [Act.put, List.setIfInBounds_toArray, List.set_cons_zero, List.set_cons_succ])
            | fail)
          refine HG2.out.mono ?_
          rintro e w10 ⟨rfl, hb10⟩
          have n16 := At.new w10 30 #[.int .i64 (p : Int), .int .i64 0, .int .i64 (r : Int)]
          have hb11 : Below w9.heap.size w9 (w10.alloc (.cells #[.int .i64 (p : Int), .int .i64 0, .int .i64 (r : Int)] 30)) := hb10.alloc hb10.size _
          have H11 := Lib.hid (And.intro (H9.out.1.below hb11) (And.intro (show At _ w10.heap.size ([.int .i64 (p : Int), .int .i64 0, .int .i64 (r : Int)] : List Value) from n16) (H9.out.2.below hb11)))
          clear hb10 n16 hb11
          have za0 := H11.out.1.a1.c 0 rfl
          have za1 := H11.out.1.a1.c 1 rfl
          have za2 := H11.out.1.a1.c 2 rfl
          have zb0 := H11.out.1.a2.c 0 rfl
          have zb1 := H11.out.1.a2.c 1 rfl
          have zb2 := H11.out.1.a2.c 2 rfl
          have zc0 := H11.out.2.1.c 0 rfl
          have zc1 := H11.out.2.1.c 1 rfl
          have zc2 := H11.out.2.1.c 2 rfl
          go_wp2_with fail
          refine (Same_any _ m b mo bo _ _ (H11.out.2.2.fs (i := 0) rfl) (H11.out.2.2.fs (i := 1) rfl)).mono ?_
          rw [decide_eq_false (told_ne HGR.out (show FM.right ⟨⟨(p : Int), 0, (r : Int)⟩, on⟩ from HRt.out) HT.out)]
          rintro e w12 ⟨rfl, hb12⟩
          have H12 := Lib.hid (And.intro (H11.out.1.below hb12) (And.intro (H11.out.2.1.below hb12) (H11.out.2.2.below hb12)))
          clear hb12 za0 za1 za2 zb0 zb1 zb2 zc0 zc1 zc2
          go_wp2_with fail
          refine (Len_any w12 m b _ (H12.out.2.2.fs (i := 0) rfl)).mono ?_
          rw [len_putR _ _ HGR.out.1, HMV.out.2, HRN.out]
          rintro e w13 ⟨rfl, rfl⟩
          have za0 := H12.out.1.a1.c 0 rfl
          have za1 := H12.out.1.a1.c 1 rfl
          have za2 := H12.out.1.a1.c 2 rfl
          have zb0 := H12.out.1.a2.c 0 rfl
          have zb1 := H12.out.1.a2.c 1 rfl
          have zb2 := H12.out.1.a2.c 2 rfl
          have zc0 := H12.out.2.1.c 0 rfl
          have zc1 := H12.out.2.1.c 1 rfl
          have zc2 := H12.out.2.1.c 2 rfl
          go_wp2_with fail
          go_roundw
          case rel =>
            have hl := len_putR (idOf a) ⟨⟨(p : Int), 0, (r : Int)⟩, on⟩ HGR.out.1
            refine ⟨k + 1, _, by go_num, hlt, H12.out.2.2.fs (i := 0) rfl, ?_, H12.out.2.2.2.2⟩
            rw [hl, HRN.out]
            split <;> omega
          case measure => simp [intOf]; omega
        | true =>
          have hso : look R (idOf a) = some ⟨⟨mp, ml, mr⟩, mon⟩ := some_of HMV.out.1 HMV.out.2
          have hdoc := told_doc ⟨⟨mp, ml, mr⟩, mon⟩ ⟨⟨(p : Int), 0, (r : Int)⟩, on⟩
          rw [← hso, HT.out] at hdoc
          simp only at hdoc
          have hne := fun W => ne3 W ⟨(p : Int), 0, (r : Int)⟩ ⟨mp, ml, mr⟩
          have hLe := fun W => RefLess_any W ⟨mp, ml, mr⟩ ⟨(p : Int), 0, (r : Int)⟩
          have hEq := fun W => eq3 W ⟨mp, ml, mr⟩ ⟨(p : Int), 0, (r : Int)⟩
          obtain ⟨lt, hlt'⟩ : ∃ lt, S3.lt ⟨mp, ml, mr⟩ ⟨(p : Int), 0, (r : Int)⟩ = lt := ⟨_, rfl⟩
          obtain ⟨eq, heq⟩ : ∃ eq, decide ((⟨mp, ml, mr⟩ : S3) = ⟨(p : Int), 0, (r : Int)⟩) = eq := ⟨_, rfl⟩
          have heq2 : decide ((⟨(p : Int), 0, (r : Int)⟩ : S3) = ⟨mp, ml, mr⟩) = eq := by rw [← heq, decide_eq_decide]; exact ⟨Eq.symm, Eq.symm⟩
          have hlte : lt = true → eq = false := fun h => by
            rw [← heq, decide_eq_false_iff_not]
            rintro h'
            rw [← hlt', h'] at h
            simp [S3.lt] at h
          rw [heq2] at hne
          rw [hlt'] at hLe hdoc
          rw [heq] at hEq hdoc
          simp only [S3.v] at hne hEq hLe
          have HLe := Lib.hid hLe
          have HDE := Lib.hid (And.intro hdoc hlte)
          have HSO := Lib.hid hso
          clear hlt' heq heq2 hlte hdoc hLe hso
          cases t with
          | true =>
            cases on with
            | false =>
              cases mon with
              | false =>
                obtain rfl : eq = false := by
                  refine HDE.out.2 ?_
                  have := HDE.out.1
                  cases lt
                  · simp at this
                  · rfl
                have hL2 : look (putR R (idOf a) ⟨⟨(p : Int), 0, (r : Int)⟩, false⟩) (idOf a) = some ⟨⟨(p : Int), 0, (r : Int)⟩, false⟩ := by
                  rw [look_put (HX.out.1).2.2.1, if_pos rfl, mxO_told, HT.out]
                  rfl
                have HG2 := Lib.hid (Get_any w9 m b _ (H9.out.2.fs (i := 0) rfl) (idOf a))
                rw [hL2] at HG2
                clear hL2
                simp only [Option.getD_some, Option.isSome_some, S3.v] at HG2
                go_wp2_with (first
                  | (refine opVal rfl (ex_ld32 rfl rfl H9.out.1.ax H32.out) ?_; simp only [Act.put, List.setIfInBounds_toArray, List.set_cons_zero, List.set_cons_succ])
                  | fail)
                refine HG2.out.mono ?_
                rintro e w10 ⟨rfl, hb10⟩
                have n16 := At.new w10 30 #[.int .i64 (p : Int), .int .i64 0, .int .i64 (r : Int)]
                have hb11 : Below w9.heap.size w9 (w10.alloc (.cells #[.int .i64 (p : Int), .int .i64 0, .int .i64 (r : Int)] 30)) := hb10.alloc hb10.size _
                have H11 := Lib.hid (And.intro (H9.out.1.below hb11) (And.intro (show At _ w10.heap.size ([.int .i64 (p : Int), .int .i64 0, .int .i64 (r : Int)] : List Value) from n16) (H9.out.2.below hb11)))
                clear hb10 n16 hb11
                have za0 := H11.out.1.a1.c 0 rfl
                have za1 := H11.out.1.a1.c 1 rfl
                have za2 := H11.out.1.a1.c 2 rfl
                have zb0 := H11.out.1.a2.c 0 rfl
                have zb1 := H11.out.1.a2.c 1 rfl
                have zb2 := H11.out.1.a2.c 2 rfl
                have zc0 := H11.out.2.1.c 0 rfl
                have zc1 := H11.out.2.1.c 1 rfl
                have zc2 := H11.out.2.1.c 2 rfl
                go_wp2_with fail
                refine (Same_any _ m b mo bo _ _ (H11.out.2.2.fs (i := 0) rfl) (H11.out.2.2.fs (i := 1) rfl)).mono ?_
                rw [decide_eq_false (told_ne HGR.out (show FM.right ⟨⟨(p : Int), 0, (r : Int)⟩, false⟩ from HRt.out) HT.out)]
                rintro e w12 ⟨rfl, hb12⟩
                have H12 := Lib.hid (And.intro (H11.out.1.below hb12) (And.intro (H11.out.2.1.below hb12) (H11.out.2.2.below hb12)))
                clear hb12 za0 za1 za2 zb0 zb1 zb2 zc0 zc1 zc2
                go_wp2_with fail
                refine (Len_any w12 m b _ (H12.out.2.2.fs (i := 0) rfl)).mono ?_
                rw [len_putR _ _ HGR.out.1, HMV.out.2, HRN.out]
                rintro e w13 ⟨rfl, rfl⟩
                have za0 := H12.out.1.a1.c 0 rfl
                have za1 := H12.out.1.a1.c 1 rfl
                have za2 := H12.out.1.a1.c 2 rfl
                have zb0 := H12.out.1.a2.c 0 rfl
                have zb1 := H12.out.1.a2.c 1 rfl
                have zb2 := H12.out.1.a2.c 2 rfl
                have zc0 := H12.out.2.1.c 0 rfl
                have zc1 := H12.out.2.1.c 1 rfl
                have zc2 := H12.out.2.1.c 2 rfl
                go_wp2_with fail
                go_roundw
                case rel =>
                  have hl := len_putR (idOf a) ⟨⟨(p : Int), 0, (r : Int)⟩, false⟩ HGR.out.1
                  refine ⟨k + 1, _, by go_num, hlt, H12.out.2.2.fs (i := 0) rfl, ?_, H12.out.2.2.2.2⟩
                  rw [hl, HRN.out]
                  split <;> omega
                case measure => simp [intOf]; omega
              | true =>
                have hL2 : look (putR R (idOf a) ⟨⟨(p : Int), 0, (r : Int)⟩, false⟩) (idOf a) = some ⟨⟨(p : Int), 0, (r : Int)⟩, false⟩ := by
                  rw [look_put (HX.out.1).2.2.1, if_pos rfl, mxO_told, HT.out]
                  rfl
                have HG2 := Lib.hid (Get_any w9 m b _ (H9.out.2.fs (i := 0) rfl) (idOf a))
                rw [hL2] at HG2
                clear hL2
                simp only [Option.getD_some, Option.isSome_some, S3.v] at HG2
                go_wp2_with (first
                  | (refine opVal rfl (ex_ld32 rfl rfl H9.out.1.ax H32.out) ?_; simp only [Act.put, List.setIfInBounds_toArray, List.set_cons_zero, List.set_cons_succ])
                  | fail)
                refine HG2.out.mono ?_
                rintro e w10 ⟨rfl, hb10⟩
                have n16 := At.new w10 30 #[.int .i64 (p : Int), .int .i64 0, .int .i64 (r : Int)]
                have hb11 : Below w9.heap.size w9 (w10.alloc (.cells #[.int .i64 (p : Int), .int .i64 0, .int .i64 (r : Int)] 30)) := hb10.alloc hb10.size _
                have H11 := Lib.hid (And.intro (H9.out.1.below hb11) (And.intro (show At _ w10.heap.size ([.int .i64 (p : Int), .int .i64 0, .int .i64 (r : Int)] : List Value) from n16) (H9.out.2.below hb11)))
                clear hb10 n16 hb11
                have za0 := H11.out.1.a1.c 0 rfl
                have za1 := H11.out.1.a1.c 1 rfl
                have za2 := H11.out.1.a1.c 2 rfl
                have zb0 := H11.out.1.a2.c 0 rfl
                have zb1 := H11.out.1.a2.c 1 rfl
                have zb2 := H11.out.1.a2.c 2 rfl
                have zc0 := H11.out.2.1.c 0 rfl
                have zc1 := H11.out.2.1.c 1 rfl
                have zc2 := H11.out.2.1.c 2 rfl
                go_wp2_with fail
                refine (Same_any _ m b mo bo _ _ (H11.out.2.2.fs (i := 0) rfl) (H11.out.2.2.fs (i := 1) rfl)).mono ?_
                rw [decide_eq_false (told_ne HGR.out (show FM.right ⟨⟨(p : Int), 0, (r : Int)⟩, false⟩ from HRt.out) HT.out)]
                rintro e w12 ⟨rfl, hb12⟩
                have H12 := Lib.hid (And.intro (H11.out.1.below hb12) (And.intro (H11.out.2.1.below hb12) (H11.out.2.2.below hb12)))
                clear hb12 za0 za1 za2 zb0 zb1 zb2 zc0 zc1 zc2
                go_wp2_with fail
                refine (Len_any w12 m b _ (H12.out.2.2.fs (i := 0) rfl)).mono ?_
                rw [len_putR _ _ HGR.out.1, HMV.out.2, HRN.out]
                rintro e w13 ⟨rfl, rfl⟩
                have za0 := H12.out.1.a1.c 0 rfl
                have za1 := H12.out.1.a1.c 1 rfl
                have za2 := H12.out.1.a1.c 2 rfl
                have zb0 := H12.out.1.a2.c 0 rfl
                have zb1 := H12.out.1.a2.c 1 rfl
                have zb2 := H12.out.1.a2.c 2 rfl
                have zc0 := H12.out.2.1.c 0 rfl
                have zc1 := H12.out.2.1.c 1 rfl
                have zc2 := H12.out.2.1.c 2 rfl
                go_wp2_with fail
                go_roundw
                case rel =>
                  have hl := len_putR (idOf a) ⟨⟨(p : Int), 0, (r : Int)⟩, false⟩ HGR.out.1
                  refine ⟨k + 1, _, by go_num, hlt, H12.out.2.2.fs (i := 0) rfl, ?_, H12.out.2.2.2.2⟩
                  rw [hl, HRN.out]
                  split <;> omega
                case measure => simp [intOf]; omega
            | true =>
              cases mon with
              | false =>
                have hL2 : look (putR R (idOf a) ⟨⟨(p : Int), 0, (r : Int)⟩, true⟩) (idOf a) = some ⟨⟨(p : Int), 0, (r : Int)⟩, true⟩ := by
                  rw [look_put (HX.out.1).2.2.1, if_pos rfl, mxO_told, HT.out]
                  rfl
                have HG2 := Lib.hid (Get_any w9 m b _ (H9.out.2.fs (i := 0) rfl) (idOf a))
                rw [hL2] at HG2
                clear hL2
                simp only [Option.getD_some, Option.isSome_some, S3.v] at HG2
                go_wp2_with (first
                  | (refine opVal rfl (ex_ld32 rfl rfl H9.out.1.ax H32.out) ?_; simp only [Act.put, List.setIfInBounds_toArray, List.set_cons_zero, List.set_cons_succ])
                  | fail)
                refine HG2.out.mono ?_
                rintro e w10 ⟨rfl, hb10⟩
                have n16 := At.new w10 30 #[.int .i64 (p : Int), .int .i64 0, .int .i64 (r : Int)]
                have hb11 : Below w9.heap.size w9 (w10.alloc (.cells #[.int .i64 (p : Int), .int .i64 0, .int .i64 (r : Int)] 30)) := hb10.alloc hb10.size _
                have H11 := Lib.hid (And.intro (H9.out.1.below hb11) (And.intro (show At _ w10.heap.size ([.int .i64 (p : Int), .int .i64 0, .int .i64 (r : Int)] : List Value) from n16) (H9.out.2.below hb11)))
                clear hb10 n16 hb11
                have za0 := H11.out.1.a1.c 0 rfl
                have za1 := H11.out.1.a1.c 1 rfl
                have za2 := H11.out.1.a1.c 2 rfl
                have zb0 := H11.out.1.a2.c 0 rfl
                have zb1 := H11.out.1.a2.c 1 rfl
                have zb2 := H11.out.1.a2.c 2 rfl
                have zc0 := H11.out.2.1.c 0 rfl
                have zc1 := H11.out.2.1.c 1 rfl
                have zc2 := H11.out.2.1.c 2 rfl
                go_wp2_with fail
                refine (Same_any _ m b mo bo _ _ (H11.out.2.2.fs (i := 0) rfl) (H11.out.2.2.fs (i := 1) rfl)).mono ?_
                rw [decide_eq_false (told_ne HGR.out (show FM.right ⟨⟨(p : Int), 0, (r : Int)⟩, true⟩ from HRt.out) HT.out)]
                rintro e w12 ⟨rfl, hb12⟩
                have H12 := Lib.hid (And.intro (H11.out.1.below hb12) (And.intro (H11.out.2.1.below hb12) (H11.out.2.2.below hb12)))
                clear hb12 za0 za1 za2 zb0 zb1 zb2 zc0 zc1 zc2
                go_wp2_with fail
                refine (Len_any w12 m b _ (H12.out.2.2.fs (i := 0) rfl)).mono ?_
                rw [len_putR _ _ HGR.out.1, HMV.out.2, HRN.out]
                rintro e w13 ⟨rfl, rfl⟩
                have za0 := H12.out.1.a1.c 0 rfl
                have za1 := H12.out.1.a1.c 1 rfl
                have za2 := H12.out.1.a1.c 2 rfl
                have zb0 := H12.out.1.a2.c 0 rfl
                have zb1 := H12.out.1.a2.c 1 rfl
                have zb2 := H12.out.1.a2.c 2 rfl
                have zc0 := H12.out.2.1.c 0 rfl
                have zc1 := H12.out.2.1.c 1 rfl
                have zc2 := H12.out.2.1.c 2 rfl
                go_wp2_with fail
                go_roundw
                case rel =>
                  have hl := len_putR (idOf a) ⟨⟨(p : Int), 0, (r : Int)⟩, true⟩ HGR.out.1
                  refine ⟨k + 1, _, by go_num, hlt, H12.out.2.2.fs (i := 0) rfl, ?_, H12.out.2.2.2.2⟩
                  rw [hl, HRN.out]
                  split <;> omega
                case measure => simp [intOf]; omega
              | true =>
                obtain rfl : eq = false := by
                  refine HDE.out.2 ?_
                  have := HDE.out.1
                  cases lt
                  · cases eq <;> simp at this
                  · rfl
                have hL2 : look (putR R (idOf a) ⟨⟨(p : Int), 0, (r : Int)⟩, true⟩) (idOf a) = some ⟨⟨(p : Int), 0, (r : Int)⟩, true⟩ := by
                  rw [look_put (HX.out.1).2.2.1, if_pos rfl, mxO_told, HT.out]
                  rfl
                have HG2 := Lib.hid (Get_any w9 m b _ (H9.out.2.fs (i := 0) rfl) (idOf a))
                rw [hL2] at HG2
                clear hL2
                simp only [Option.getD_some, Option.isSome_some, S3.v] at HG2
                go_wp2_with (first
                  | (refine opVal rfl (ex_ld32 rfl rfl H9.out.1.ax H32.out) ?_; simp only [Act.put, List.setIfInBounds_toArray, List.set_cons_zero, List.set_cons_succ])
                  | fail)
                refine HG2.out.mono ?_
                rintro e w10 ⟨rfl, hb10⟩
                have n16 := At.new w10 30 #[.int .i64 (p : Int), .int .i64 0, .int .i64 (r : Int)]
                have hb11 : Below w9.heap.size w9 (w10.alloc (.cells #[.int .i64 (p : Int), .int .i64 0, .int .i64 (r : Int)] 30)) := hb10.alloc hb10.size _
                have H11 := Lib.hid (And.intro (H9.out.1.below hb11) (And.intro (show At _ w10.heap.size ([.int .i64 (p : Int), .int .i64 0, .int .i64 (r : Int)] : List Value) from n16) (H9.out.2.below hb11)))
                clear hb10 n16 hb11
                have za0 := H11.out.1.a1.c 0 rfl
                have za1 := H11.out.1.a1.c 1 rfl
                have za2 := H11.out.1.a1.c 2 rfl
                have zb0 := H11.out.1.a2.c 0 rfl
                have zb1 := H11.out.1.a2.c 1 rfl
                have zb2 := H11.out.1.a2.c 2 rfl
                have zc0 := H11.out.2.1.c 0 rfl
                have zc1 := H11.out.2.1.c 1 rfl
                have zc2 := H11.out.2.1.c 2 rfl
                go_wp2_with fail
                refine (Same_any _ m b mo bo _ _ (H11.out.2.2.fs (i := 0) rfl) (H11.out.2.2.fs (i := 1) rfl)).mono ?_
                rw [decide_eq_false (told_ne HGR.out (show FM.right ⟨⟨(p : Int), 0, (r : Int)⟩, true⟩ from HRt.out) HT.out)]
                rintro e w12 ⟨rfl, hb12⟩
                have H12 := Lib.hid (And.intro (H11.out.1.below hb12) (And.intro (H11.out.2.1.below hb12) (H11.out.2.2.below hb12)))
                clear hb12 za0 za1 za2 zb0 zb1 zb2 zc0 zc1 zc2
                go_wp2_with fail
                refine (Len_any w12 m b _ (H12.out.2.2.fs (i := 0) rfl)).mono ?_
                rw [len_putR _ _ HGR.out.1, HMV.out.2, HRN.out]
                rintro e w13 ⟨rfl, rfl⟩
                have za0 := H12.out.1.a1.c 0 rfl
                have za1 := H12.out.1.a1.c 1 rfl
                have za2 := H12.out.1.a1.c 2 rfl
                have zb0 := H12.out.1.a2.c 0 rfl
                have zb1 := H12.out.1.a2.c 1 rfl
                have zb2 := H12.out.1.a2.c 2 rfl
                have zc0 := H12.out.2.1.c 0 rfl
                have zc1 := H12.out.2.1.c 1 rfl
                have zc2 := H12.out.2.1.c 2 rfl
                go_wp2_with fail
                go_roundw
                case rel =>
                  have hl := len_putR (idOf a) ⟨⟨(p : Int), 0, (r : Int)⟩, true⟩ HGR.out.1
                  refine ⟨k + 1, _, by go_num, hlt, H12.out.2.2.fs (i := 0) rfl, ?_, H12.out.2.2.2.2⟩
                  rw [hl, HRN.out]
                  split <;> omega
                case measure => simp [intOf]; omega
          | false =>
            have hselfm := fun W => ne3 W ⟨mp, ml, mr⟩ ⟨mp, ml, mr⟩
            simp only [S3.v, decide_true, Bool.not_true] at hselfm
            have hL2 : look (putR R (idOf a) ⟨⟨(p : Int), 0, (r : Int)⟩, on⟩) (idOf a) = some ⟨⟨mp, ml, mr⟩, mon⟩ := by
              rw [look_put (HX.out.1).2.2.1, if_pos rfl, mxO_told, HT.out]
              rw [HSO.out]; rfl
            have HG2 := Lib.hid (Get_any w9 m b _ (H9.out.2.fs (i := 0) rfl) (idOf a))
            rw [hL2] at HG2
            clear hL2
            simp only [Option.getD_some, Option.isSome_some, S3.v] at HG2
            go_wp2_with (first
              | (refine opVal rfl (ex_ld32 rfl rfl H9.out.1.ax H32.out) ?_; simp only [Act.put, List.setIfInBounds_toArray, List.set_cons_zero, List.set_cons_succ])
              | fail)
            refine HG2.out.mono ?_
            rintro e w10 ⟨rfl, hb10⟩
            have n16 := At.new w10 30 #[.int .i64 mp, .int .i64 ml, .int .i64 mr]
            have hb11 : Below w9.heap.size w9 (w10.alloc (.cells #[.int .i64 mp, .int .i64 ml, .int .i64 mr] 30)) := hb10.alloc hb10.size _
            have H11 := Lib.hid (And.intro (H9.out.1.below hb11) (And.intro (show At _ w10.heap.size ([.int .i64 mp, .int .i64 ml, .int .i64 mr] : List Value) from n16) (H9.out.2.below hb11)))
            clear hb10 n16 hb11
            have za0 := H11.out.1.a1.c 0 rfl
            have za1 := H11.out.1.a1.c 1 rfl
            have za2 := H11.out.1.a1.c 2 rfl
            have zb0 := H11.out.1.a2.c 0 rfl
            have zb1 := H11.out.1.a2.c 1 rfl
            have zb2 := H11.out.1.a2.c 2 rfl
            have zc0 := H11.out.2.1.c 0 rfl
            have zc1 := H11.out.2.1.c 1 rfl
            have zc2 := H11.out.2.1.c 2 rfl
            go_wp2_with fail
            refine (Same_any _ m b mo bo _ _ (H11.out.2.2.fs (i := 0) rfl) (H11.out.2.2.fs (i := 1) rfl)).mono ?_
            rw [decide_eq_true (put_keep HGR.out.1 _ _ HT.out)]
            rintro e w12 ⟨rfl, hb12⟩
            have H12 := Lib.hid (And.intro (H11.out.1.below hb12) (And.intro (H11.out.2.1.below hb12) (H11.out.2.2.below hb12)))
            clear hb12 za0 za1 za2 zb0 zb1 zb2 zc0 zc1 zc2
            go_wp2_with fail
            refine (Len_any w12 m b _ (H12.out.2.2.fs (i := 0) rfl)).mono ?_
            rw [len_putR _ _ HGR.out.1, HMV.out.2, HRN.out]
            rintro e w13 ⟨rfl, rfl⟩
            have za0 := H12.out.1.a1.c 0 rfl
            have za1 := H12.out.1.a1.c 1 rfl
            have za2 := H12.out.1.a1.c 2 rfl
            have zb0 := H12.out.1.a2.c 0 rfl
            have zb1 := H12.out.1.a2.c 1 rfl
            have zb2 := H12.out.1.a2.c 2 rfl
            have zc0 := H12.out.2.1.c 0 rfl
            have zc1 := H12.out.2.1.c 1 rfl
            have zc2 := H12.out.2.1.c 2 rfl
            go_wp2_with fail
            obtain rfl : lt = false := by
              have := HDE.out.1
              cases lt
              · rfl
              · simp at this
            refine (HLe.out w12).mono ?_
            rintro e w14 ⟨rfl, hb14⟩
            have H14 := Lib.hid (And.intro (H12.out.1.below hb14) (And.intro (H12.out.2.1.below hb14) (H12.out.2.2.below hb14)))
            clear hb14 za0 za1 za2 zb0 zb1 zb2 zc0 zc1 zc2
            have za0 := H14.out.1.a1.c 0 rfl
            have za1 := H14.out.1.a1.c 1 rfl
            have za2 := H14.out.1.a1.c 2 rfl
            have zb0 := H14.out.1.a2.c 0 rfl
            have zb1 := H14.out.1.a2.c 1 rfl
            have zb2 := H14.out.1.a2.c 2 rfl
            have zc0 := H14.out.2.1.c 0 rfl
            have zc1 := H14.out.2.1.c 1 rfl
            have zc2 := H14.out.2.1.c 2 rfl
            cases eq with
            | false =>
              go_wp2_with fail
              go_roundw
              case rel =>
                have hl := len_putR (idOf a) ⟨⟨(p : Int), 0, (r : Int)⟩, on⟩ HGR.out.1
                refine ⟨k + 1, _, by go_num, hlt, H14.out.2.2.fs (i := 0) rfl, ?_, H14.out.2.2.2.2⟩
                rw [hl, HRN.out]
                split <;> omega
              case measure => simp [intOf]; omega
            | true =>
              cases on with
              | false =>
                go_wp2_with fail
                go_roundw
                case rel =>
                  have hl := len_putR (idOf a) ⟨⟨(p : Int), 0, (r : Int)⟩, false⟩ HGR.out.1
                  refine ⟨k + 1, _, by go_num, hlt, H14.out.2.2.fs (i := 0) rfl, ?_, H14.out.2.2.2.2⟩
                  rw [hl, HRN.out]
                  split <;> omega
                case measure => simp [intOf]; omega
              | true =>
                obtain rfl : mon = true := by
                  have := HDE.out.1
                  cases mon
                  · simp at this
                  · rfl
                go_wp2_with fail
                go_roundw
                case rel =>
                  have hl := len_putR (idOf a) ⟨⟨(p : Int), 0, (r : Int)⟩, true⟩ HGR.out.1
                  refine ⟨k + 1, _, by go_num, hlt, H14.out.2.2.fs (i := 0) rfl, ?_, H14.out.2.2.2.2⟩
                  rw [hl, HRN.out]
                  split <;> omega
                case measure => simp [intOf]; omega
      · obtain rfl : k = nn := by omega
        go_wp2_with fail
        go_ret
        exact ⟨rfl, HX.out.2.2⟩
end Go.Proofs.Ytjijhmeagjhfoaa

