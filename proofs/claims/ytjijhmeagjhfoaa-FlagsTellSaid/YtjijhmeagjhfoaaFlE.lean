/- Flags: maps.Equal, Same. -/
import Derived.Test.YtjijhmeagjhfoaaFlG
import Derived.Deep.LoopGhost
namespace Go.Proofs.Ytjijhmeagjhfoaa
open Go.RowKit Go.Maps
set_option maxRecDepth 20000

theorem markAgg (w : World) : (isAgg 68).run Try.prog w = .ok true w := by first | exact Try.isAgg68 w | go_simp
theorem markSize (w : World) : (sizeOf 68).run Try.prog w = .ok 4 w := by first | exact Try.sizeOf68 w | go_simp
theorem markZ (w : World) : (zeroValue 68).run Try.prog w = .ok (.agg #[.int .i64 0, .int .i64 0, .int .i64 0, .bool false]) w := markZero w
theorem neM (w : World) (a b : FM) : (binOp .neq 68 a.v b.v).run Try.prog w = .ok (.bool (!decide (a = b))) w := by
  unfold FM.v
  rw [run_neq_struct]
  obtain ⟨⟨p, l, r⟩, on⟩ := a
  obtain ⟨⟨p', l', r'⟩, on'⟩ := b
  go_simp
  by_cases h1 : p = p' <;> by_cases h2 : l = l' <;> by_cases h3 : r = r' <;> by_cases h4 : on = on' <;> simp [h1, h2, h3, h4]
theorem ex_neM {o : Oper} {a : Act} {w : World} {x y : Operand} (ho : o.op = .binOp .neq 68 x y 68) {m n : FM} (hx : a.eval x = .agg #[.int .i64 m.s.p, .int .i64 m.s.l, .int .i64 m.s.r, .bool m.on]) (hy : a.eval y = .agg #[.int .i64 n.s.p, .int .i64 n.s.l, .int .i64 n.s.r, .bool n.on]) {q : Bool} (hq : (!decide (m = n)) = q) : (execOp a.eval o).run Try.prog w = .ok (.value (.bool q)) w := by
  have h := neM w m n
  have hg := run_eqGuard_agg (P := Try.prog) w .neq 68 x y #[.int .i64 m.s.p, .int .i64 m.s.l, .int .i64 m.s.r, .bool m.on] #[.int .i64 n.s.p, .int .i64 n.s.l, .int .i64 n.s.r, .bool n.on] (by kernel_rfl)
  unfold FM.v at h
  simp only [execOp, ho, hx, hy, Sem.run_bind, hg, h, Result.andThen_ok, hq]
  rfl
theorem some_of {o : Option FM} {M : FM} (hM : o.getD zeroM = M) (hI : o.isSome = true) : o = some M := by
  cases o with
  | none => cases hI
  | some a => simpa using hM
theorem RangeIs.rangeLeft_below {P : Program} {t k e : TypeId} {α β : Type} [DecidableEq α] {T : MT P t k e α β} {w w' : World} {b r : Nat} {L : List (α × β)} {rem : List α} (h : RangeIs T w b r L rem) (hb : Below w.heap.size w w') : w'.rangeLeft b r = w.rangeLeft b r := by
  obtain ⟨h0, es, left, cnt, h1, _⟩ := h
  have h2 := h1.kept (grown_of_below hb none) (by simp) (by simp)
  rw [h1.left_eq, h2.left_eq]
theorem perm_of_sub {γ : Type} [DecidableEq γ] : ∀ (l k : List γ), l.Nodup → (∀ x ∈ l, x ∈ k) → l.length = k.length → l.Perm k
  | [], k, _, _, h => by
    have : k = [] := List.eq_nil_of_length_eq_zero (by simpa using h.symm)
    rw [this]
  | x :: l, k, hn, hs, h => by
    obtain ⟨h1, h2⟩ := List.nodup_cons.1 hn
    have hx := hs x (by simp)
    have hk := List.length_erase_of_mem hx
    have hp : 0 < k.length := List.length_pos_of_mem hx
    have ih := perm_of_sub l (k.erase x) h2 (fun y hy => (List.mem_erase_of_ne (fun e => h1 (by rw [← e]; exact hy))).2 (hs y (by simp [hy]))) (by rw [hk]; simp at h; omega)
    exact (List.Perm.cons x ih).trans (List.perm_cons_erase hx).symm
theorem same_of {R S : List FE} (hR : Rise R) (hS : Rise S) (hl : R.length = S.length) (h : ∀ p ∈ R, look S p.1 = some p.2) : R = S := by
  have nd : R.Nodup := hR.apart.imp fun {p q} h e => h (by rw [e])
  exact perm_rise (List.Perm.refl R) (perm_of_sub R S nd (fun p hp => look_mem (h p hp)) hl) hR hS
theorem eq_s2 {w1 w2 : World} (h : w2 = w1.alloc (.cells (bv z32).toArray 25)) : w2.heap.size = w1.heap.size + 1 ∧ At w2 w1.heap.size (bv z32) ∧ Below w1.heap.size w1 w2 := by
  subst h
  exact ⟨by simp, At.new w1 _ _, (Below.refl _ w1).alloc (Nat.le_refl _) _⟩
theorem eq_s3 {w1 w2 w3 : World} {zs : Array Value} {t : TypeId} (hq2 : w2.heap.size = w1.heap.size + 1 ∧ At w2 w1.heap.size (bv z32) ∧ Below w1.heap.size w1 w2) (h : w3 = w2.alloc (.cells zs t)) :
    At w3 w1.heap.size (bv z32) ∧ At w3 w2.heap.size zs.toList ∧ Below w1.heap.size w1 w3 ∧ w1.heap.size ≠ w2.heap.size ∧ w1.heap.size ≤ w2.heap.size := by
  subst h
  exact ⟨hq2.2.1.alloc _, At.new w2 _ _, hq2.2.2.alloc hq2.2.2.size _, by omega, by omega⟩
theorem eq_s4 {w1 w2 w3 w4 : World} {zs : List Value} {l : List UInt8} (hl : (bv l).length = 32) (hq3 : At w3 w1.heap.size (bv z32) ∧ At w3 w2.heap.size zs ∧ Below w1.heap.size w1 w3 ∧ w1.heap.size ≠ w2.heap.size ∧ w1.heap.size ≤ w2.heap.size) (h : w4 = putL w3 w1.heap.size 0 (bv l)) :
    At w4 w1.heap.size (bv l) ∧ At w4 w2.heap.size zs ∧ Below w1.heap.size w1 w4 := by
  subst h
  exact ⟨hq3.1.putL _ (by rw [hl]; rfl), hq3.2.1.putL_other _ 0 _ hq3.2.2.2.1, below_putL _ 0 hq3.2.2.1 (Nat.le_refl _)⟩
theorem eq_s5 {w1 w2 w4 w5 : World} {zs us : List Value} {l : List UInt8} (hl : us.length = zs.length) (hne : w1.heap.size ≠ w2.heap.size) (hle : w1.heap.size ≤ w2.heap.size) (hq4 : At w4 w1.heap.size (bv l) ∧ At w4 w2.heap.size zs ∧ Below w1.heap.size w1 w4) (h : w5 = putL w4 w2.heap.size 0 us) :
    At w5 w1.heap.size (bv l) ∧ At w5 w2.heap.size us ∧ Below w1.heap.size w1 w5 := by
  subst h
  exact ⟨hq4.1.putL_other _ 0 _ (fun e => hne e.symm), hq4.2.1.putL _ hl, below_putL _ 0 hq4.2.2 hle⟩
theorem eq_s6 {w1 w2 w5 w6 : World} {us : List Value} {l : List UInt8} {zs : Array Value} {t : TypeId} (hq5 : At w5 w1.heap.size (bv l) ∧ At w5 w2.heap.size us ∧ Below w1.heap.size w1 w5) (h : w6 = w5.alloc (.cells zs t)) :
    At w6 w2.heap.size us ∧ At w6 w5.heap.size zs.toList ∧ Below w1.heap.size w1 w6 ∧ w2.heap.size ≠ w5.heap.size ∧ w1.heap.size ≤ w5.heap.size := by
  subst h
  exact ⟨hq5.2.1.alloc _, At.new w5 _ _, hq5.2.2.alloc hq5.2.2.size _, by have := hq5.2.1.1; omega, hq5.2.2.size⟩
theorem eq_s7 {w1 w2 w5 w6 w7 : World} {us vs zs : List Value} (hl : vs.length = zs.length) (hq6 : At w6 w2.heap.size us ∧ At w6 w5.heap.size zs ∧ Below w1.heap.size w1 w6 ∧ w2.heap.size ≠ w5.heap.size ∧ w1.heap.size ≤ w5.heap.size) (h : w7 = putL w6 w5.heap.size 0 vs) :
    At w7 w2.heap.size us ∧ At w7 w5.heap.size vs ∧ Below w1.heap.size w1 w7 := by
  subst h
  exact ⟨hq6.1.putL_other _ 0 _ (fun e => hq6.2.2.2.1 e.symm), hq6.2.1.putL _ hl, below_putL _ 0 hq6.2.2.1 hq6.2.2.2.2⟩
def SoFar (R S : List FE) (rem : List ID) : Prop := ∀ p ∈ R, p.1 ∉ rem → look S p.1 = some p.2
set_option maxHeartbeats 3200000 in
theorem Equal_any (w : World) (b1 b2 : Nat) (L1 R1 L2 R2 : List FE) (h1 : MapIs MF w b1 L1) (p1 : L1.Perm R1) (r1 : Rise R1) (h2 : MapIs MF w b2 L2) (p2 : L2.Perm R2) (r2 : Rise R2) :
    Calls Try.prog 26 #[.map (some b1), .map (some b2)] w fun e w' => e = .returned (.bool (decide (R1 = R2))) ∧ w.grownBy w' none := by
  have l1 := fun ty => h1.len_run ty
  have l2 := fun ty => h2.len_run ty
  rw [p1.length_eq] at l1
  rw [p2.length_eq] at l2
  have HP := Lib.hid (And.intro p1 (And.intro r1 (And.intro p2 r2)))
  have hap := h1.apart
  have HAP := Lib.hid hap
  clear p1 r1 p2 r2 hap
  obtain ⟨res, hres⟩ : ∃ res, res = decide (R1 = R2) := ⟨_, rfl⟩
  rw [← hres]
  have HR := Lib.hid hres
  clear hres
  have hblt := h2.lt
  by_cases hl : R1.length = R2.length
  · go_enter Try.func26, Try.ntmps26
    go_wp2_with (first
      | (at_range; refine mrange rfl rfl h1 rfl ?_; intro w0 hrg0 hg0 hs0)
      | go_in)
    go_frame
    have H2 := Lib.hid (h2.kept hg0 (by simp))
    clear h1 h2 l1 l2
    go_loopw [16] (fun _ wr => ∃ rem : List ID, RangeIs MF wr b1 w.heap.size L1 rem ∧ MapIs MF wr b2 L2 ∧ w.grownBy wr none ∧ SoFar R1 R2 rem)
      (fun _ wr => wr.rangeLeft b1 w.heap.size)
    case atStart => exact ⟨_, hrg0, H2.out, hg0, fun p hp hn => absurd (List.mem_map.2 ⟨p, HP.out.1.mem_iff.2 hp, rfl⟩) hn⟩
    case round =>
      clear hrg0 hg0 hs0 H2
      obtain ⟨rem, hrg, h2r, hgw, hso⟩ := hrel
      have HSO := Lib.hid hso
      clear hso
      go_wp2_with (first
        | (at_next; refine mnext rfl rfl hrg rfl ?_ ?_)
        | go_in)
      · intro hrem
        go_wp2
        go_ret
        refine ⟨?_, hgw⟩
        rw [HR.out, decide_eq_true (same_of HP.out.2.1 HP.out.2.2.2 hl (fun p hp => HSO.out p hp (by rw [hrem]; simp)))]
        rfl
      · intro c d w1 hc _ hlc hrg1 hg1 hs1 hen hlt
        have hgw1 : w.grownBy w1 none := hgw.andThen hg1 (fun j hj => by cases hj; exact Or.inl (Nat.le_refl _))
        have h2w1 := h2r.kept hg1 (fun e => by have := Option.some.inj e; omega)
        obtain ⟨⟨p, l, r⟩, on⟩ := d
        replace hen : (Instr.entry (.pointer (some ⟨w.heap.size, 0, none⟩))).run Try.prog w1 = .ok (.tuple #[.agg (bv c.l).toArray, .agg #[.int .i64 p, .int .i64 l, .int .i64 r, .bool on]]) w1 := hen
        have hmc : look R1 c = some ⟨⟨p, l, r⟩, on⟩ := by rw [← look_perm HP.out.1 HP.out.2.1]; exact hlc
        obtain ⟨⟨⟨p', l', r'⟩, on'⟩, hM⟩ : ∃ M, (look R2 c).getD zeroM = M := ⟨_, rfl⟩
        obtain ⟨is, hI⟩ : ∃ is, (look R2 c).isSome = is := ⟨_, rfl⟩
        have HM := Lib.hid (And.intro hM hI)
        have HMC := Lib.hid hmc
        clear hM hI hmc hlc
        have HH := Lib.hid (And.intro hrg1 (And.intro h2w1 (And.intro c.h (show (bv c.l).length = 32 by rw [bv_len, c.h]))))
        clear hs1 h2w1 hrg1
        obtain ⟨q, hq⟩ : ∃ q, (!decide ((⟨⟨p, l, r⟩, on⟩ : FM) = ⟨⟨p', l', r'⟩, on'⟩)) = q := ⟨_, rfl⟩
        have HQ := Lib.hid hq
        clear hq
        cases is with
        | false =>
          go_wp2_with (first
          | (refine opValV rfl (ex_al32 rfl) ?_; intro w2 hw2; have hq2 := Lib.hid (eq_s2 hw2); clear hw2; simp only [Act.put, List.setIfInBounds_toArray, List.set_cons_zero, List.set_cons_succ])
          | (have _ := hq5; refine opValV rfl (ex_alT markZ rfl) ?_; intro w6 hw6; have hq6 := Lib.hid (eq_s6 hq5.out hw6); clear hw6; simp only [Act.put, List.setIfInBounds_toArray, List.set_cons_zero, List.set_cons_succ])
          | (refine opValV rfl (ex_alT markZ rfl) ?_; intro w3 hw3; have hq3 := Lib.hid (eq_s3 hq2.out hw3); clear hw3; simp only [Act.put, List.setIfInBounds_toArray, List.set_cons_zero, List.set_cons_succ])
          | (refine opSkipV rfl (ex_st32 rfl rfl rfl hq3.out.1 (by rfl) HH.out.2.2.2 (bv_one _)) ?_; intro w4 hw4; have hq4 := Lib.hid (eq_s4 HH.out.2.2.2 hq3.out hw4); clear hw4; simp only [Act.put])
          | (refine opSkipV rfl (ex_stT markSize (by rfl) (by rfl) (us := [.int .i64 p, .int .i64 l, .int .i64 r, .bool on]) (by rfl) hq4.out.2.1 rfl rfl (by simp [Value.oneCell'])) ?_; intro w5 hw5; have hq5 := Lib.hid (eq_s5 (by rfl) hq3.out.2.2.2.1 hq3.out.2.2.2.2 hq4.out hw5); clear hw5; simp only [Act.put])
          | (refine opVal rfl (ex_ld32 rfl rfl hq5.out.1 HH.out.2.2.2) ?_; simp only [Act.put, List.setIfInBounds_toArray, List.set_cons_zero, List.set_cons_succ])
          | (refine opVal rfl (look_fs (HH.out.2.1.below hq5.out.2.2) HP.out.2.2.1 HP.out.2.2.2 c rfl rfl rfl HM.out.1 HM.out.2) ?_; simp only [Act.put, List.setIfInBounds_toArray, List.set_cons_zero, List.set_cons_succ])
          | (refine opSkipV rfl (ex_stT markSize (by rfl) (by rfl) (us := [.int .i64 p', .int .i64 l', .int .i64 r', .bool on']) (by rfl) hq6.out.2.1 rfl rfl (by simp [Value.oneCell'])) ?_; intro w7 hw7; have hq7 := Lib.hid (eq_s7 (by rfl) hq6.out hw7); clear hw7; simp only [Act.put])
          | (refine opValG rfl (ex_ldT markAgg markSize rfl rfl hq7.out.1 rfl) ?_; simp only [Act.put, List.setIfInBounds_toArray, List.set_cons_zero, List.set_cons_succ])
          | (refine opValG rfl (ex_ldT markAgg markSize rfl rfl hq7.out.2.1 rfl) ?_; simp only [Act.put, List.setIfInBounds_toArray, List.set_cons_zero, List.set_cons_succ])
          | (refine opValG rfl (ex_neM (m := ⟨⟨p, l, r⟩, on⟩) (n := ⟨⟨p', l', r'⟩, on'⟩) (by rfl) (by rfl) (by rfl) HQ.out) ?_; simp only [Act.put, List.setIfInBounds_toArray, List.set_cons_zero, List.set_cons_succ]))
          go_ret
          refine ⟨?_, hgw1.andThen (grown_of_below hq7.out.2.2 none) (fun j hj => by cases hj)⟩
          rw [HR.out, decide_eq_false (fun e => by
            have h1 := HMC.out
            have h2 := HM.out.2
            rw [e] at h1
            rw [h1] at h2
            cases h2)]
          rfl
        | true =>
          have hsm := some_of HM.out.1 HM.out.2
          cases q with
          | true =>
            have HNE := Lib.hid (show (⟨⟨p, l, r⟩, on⟩ : FM) ≠ ⟨⟨p', l', r'⟩, on'⟩ by have := HQ.out; simp only [Bool.not_eq_true', decide_eq_false_iff_not] at this; exact this)
            have HSM := Lib.hid hsm
            clear hsm
            go_wp2_with (first
          | (refine opValV rfl (ex_al32 rfl) ?_; intro w2 hw2; have hq2 := Lib.hid (eq_s2 hw2); clear hw2; simp only [Act.put, List.setIfInBounds_toArray, List.set_cons_zero, List.set_cons_succ])
          | (have _ := hq5; refine opValV rfl (ex_alT markZ rfl) ?_; intro w6 hw6; have hq6 := Lib.hid (eq_s6 hq5.out hw6); clear hw6; simp only [Act.put, List.setIfInBounds_toArray, List.set_cons_zero, List.set_cons_succ])
          | (refine opValV rfl (ex_alT markZ rfl) ?_; intro w3 hw3; have hq3 := Lib.hid (eq_s3 hq2.out hw3); clear hw3; simp only [Act.put, List.setIfInBounds_toArray, List.set_cons_zero, List.set_cons_succ])
          | (refine opSkipV rfl (ex_st32 rfl rfl rfl hq3.out.1 (by rfl) HH.out.2.2.2 (bv_one _)) ?_; intro w4 hw4; have hq4 := Lib.hid (eq_s4 HH.out.2.2.2 hq3.out hw4); clear hw4; simp only [Act.put])
          | (refine opSkipV rfl (ex_stT markSize (by rfl) (by rfl) (us := [.int .i64 p, .int .i64 l, .int .i64 r, .bool on]) (by rfl) hq4.out.2.1 rfl rfl (by simp [Value.oneCell'])) ?_; intro w5 hw5; have hq5 := Lib.hid (eq_s5 (by rfl) hq3.out.2.2.2.1 hq3.out.2.2.2.2 hq4.out hw5); clear hw5; simp only [Act.put])
          | (refine opVal rfl (ex_ld32 rfl rfl hq5.out.1 HH.out.2.2.2) ?_; simp only [Act.put, List.setIfInBounds_toArray, List.set_cons_zero, List.set_cons_succ])
          | (refine opVal rfl (look_fs (HH.out.2.1.below hq5.out.2.2) HP.out.2.2.1 HP.out.2.2.2 c rfl rfl rfl HM.out.1 HM.out.2) ?_; simp only [Act.put, List.setIfInBounds_toArray, List.set_cons_zero, List.set_cons_succ])
          | (refine opSkipV rfl (ex_stT markSize (by rfl) (by rfl) (us := [.int .i64 p', .int .i64 l', .int .i64 r', .bool on']) (by rfl) hq6.out.2.1 rfl rfl (by simp [Value.oneCell'])) ?_; intro w7 hw7; have hq7 := Lib.hid (eq_s7 (by rfl) hq6.out hw7); clear hw7; simp only [Act.put])
          | (refine opValG rfl (ex_ldT markAgg markSize rfl rfl hq7.out.1 rfl) ?_; simp only [Act.put, List.setIfInBounds_toArray, List.set_cons_zero, List.set_cons_succ])
          | (refine opValG rfl (ex_ldT markAgg markSize rfl rfl hq7.out.2.1 rfl) ?_; simp only [Act.put, List.setIfInBounds_toArray, List.set_cons_zero, List.set_cons_succ])
          | (refine opValG rfl (ex_neM (m := ⟨⟨p, l, r⟩, on⟩) (n := ⟨⟨p', l', r'⟩, on'⟩) (by rfl) (by rfl) (by rfl) HQ.out) ?_; simp only [Act.put, List.setIfInBounds_toArray, List.set_cons_zero, List.set_cons_succ]))
            go_ret
            refine ⟨?_, hgw1.andThen (grown_of_below hq7.out.2.2 none) (fun j hj => by cases hj)⟩
            rw [HR.out, decide_eq_false (fun e => by
              have h1 := HMC.out
              rw [e, HSM.out] at h1
              exact HNE.out (Option.some.inj h1).symm)]
            rfl
          | false =>
            have hme : (⟨⟨p, l, r⟩, on⟩ : FM) = ⟨⟨p', l', r'⟩, on'⟩ := by have := HQ.out; simp only [Bool.not_eq_false', decide_eq_true_eq] at this; exact this
            have HSM := Lib.hid (hsm.trans (congrArg some hme.symm))
            clear hsm hme
            go_wp2_with (first
          | (refine opValV rfl (ex_al32 rfl) ?_; intro w2 hw2; have hq2 := Lib.hid (eq_s2 hw2); clear hw2; simp only [Act.put, List.setIfInBounds_toArray, List.set_cons_zero, List.set_cons_succ])
          | (have _ := hq5; refine opValV rfl (ex_alT markZ rfl) ?_; intro w6 hw6; have hq6 := Lib.hid (eq_s6 hq5.out hw6); clear hw6; simp only [Act.put, List.setIfInBounds_toArray, List.set_cons_zero, List.set_cons_succ])
          | (refine opValV rfl (ex_alT markZ rfl) ?_; intro w3 hw3; have hq3 := Lib.hid (eq_s3 hq2.out hw3); clear hw3; simp only [Act.put, List.setIfInBounds_toArray, List.set_cons_zero, List.set_cons_succ])
          | (refine opSkipV rfl (ex_st32 rfl rfl rfl hq3.out.1 (by rfl) HH.out.2.2.2 (bv_one _)) ?_; intro w4 hw4; have hq4 := Lib.hid (eq_s4 HH.out.2.2.2 hq3.out hw4); clear hw4; simp only [Act.put])
          | (refine opSkipV rfl (ex_stT markSize (by rfl) (by rfl) (us := [.int .i64 p, .int .i64 l, .int .i64 r, .bool on]) (by rfl) hq4.out.2.1 rfl rfl (by simp [Value.oneCell'])) ?_; intro w5 hw5; have hq5 := Lib.hid (eq_s5 (by rfl) hq3.out.2.2.2.1 hq3.out.2.2.2.2 hq4.out hw5); clear hw5; simp only [Act.put])
          | (refine opVal rfl (ex_ld32 rfl rfl hq5.out.1 HH.out.2.2.2) ?_; simp only [Act.put, List.setIfInBounds_toArray, List.set_cons_zero, List.set_cons_succ])
          | (refine opVal rfl (look_fs (HH.out.2.1.below hq5.out.2.2) HP.out.2.2.1 HP.out.2.2.2 c rfl rfl rfl HM.out.1 HM.out.2) ?_; simp only [Act.put, List.setIfInBounds_toArray, List.set_cons_zero, List.set_cons_succ])
          | (refine opSkipV rfl (ex_stT markSize (by rfl) (by rfl) (us := [.int .i64 p', .int .i64 l', .int .i64 r', .bool on']) (by rfl) hq6.out.2.1 rfl rfl (by simp [Value.oneCell'])) ?_; intro w7 hw7; have hq7 := Lib.hid (eq_s7 (by rfl) hq6.out hw7); clear hw7; simp only [Act.put])
          | (refine opValG rfl (ex_ldT markAgg markSize rfl rfl hq7.out.1 rfl) ?_; simp only [Act.put, List.setIfInBounds_toArray, List.set_cons_zero, List.set_cons_succ])
          | (refine opValG rfl (ex_ldT markAgg markSize rfl rfl hq7.out.2.1 rfl) ?_; simp only [Act.put, List.setIfInBounds_toArray, List.set_cons_zero, List.set_cons_succ])
          | (refine opValG rfl (ex_neM (m := ⟨⟨p, l, r⟩, on⟩) (n := ⟨⟨p', l', r'⟩, on'⟩) (by rfl) (by rfl) (by rfl) HQ.out) ?_; simp only [Act.put, List.setIfInBounds_toArray, List.set_cons_zero, List.set_cons_succ]))
            have hbx := hq7.out.2.2
            have hgx := grown_of_below hbx none
            go_roundw
            case rel =>
              refine ⟨_, HH.out.1.kept hgx (by simp) (by simp), HH.out.2.1.kept hgx (by simp), hgw1.andThen hgx (fun j hj => by cases hj), fun pr hpr hnr => ?_⟩
              by_cases hec : pr.1 = c
              · have h1 := find_mem HP.out.2.1.apart hpr
                rw [hec] at h1 ⊢
                rw [HSM.out, ← HMC.out, h1]
              · exact HSO.out pr hpr (fun hin => hnr ((List.mem_erase_of_ne hec).2 hin))
            case measure =>
              have e1 := HH.out.1.rangeLeft_below hbx
              rw [e1]; exact hlt
  · have hne : ¬ ((R1.length : Int) = (R2.length : Int)) := fun e => hl (by exact_mod_cast e)
    go_enter Try.func26, Try.ntmps26
    go_wp2
    go_ret
    exact ⟨by rw [HR.out, decide_eq_false (fun e => hl (by rw [e]))]; rfl, World.grownBy.refl _ _⟩
end Go.Proofs.Ytjijhmeagjhfoaa

