/- 'CrcLinear': the walk of the law. -/
import Derived.Test.YtandbancbgojjaaCrcB
import Derived.Test.YtandbancbgojjaaPar
namespace Go.Proofs.Ytandbancbgojjaa
open Go.RowKit Go.Proofs.Ytandbancbgojjaa.Pc Go.Proofs.Ytandbancbgojjaa.Pl

theorem SlcIs.kb {w w' : World} {v : Value} {l : List UInt8} (h : SlcIs w v l) (k : KB w.heap w') : SlcIs w' v l := by
  obtain ⟨A, c, e, h1, h2, h3⟩ := h
  exact ⟨A, c, e, (h1.kb k).more k.1, h2, h3⟩
theorem Mat.kb {w w' : World} {A : Option Addr} {ls : List (List UInt8)} (h : Mat w A ls) (k : KB w.heap w') : Mat w' A ls := by
  obtain ⟨vs, h1, h2, h3⟩ := h
  exact ⟨vs, (h1.kb k).more k.1, h2, fun i v hv => (h3 i v hv).kb k⟩
def Yld.mat (j : Nat) (d : Option Tmp) (l : List UInt8) : Yld := ⟨j, d, fun v w => ∃ A, v = .slice A 1 1 ∧ Mat w A [l], fun _ _ _ ⟨A, h, h'⟩ k => ⟨A, h, h'.kb k⟩⟩
/-- the row after i of its bytes have been turned -/
def lst (A B C : List UInt8) : Nat → List UInt8
  | 0 => A
  | i + 1 => (lst A B C i).set i (A[i]?.getD 0 ^^^ B[i]?.getD 0 ^^^ C[i]?.getD 0)
theorem lst_len (A B C : List UInt8) : ∀ i, (lst A B C i).length = A.length
  | 0 => rfl
  | i + 1 => by simp [lst, lst_len A B C i]
theorem xor3_get : ∀ (A B C : List UInt8) (j : Nat), A.length = B.length → B.length = C.length → j < A.length → (xor3 A B C)[j]? = some (A[j]?.getD 0 ^^^ B[j]?.getD 0 ^^^ C[j]?.getD 0)
  | [], _, _, j, _, _, h => by simp at h
  | a :: at0, [], _, _, h, _, _ => by simp at h
  | a :: at0, b :: bs, [], _, _, h, _ => by simp at h
  | a :: at0, b :: bs, c :: cs, 0, _, _, _ => by simp [xor3]
  | a :: at0, b :: bs, c :: cs, j + 1, h1, h2, h3 => by
    simp only [xor3, List.getElem?_cons_succ]
    exact xor3_get at0 bs cs j (by simpa using h1) (by simpa using h2) (by simpa using h3)
theorem xor3_len : ∀ (A B C : List UInt8), A.length = B.length → B.length = C.length → (xor3 A B C).length = A.length
  | [], _, _, _, _ => by simp [xor3]
  | a :: at0, [], _, h, _ => by simp at h
  | a :: at0, b :: bs, [], _, h => by simp at h
  | a :: at0, b :: bs, c :: cs, h1, h2 => by simp [xor3, xor3_len at0 bs cs (by simpa using h1) (by simpa using h2)]
theorem lst_get (A B C : List UInt8) (h1 : A.length = B.length) (h2 : B.length = C.length) : ∀ (i j : Nat), i ≤ A.length → (lst A B C i)[j]? = if j < i then (xor3 A B C)[j]? else A[j]?
  | 0, j, _ => by simp [lst]
  | i + 1, j, h => by
    simp only [lst, List.getElem?_set, lst_len]
    by_cases e : i = j
    · subst e
      rw [if_pos rfl, if_pos (by omega), if_pos (by omega), xor3_get A B C i h1 h2 (by omega)]
    · rw [if_neg e, lst_get A B C h1 h2 i j (by omega)]
      by_cases h3 : j < i
      · rw [if_pos h3, if_pos (by omega)]
      · rw [if_neg h3, if_neg (by omega)]
theorem lst_all (A B C : List UInt8) (h1 : A.length = B.length) (h2 : B.length = C.length) : lst A B C A.length = xor3 A B C := by
  apply List.ext_getElem?
  intro j
  rw [lst_get A B C h1 h2 _ _ (Nat.le_refl _)]
  by_cases h : j < A.length
  · rw [if_pos h]
  · rw [if_neg h, List.getElem?_eq_none (by omega), List.getElem?_eq_none (by rw [xor3_len A B C h1 h2]; omega)]

def LinRel (w1 : World) (A B C : List UInt8) (n : Nat) (s : Value) (x : Value) (wr : World) : Prop := ∃ i : Nat, i ≤ n ∧ x = .int .i64 (i : Int) ∧ OwnB wr w1.heap.size s (lst A B C i) ∧ Below w1.heap.size w1 wr
set_option maxRecDepth 100000 in
set_option maxHeartbeats 3200000 in
theorem CrcLinear_walk (w : World) (A : Option Addr) (c : Nat) (l : List UInt8) (hb : Sl w w.heap.size A (bv l)) (hc : l.length ≤ c) (hm : c ≤ 140737488351232) (A1 : Option Addr) (c1 : Nat) (l1 : List UInt8) (hb1 : Sl w w.heap.size A1 (bv l1)) (hc1 : l1.length ≤ c1) (hm1 : c1 ≤ 140737488351232) (A2 : Option Addr) (c2 : Nat) (l2 : List UInt8) (hb2 : Sl w w.heap.size A2 (bv l2)) (hc2 : l2.length ≤ c2) (hm2 : c2 ≤ 140737488351232) :
    Calls Try.prog 5 #[.slice A l.length c, .slice A1 l1.length c1, .slice A2 l2.length c2] w fun e w' => e = .returned (.bool true) ∧ Below w.heap.size w w' := by
  obtain ⟨n, hn, hn0, hn1, hn2⟩ : ∃ n : Nat, (if (l2.length : Int) < (if (l1.length : Int) < (l.length : Int) then (l1.length : Int) else (l.length : Int)) then (l2.length : Int) else (if (l1.length : Int) < (l.length : Int) then (l1.length : Int) else (l.length : Int))) = (n : Int) ∧ n ≤ l.length ∧ n ≤ l1.length ∧ n ≤ l2.length := by
    refine ⟨min l2.length (min l1.length l.length), ?_, ?_, ?_, ?_⟩
    · repeat' split
      all_goals omega
    all_goals omega
  have hmin : ∀ W, (Builtin.min_ #[3, 3, 3] 3 #[.int .i64 (l.length : Int), .int .i64 (l1.length : Int), .int .i64 (l2.length : Int)]).run Try.prog W = .ok (.int .i64 (n : Int)) W := by
    intro W
    rw [run_min_int3, hn]
  clear hn
  have i1 : (n : Int) ≤ (c : Int) := by omega
  have i2 : (n : Int) ≤ (l.length : Int) := by omega
  have i3 : (0 : Int) ≤ (n : Int) := by omega
  have i4 : (n : Int) ≤ (c1 : Int) := by omega
  have i5 : (n : Int) ≤ (c2 : Int) := by omega
  go_enter Try.func5, Try.ntmps5
  go_wp2_with fail
  refine (known_any w).mono ?_
  rintro e w1 ⟨rfl, hbw1⟩
  have hL : (l.take n).length = n := by rw [List.length_take]; omega
  have hL1 : (l1.take n).length = n := by rw [List.length_take]; omega
  have hL2 : (l2.take n).length = n := by rw [List.length_take]; omega
  have hk0 : Sl w1 w1.heap.size A (bv (l.take n)) := by have := ((hb.below hbw1).more hbw1.size).tk n; rw [bv_take] at this; exact this
  have hk1 : Sl w1 w1.heap.size A1 (bv (l1.take n)) := by have := ((hb1.below hbw1).more hbw1.size).tk n; rw [bv_take] at this; exact this
  have hk2 : Sl w1 w1.heap.size A2 (bv (l2.take n)) := by have := ((hb2.below hbw1).more hbw1.size).tk n; rw [bv_take] at this; exact this
  go_wp2_with (at_builtin; refine app rfl rfl (OwnB.nil w1 w1.heap.size) hk0 hL.symm rfl rfl (by simp only [List.length_nil]; omega) (Nat.le_refl _) ?_; intro s2 w2 hown2 hg2 hat2)
  have hb2' : Below w1.heap.size w1 w2 := below_of_grown hg2 (by simp [Value.ownBlock]) (Nat.le_refl _)
  rw [List.nil_append] at hown2
  clear hat2 hg2
  obtain ⟨A3, c3, rfl, hc3, hm3, hs3, hn3, hA3⟩ := hown2.form
  have hlin := sum_lin (l.take n) (l1.take n) (l2.take n) (hL.trans hL1.symm) (hL1.trans hL2.symm)
  rw [← lst_all _ _ _ (hL.trans hL1.symm) (hL1.trans hL2.symm)] at hlin
  have hll := lst_len (l.take n) (l1.take n) (l2.take n)
  rw [hL] at hc3 hown2 hlin hll
  have hbw2 := bstep hbw1 hb2'
  clear hmin
  go_wp2_with fail
  rw [hL]
  have hs0 := hk0.below hb2'
  generalize l.take n = L at *
  generalize l1.take n = L1 at *
  generalize l2.take n = L2 at *
  have HLIN := Lib.hid hlin
  clear hlin hs3 hs0
  have hown3 : OwnB w2 w1.heap.size (.slice A3 n c3) (lst L L1 L2 0) := hown2
  clear hown2
  go_loopw [9] (fun x9 wr => LinRel w1 L L1 L2 n (.slice A3 n c3) x9 wr) (fun x9 _ => n - (intOf x9).toNat)
  case atStart => exact ⟨0, Nat.zero_le _, rfl, hown3, hb2'⟩
  case round =>
    obtain ⟨i, hi, rfl, hown, hbel⟩ := hrel
    have hll := lst_len L L1 L2 i
    by_cases hlt : i < n
    · obtain ⟨b, o, rfl, _, _, hce⟩ := hk0.at_ (k := i) (by simpa using (by omega : i < L.length))
      obtain ⟨b1, o1, rfl, _, _, hce1⟩ := hk1.at_ (k := i) (by simpa using (by omega : i < L1.length))
      obtain ⟨b2, o2, rfl, _, _, hce2⟩ := hk2.at_ (k := i) (by simpa using (by omega : i < L2.length))
      have hcl := cellB (hce i _ (bv_get L i (by omega)))
      have hcl1 := cellB (hce1 i _ (bv_get L1 i (by omega)))
      have hcl2 := cellB (hce2 i _ (bv_get L2 i (by omega)))
      obtain ⟨g, cap, hsl, hg, hgw, hcap, hcapm⟩ := hown.head (by omega)
      rw [hll, hL] at hsl
      injection hsl with q1 q2 q3
      subst q1 q3
      obtain ⟨hcell, hfz, hst, hgr⟩ := OwnB.store hown i (L[i]?.getD 0 ^^^ L1[i]?.getD 0 ^^^ L2[i]?.getD 0).toNat (by omega) (UInt8.toNat_lt _)
      have hlst : lst L L1 L2 (i + 1) = (lst L L1 L2 i).set i (L[i]?.getD 0 ^^^ L1[i]?.getD 0 ^^^ L2[i]?.getD 0) := rfl
      rw [UInt8.ofNat_toNat, ← hlst] at hst
      have HST := Lib.hid hst
      have hx1 := xor_u8 (L[i]?.getD 0) (L1[i]?.getD 0)
      have hx2 := xor_u8 (L[i]?.getD 0 ^^^ L1[i]?.getD 0) (L2[i]?.getD 0)
      clear hce hce1 hce2 hlst hst hll
      generalize (lst L L1 L2 i)[i]?.getD 0 = y9 at *
      generalize L[i]?.getD 0 ^^^ L1[i]?.getD 0 ^^^ L2[i]?.getD 0 = z at *
      generalize L[i]?.getD 0 ^^^ L1[i]?.getD 0 = y at *
      generalize L[i]?.getD 0 = y0 at *
      generalize L1[i]?.getD 0 = y1 at *
      generalize L2[i]?.getD 0 = y2 at *
      have j0 : (i : Int) < (l.length : Int) := by omega
      have j1 : (i : Int) < (l1.length : Int) := by omega
      have j2 : (i : Int) < (l2.length : Int) := by omega
      have j3 : (i : Int) < (n : Int) := by omega
      go_wp2_with fail
      have hS0 : KB w1.heap wr.drew := KB.of hbel.drew
      refine bstartH (w1.heap) (by kernel_rfl) ?_
      refine btake 0 (oi := _) (v := ?_) (by simp only [List.getElem?_toArray, List.getElem?_cons_succ, List.getElem?_cons_zero]; rfl) (by kernel_rfl) (by exact fun _ _ _ h => h) (by first | assumption | exact KB.refl _) (.inl ⟨by rfl, fun W hW => ?_⟩) ?_; rotate_left
      · (go_simp; first | done | with_reducible rfl)
      try simp only [Act.put, List.setIfInBounds_toArray, List.set_cons_zero, List.set_cons_succ]
      refine btake 1 (oi := _) (v := ?_) (by simp only [List.getElem?_toArray, List.getElem?_cons_succ, List.getElem?_cons_zero]; rfl) (by kernel_rfl) (by exact fun _ _ _ h => h) (by first | assumption | exact KB.refl _) (.inl ⟨by rfl, fun W hW => ?_⟩) ?_; rotate_left
      · (go_simp; first | done | with_reducible rfl)
      try simp only [Act.put, List.setIfInBounds_toArray, List.set_cons_zero, List.set_cons_succ]
      refine btake 2 (oi := _) (v := ?_) (by simp only [List.getElem?_toArray, List.getElem?_cons_succ, List.getElem?_cons_zero]; rfl) (by kernel_rfl) (by exact fun _ _ _ h => h) (by first | assumption | exact KB.refl _) (.inl ⟨by rfl, fun W hW => ?_⟩) ?_; rotate_left
      · (go_simp; first | done | with_reducible rfl)
      try simp only [Act.put, List.setIfInBounds_toArray, List.set_cons_zero, List.set_cons_succ]
      refine btake 3 (oi := _) (v := ?_) (by simp only [List.getElem?_toArray, List.getElem?_cons_succ, List.getElem?_cons_zero]; rfl) (by kernel_rfl) (by exact fun _ _ _ h => h) (by first | assumption | exact KB.refl _) (.inl ⟨by rfl, fun W hW => ?_⟩) ?_; rotate_left
      · (go_simp; first | done | with_reducible rfl)
      try simp only [Act.put, List.setIfInBounds_toArray, List.set_cons_zero, List.set_cons_succ]
      refine btake 4 (oi := _) (v := ?_) (by simp only [List.getElem?_toArray, List.getElem?_cons_succ, List.getElem?_cons_zero]; rfl) (by kernel_rfl) (by exact fun _ _ _ h => h) (by first | assumption | exact KB.refl _) (.inl ⟨by rfl, fun W hW => ?_⟩) ?_; rotate_left
      · (go_simp; first | done | with_reducible rfl)
      try simp only [Act.put, List.setIfInBounds_toArray, List.set_cons_zero, List.set_cons_succ]
      refine btake 5 (oi := _) (v := ?_) (by simp only [List.getElem?_toArray, List.getElem?_cons_succ, List.getElem?_cons_zero]; rfl) (by kernel_rfl) (by exact fun _ _ _ h => h) (by first | assumption | exact KB.refl _) (.inl ⟨by rfl, fun W hW => ?_⟩) ?_; rotate_left
      · (go_simp; first | done | with_reducible rfl)
      try simp only [Act.put, List.setIfInBounds_toArray, List.set_cons_zero, List.set_cons_succ]
      refine btake 6 (oi := _) (v := ?_) (by simp only [List.getElem?_toArray, List.getElem?_cons_succ, List.getElem?_cons_zero]; rfl) (by kernel_rfl) (by exact fun _ _ _ h => h) (by first | assumption | exact KB.refl _) (.inl ⟨by rfl, fun W hW => ?_⟩) ?_; rotate_left
      · (go_simp; first | done | with_reducible rfl)
      try simp only [Act.put, List.setIfInBounds_toArray, List.set_cons_zero, List.set_cons_succ]
      refine btake 7 (oi := _) (v := ?_) (by simp only [List.getElem?_toArray, List.getElem?_cons_succ, List.getElem?_cons_zero]; rfl) (by kernel_rfl) (by exact fun _ _ _ h => h) (by first | assumption | exact KB.refl _) (.inl ⟨by rfl, fun W hW => ?_⟩) ?_; rotate_left
      · (go_simp; first | done | with_reducible rfl)
      try simp only [Act.put, List.setIfInBounds_toArray, List.set_cons_zero, List.set_cons_succ]
      refine btake 8 (oi := _) (v := ?_) (by simp only [List.getElem?_toArray, List.getElem?_cons_succ, List.getElem?_cons_zero]; rfl) (by kernel_rfl) (by exact fun _ _ _ h => h) (by first | assumption | exact KB.refl _) (.inl ⟨by rfl, fun W hW => ?_⟩) ?_; rotate_left
      · (go_simp; first | done | with_reducible rfl)
      try simp only [Act.put, List.setIfInBounds_toArray, List.set_cons_zero, List.set_cons_succ]
      refine btake 9 (oi := _) (v := ?_) (by simp only [List.getElem?_toArray, List.getElem?_cons_succ, List.getElem?_cons_zero]; rfl) (by kernel_rfl) (by exact fun _ _ _ h => h) (by first | assumption | exact KB.refl _) (.inl ⟨by rfl, fun W hW => ?_⟩) ?_; rotate_left
      · (go_simp; first | done | with_reducible rfl)
      try simp only [Act.put, List.setIfInBounds_toArray, List.set_cons_zero, List.set_cons_succ]
      refine btake 10 (oi := _) (v := ?_) (by simp only [List.getElem?_toArray, List.getElem?_cons_succ, List.getElem?_cons_zero]; rfl) (by kernel_rfl) (by exact fun _ _ _ h => h) (by first | assumption | exact KB.refl _) (.inl ⟨by rfl, fun W hW => ?_⟩) ?_; rotate_left
      · (go_simp; first | done | with_reducible rfl)
      try simp only [Act.put, List.setIfInBounds_toArray, List.set_cons_zero, List.set_cons_succ]
      refine btake 11 (oi := _) (v := ?_) (by simp only [List.getElem?_toArray, List.getElem?_cons_succ, List.getElem?_cons_zero]; rfl) (by kernel_rfl) (by exact fun _ _ _ h => h) (by first | assumption | exact KB.refl _) (.inl ⟨by rfl, fun W hW => ?_⟩) ?_; rotate_left
      · (go_simp; first | done | with_reducible rfl)
      try simp only [Act.put, List.setIfInBounds_toArray, List.set_cons_zero, List.set_cons_succ]
      refine btake 12 (oi := _) (v := ?_) (by simp only [List.getElem?_toArray, List.getElem?_cons_succ, List.getElem?_cons_zero]; rfl) (by kernel_rfl) (by exact fun _ _ _ h => h) (by first | assumption | exact KB.refl _) (.inl ⟨by rfl, fun W hW => ?_⟩) ?_; rotate_left
      · (go_simp; first | done | with_reducible rfl)
      try simp only [Act.put, List.setIfInBounds_toArray, List.set_cons_zero, List.set_cons_succ]
      refine btake 13 (oi := _) (v := ?_) (by simp only [List.getElem?_toArray, List.getElem?_cons_succ, List.getElem?_cons_zero]; rfl) (by kernel_rfl) (by exact fun _ _ _ h => h) (by first | assumption | exact KB.refl _) (.inl ⟨by rfl, fun W hW => ?_⟩) ?_; rotate_left
      · (go_simp; first | done | with_reducible rfl)
      try simp only [Act.put, List.setIfInBounds_toArray, List.set_cons_zero, List.set_cons_succ]
      refine btake 14 (oi := _) (v := ?_) (by simp only [List.getElem?_toArray, List.getElem?_cons_succ, List.getElem?_cons_zero]; rfl) (by kernel_rfl) (by exact fun _ _ _ h => h) (by first | assumption | exact KB.refl _) (.inl ⟨by rfl, fun W hW => ?_⟩) ?_; rotate_left
      · (go_simp; first | done | with_reducible rfl)
      try simp only [Act.put, List.setIfInBounds_toArray, List.set_cons_zero, List.set_cons_succ]
      refine btake 15 (oi := _) (v := ?_) (by simp only [List.getElem?_toArray, List.getElem?_cons_succ, List.getElem?_cons_zero]; rfl) (by kernel_rfl) (by exact fun _ _ _ h => h) (by first | assumption | exact KB.refl _) (.inl ⟨by rfl, fun W hW => ?_⟩) ?_; rotate_left
      · (go_simp; first | done | with_reducible rfl)
      try simp only [Act.put, List.setIfInBounds_toArray, List.set_cons_zero, List.set_cons_succ]
      refine btake 16 (oi := _) (v := ?_) (by simp only [List.getElem?_toArray, List.getElem?_cons_succ, List.getElem?_cons_zero]; rfl) (by kernel_rfl) (by exact fun _ _ _ h => h) (by first | assumption | exact KB.refl _) (.inl ⟨by rfl, fun W hW => ?_⟩) ?_; rotate_left
      · (go_simp; first | done | with_reducible rfl)
      try simp only [Act.put, List.setIfInBounds_toArray, List.set_cons_zero, List.set_cons_succ]
      -- 17: Op.store 5 (Operand.tmp 44) (Operand.tmp 43)
      refine bopH 17 (o := _) (by simp only [List.getElem?_toArray, List.getElem?_cons_succ, List.getElem?_cons_zero]; rfl) (by kernel_rfl) (by first | assumption | exact KB.refl _) (by rfl) (fun K hK => ?_)
      go_simp
      have hbst := below_of_grown hgr (B := w1.heap.size) (fun g' e => by cases e; exact hg) hbel.size
      have hbel2 := hbel.trans hbst
      have hkb := KB.of hbel2.drew
      refine hK.out _ _ hkb ?_; clear hK K
      try simp only [Act.put, List.setIfInBounds_toArray, List.set_cons_zero, List.set_cons_succ]
      refine bdone (by kernel_rfl) ?_
      go_wp2_with fail
      go_roundw
      case rel => exact ⟨i + 1, hlt, by go_num, HST.out, hbel2.drew⟩
      case measure => simp [intOf]; omega
    · obtain rfl : i = n := by omega
      go_wp2_with fail
      have hsT : SlcIs wr (.slice A3 i c3) (lst L L1 L2 i) := by
        obtain ⟨A', c', e, g1, g2, g3, _⟩ := hown.form
        rw [hll] at e
        injection e with e1 e2 e3
        subst e1 e3
        exact ⟨A3, c3, by rw [hll], g3, g1, g2⟩
      have hsL : SlcIs wr (.slice A i c) L := ⟨A, c, by rw [hL], (hk0.below hbel).more hbel.size, by omega, by simp only [maxLen]; omega⟩
      have hsL1 : SlcIs wr (.slice A1 i c1) L1 := ⟨A1, c1, by rw [hL1], (hk1.below hbel).more hbel.size, by omega, by simp only [maxLen]; omega⟩
      have hsL2 : SlcIs wr (.slice A2 i c2) L2 := ⟨A2, c2, by rw [hL2], (hk2.below hbel).more hbel.size, by omega, by simp only [maxLen]; omega⟩
      have hlin := HLIN.out
      generalize lst L L1 L2 i = T at *
      have hx1 : bits .xor .u32 ((sum L).toNat : Int) ((sum L1).toNat : Int) = ((sum L ^^^ sum L1).toNat : Int) := by rw [u32_xor_nat _ _ (bv_lt _) (bv_lt _), BitVec.toNat_xor]
      have hx2 : bits .xor .u32 ((sum L ^^^ sum L1).toNat : Int) ((sum L2).toNat : Int) = ((sum L ^^^ sum L1 ^^^ sum L2).toNat : Int) := by rw [u32_xor_nat _ _ (bv_lt _) (bv_lt _), BitVec.toNat_xor (sum L ^^^ sum L1)]
      rw [← hlin] at hx2
      have hS0 : sum [L].flatten = sum L := by simp
      have hS1 : sum [L1].flatten = sum L1 := by simp
      have hS2 : sum [L2].flatten = sum L2 := by simp
      have hST : sum [T].flatten = sum T := by simp
      have sm := fun (W : World) (AA : Option Addr) (l : List UInt8) (h : Mat W AA [l]) => Sum_any W AA 1 1 [l] h rfl (by simp [maxLen])
      have n0 : ∃ N, N = (sum L).toNat := ⟨_, rfl⟩
      obtain ⟨N0, hN0⟩ := n0
      have n1 : ∃ N, N = (sum L1).toNat := ⟨_, rfl⟩
      obtain ⟨N1, hN1⟩ := n1
      have n2 : ∃ N, N = (sum L2).toNat := ⟨_, rfl⟩
      obtain ⟨N2, hN2⟩ := n2
      have n3 : ∃ N, N = (sum L ^^^ sum L1).toNat := ⟨_, rfl⟩
      obtain ⟨N3, hN3⟩ := n3
      have nT : ∃ N, N = (sum T).toNat := ⟨_, rfl⟩
      obtain ⟨NT, hNT⟩ := nT
      rw [← hN0, ← hN1, ← hN3] at hx1
      rw [← hN3, ← hN2, ← hNT] at hx2
      have s0 := fun W AA h => sm W AA L h
      have s1 := fun W AA h => sm W AA L1 h
      have s2 := fun W AA h => sm W AA L2 h
      have sT := fun W AA h => sm W AA T h
      rw [hS0, ← hN0] at s0
      rw [hS1, ← hN1] at s1
      rw [hS2, ← hN2] at s2
      rw [hST, ← hNT] at sT
      have SM := Lib.hid (And.intro s0 (And.intro s1 (And.intro s2 sT)))
      clear hN0 hN1 hN2 hN3 hNT hS0 hS1 hS2 hST sm s0 s1 s2 sT hlin HLIN hown hll hown3
      refine bstart (by kernel_rfl) ?_
      refine btake 0 (oi := _) (v := ?_) (by simp only [List.getElem?_toArray, List.getElem?_cons_succ, List.getElem?_cons_zero]; rfl) (by kernel_rfl) (by exact fun _ _ _ h => h) (by first | assumption | exact KB.refl _) (.inl ⟨by rfl, fun W hW => ?_⟩) ?_; rotate_left
      · (go_simp; first | done | with_reducible rfl)
      try simp only [Act.put, List.setIfInBounds_toArray, List.set_cons_zero, List.set_cons_succ]
      refine btake 3 (oi := _) (v := ?_) (by simp only [List.getElem?_toArray, List.getElem?_cons_succ, List.getElem?_cons_zero]; rfl) (by kernel_rfl) (by exact fun _ _ _ h => h) (by first | assumption | exact KB.refl _) (.inl ⟨by rfl, fun W hW => ?_⟩) ?_; rotate_left
      · (go_simp; first | done | with_reducible rfl)
      try simp only [Act.put, List.setIfInBounds_toArray, List.set_cons_zero, List.set_cons_succ]
      refine btake 4 (oi := _) (v := ?_) (by simp only [List.getElem?_toArray, List.getElem?_cons_succ, List.getElem?_cons_zero]; rfl) (by kernel_rfl) (by exact fun _ _ _ h => h) (by first | assumption | exact KB.refl _) (.inl ⟨by rfl, fun W hW => ?_⟩) ?_; rotate_left
      · (go_simp; first | done | with_reducible rfl)
      try simp only [Act.put, List.setIfInBounds_toArray, List.set_cons_zero, List.set_cons_succ]
      refine btake 5 (oi := _) (v := ?_) (by simp only [List.getElem?_toArray, List.getElem?_cons_succ, List.getElem?_cons_zero]; rfl) (by kernel_rfl) (by exact fun _ _ _ h => h) (by first | assumption | exact KB.refl _) (.inl ⟨by rfl, fun W hW => ?_⟩) ?_; rotate_left
      · (go_simp; first | done | with_reducible rfl)
      try simp only [Act.put, List.setIfInBounds_toArray, List.set_cons_zero, List.set_cons_succ]
      refine btake 8 (oi := _) (v := ?_) (by simp only [List.getElem?_toArray, List.getElem?_cons_succ, List.getElem?_cons_zero]; rfl) (by kernel_rfl) (by exact fun _ _ _ h => h) (by first | assumption | exact KB.refl _) (.inl ⟨by rfl, fun W hW => ?_⟩) ?_; rotate_left
      · (go_simp; first | done | with_reducible rfl)
      try simp only [Act.put, List.setIfInBounds_toArray, List.set_cons_zero, List.set_cons_succ]
      refine btake 9 (oi := _) (v := ?_) (by simp only [List.getElem?_toArray, List.getElem?_cons_succ, List.getElem?_cons_zero]; rfl) (by kernel_rfl) (by exact fun _ _ _ h => h) (by first | assumption | exact KB.refl _) (.inl ⟨by rfl, fun W hW => ?_⟩) ?_; rotate_left
      · (go_simp; first | done | with_reducible rfl)
      try simp only [Act.put, List.setIfInBounds_toArray, List.set_cons_zero, List.set_cons_succ]
      refine btake 10 (oi := _) (v := ?_) (by simp only [List.getElem?_toArray, List.getElem?_cons_succ, List.getElem?_cons_zero]; rfl) (by kernel_rfl) (by exact fun _ _ _ h => h) (by first | assumption | exact KB.refl _) (.inl ⟨by rfl, fun W hW => ?_⟩) ?_; rotate_left
      · (go_simp; first | done | with_reducible rfl)
      try simp only [Act.put, List.setIfInBounds_toArray, List.set_cons_zero, List.set_cons_succ]
      refine btake 14 (oi := _) (v := ?_) (by simp only [List.getElem?_toArray, List.getElem?_cons_succ, List.getElem?_cons_zero]; rfl) (by kernel_rfl) (by exact fun _ _ _ h => h) (by first | assumption | exact KB.refl _) (.inl ⟨by rfl, fun W hW => ?_⟩) ?_; rotate_left
      · (go_simp; first | done | with_reducible rfl)
      try simp only [Act.put, List.setIfInBounds_toArray, List.set_cons_zero, List.set_cons_succ]
      refine btake 15 (oi := _) (v := ?_) (by simp only [List.getElem?_toArray, List.getElem?_cons_succ, List.getElem?_cons_zero]; rfl) (by kernel_rfl) (by exact fun _ _ _ h => h) (by first | assumption | exact KB.refl _) (.inl ⟨by rfl, fun W hW => ?_⟩) ?_; rotate_left
      · (go_simp; first | done | with_reducible rfl)
      try simp only [Act.put, List.setIfInBounds_toArray, List.set_cons_zero, List.set_cons_succ]
      refine btake 16 (oi := _) (v := ?_) (by simp only [List.getElem?_toArray, List.getElem?_cons_succ, List.getElem?_cons_zero]; rfl) (by kernel_rfl) (by exact fun _ _ _ h => h) (by first | assumption | exact KB.refl _) (.inl ⟨by rfl, fun W hW => ?_⟩) ?_; rotate_left
      · (go_simp; first | done | with_reducible rfl)
      try simp only [Act.put, List.setIfInBounds_toArray, List.set_cons_zero, List.set_cons_succ]
      refine bpar [Yld.mat 1 (some 46)  T, Yld.eq 2 (some 47) (.int .u32 (NT : Int)), Yld.mat 6 (some 51)  L, Yld.eq 7 (some 52) (.int .u32 (N0 : Int)), Yld.mat 11 (some 56)  L1, Yld.eq 12 (some 57) (.int .u32 (N1 : Int)), Yld.eq 13 (some 58) (.int .u32 (N3 : Int)), Yld.mat 17 (some 62)  L2, Yld.eq 18 (some 63) (.int .u32 (N2 : Int)), Yld.eq 19 (some 64) (.int .u32 (NT : Int)), Yld.eq 20 (some 65) (.bool true), Yld.eq 21 (some 6) (.bool true)] (by kernel_rfl) (by kernel_rfl) (by kernel_rfl) (by first | assumption | exact KB.refl _) (fun s hs => ?_) (fun vs W hW hbW hd => ?_)
      · simp only [List.mem_cons, List.not_mem_nil, or_false] at hs
        rcases hs with rfl | rfl | rfl | rfl | rfl | rfl | rfl | rfl | rfl | rfl | rfl | rfl
        · -- 1: Op.buildSlice 22 1 #[(0, Operand.tmp 45)]
          intro vs W hW hbW hd
          clear hd
          refine par_of (j := 1) (d := (some 46)) (o := _) (by simp only [List.getElem?_toArray, List.getElem?_cons_succ, List.getElem?_cons_zero]; rfl) (by rfl) (fun K hK => ?_)
          simp only [puts, List.foldl_cons, List.foldl_nil, Act.put, List.setIfInBounds_toArray, List.set_cons_zero, List.set_cons_succ, Yld.eq, Yld.mat] at hK ⊢
          generalize vs 1 = v1 at *
          generalize vs 2 = v2 at *
          generalize vs 6 = v6 at *
          generalize vs 7 = v7 at *
          generalize vs 11 = v11 at *
          generalize vs 12 = v12 at *
          generalize vs 13 = v13 at *
          generalize vs 17 = v17 at *
          generalize vs 18 = v18 at *
          generalize vs 19 = v19 at *
          generalize vs 20 = v20 at *
          generalize vs 21 = v21 at *
          go_simp
          exact hK.out _ _ _ (by rfl) ⟨_, rfl, Mat.one W _ _ _ (hsT.kb hW)⟩ ((Below.refl _ _).alloc (Nat.le_refl _) _)
        · -- 2: newsreel/crc.Sum
          intro vs W hW hbW hd
          have h1 : (Yld.mat 1 (some 46)  T).pr (vs 1) W := hd _ (.head _) (by kernel_rfl)
          clear hd
          refine par_of (j := 2) (d := (some 47)) (o := _) (by simp only [List.getElem?_toArray, List.getElem?_cons_succ, List.getElem?_cons_zero]; rfl) (by rfl) (fun K hK => ?_)
          simp only [puts, List.foldl_cons, List.foldl_nil, Act.put, List.setIfInBounds_toArray, List.set_cons_zero, List.set_cons_succ, Yld.eq, Yld.mat] at hK ⊢
          generalize vs 1 = v1 at *
          generalize vs 2 = v2 at *
          generalize vs 6 = v6 at *
          generalize vs 7 = v7 at *
          generalize vs 11 = v11 at *
          generalize vs 12 = v12 at *
          generalize vs 13 = v13 at *
          generalize vs 17 = v17 at *
          generalize vs 18 = v18 at *
          generalize vs 19 = v19 at *
          generalize vs 20 = v20 at *
          generalize vs 21 = v21 at *
          go_simp
          obtain ⟨AA, rfl, hM⟩ := h1
          refine (SM.out.2.2.2 _ AA hM).mono ?_
          rintro e w3 ⟨rfl, h3⟩
          exact hK.out _ _ _ (by rfl) rfl h3
        · -- 6: Op.buildSlice 22 1 #[(0, Operand.tmp 50)]
          intro vs W hW hbW hd
          clear hd
          refine par_of (j := 6) (d := (some 51)) (o := _) (by simp only [List.getElem?_toArray, List.getElem?_cons_succ, List.getElem?_cons_zero]; rfl) (by rfl) (fun K hK => ?_)
          simp only [puts, List.foldl_cons, List.foldl_nil, Act.put, List.setIfInBounds_toArray, List.set_cons_zero, List.set_cons_succ, Yld.eq, Yld.mat] at hK ⊢
          generalize vs 1 = v1 at *
          generalize vs 2 = v2 at *
          generalize vs 6 = v6 at *
          generalize vs 7 = v7 at *
          generalize vs 11 = v11 at *
          generalize vs 12 = v12 at *
          generalize vs 13 = v13 at *
          generalize vs 17 = v17 at *
          generalize vs 18 = v18 at *
          generalize vs 19 = v19 at *
          generalize vs 20 = v20 at *
          generalize vs 21 = v21 at *
          go_simp
          exact hK.out _ _ _ (by rfl) ⟨_, rfl, Mat.one W _ _ _ (hsL.kb hW)⟩ ((Below.refl _ _).alloc (Nat.le_refl _) _)
        · -- 7: newsreel/crc.Sum
          intro vs W hW hbW hd
          have h2 : vs 2 = .int .u32 (NT : Int) := hd _ (.tail _ (.head _)) (by kernel_rfl)
          have h6 : (Yld.mat 6 (some 51)  L).pr (vs 6) W := hd _ (.tail _ (.tail _ (.head _))) (by kernel_rfl)
          clear hd
          refine par_of (j := 7) (d := (some 52)) (o := _) (by simp only [List.getElem?_toArray, List.getElem?_cons_succ, List.getElem?_cons_zero]; rfl) (by rfl) (fun K hK => ?_)
          simp only [puts, List.foldl_cons, List.foldl_nil, Act.put, List.setIfInBounds_toArray, List.set_cons_zero, List.set_cons_succ, Yld.eq, Yld.mat] at hK ⊢
          generalize vs 1 = v1 at *
          generalize vs 2 = v2 at *
          generalize vs 6 = v6 at *
          generalize vs 7 = v7 at *
          generalize vs 11 = v11 at *
          generalize vs 12 = v12 at *
          generalize vs 13 = v13 at *
          generalize vs 17 = v17 at *
          generalize vs 18 = v18 at *
          generalize vs 19 = v19 at *
          generalize vs 20 = v20 at *
          generalize vs 21 = v21 at *
          subst h2
          go_simp
          obtain ⟨AA, rfl, hM⟩ := h6
          refine (SM.out.1 _ AA hM).mono ?_
          rintro e w3 ⟨rfl, h3⟩
          exact hK.out _ _ _ (by rfl) rfl h3
        · -- 11: Op.buildSlice 22 1 #[(0, Operand.tmp 55)]
          intro vs W hW hbW hd
          clear hd
          refine par_of (j := 11) (d := (some 56)) (o := _) (by simp only [List.getElem?_toArray, List.getElem?_cons_succ, List.getElem?_cons_zero]; rfl) (by rfl) (fun K hK => ?_)
          simp only [puts, List.foldl_cons, List.foldl_nil, Act.put, List.setIfInBounds_toArray, List.set_cons_zero, List.set_cons_succ, Yld.eq, Yld.mat] at hK ⊢
          generalize vs 1 = v1 at *
          generalize vs 2 = v2 at *
          generalize vs 6 = v6 at *
          generalize vs 7 = v7 at *
          generalize vs 11 = v11 at *
          generalize vs 12 = v12 at *
          generalize vs 13 = v13 at *
          generalize vs 17 = v17 at *
          generalize vs 18 = v18 at *
          generalize vs 19 = v19 at *
          generalize vs 20 = v20 at *
          generalize vs 21 = v21 at *
          go_simp
          exact hK.out _ _ _ (by rfl) ⟨_, rfl, Mat.one W _ _ _ (hsL1.kb hW)⟩ ((Below.refl _ _).alloc (Nat.le_refl _) _)
        · -- 12: newsreel/crc.Sum
          intro vs W hW hbW hd
          have h7 : vs 7 = .int .u32 (N0 : Int) := hd _ (.tail _ (.tail _ (.tail _ (.head _)))) (by kernel_rfl)
          have h11 : (Yld.mat 11 (some 56)  L1).pr (vs 11) W := hd _ (.tail _ (.tail _ (.tail _ (.tail _ (.head _))))) (by kernel_rfl)
          clear hd
          refine par_of (j := 12) (d := (some 57)) (o := _) (by simp only [List.getElem?_toArray, List.getElem?_cons_succ, List.getElem?_cons_zero]; rfl) (by rfl) (fun K hK => ?_)
          simp only [puts, List.foldl_cons, List.foldl_nil, Act.put, List.setIfInBounds_toArray, List.set_cons_zero, List.set_cons_succ, Yld.eq, Yld.mat] at hK ⊢
          generalize vs 1 = v1 at *
          generalize vs 2 = v2 at *
          generalize vs 6 = v6 at *
          generalize vs 7 = v7 at *
          generalize vs 11 = v11 at *
          generalize vs 12 = v12 at *
          generalize vs 13 = v13 at *
          generalize vs 17 = v17 at *
          generalize vs 18 = v18 at *
          generalize vs 19 = v19 at *
          generalize vs 20 = v20 at *
          generalize vs 21 = v21 at *
          subst h7
          go_simp
          obtain ⟨AA, rfl, hM⟩ := h11
          refine (SM.out.2.1 _ AA hM).mono ?_
          rintro e w3 ⟨rfl, h3⟩
          exact hK.out _ _ _ (by rfl) rfl h3
        · -- 13: Op.binOp BinOp.xor 25 (Operand.tmp 52) (Operand.tmp 57) 25
          intro vs W hW hbW hd
          have h7 : vs 7 = .int .u32 (N0 : Int) := hd _ (.tail _ (.tail _ (.tail _ (.head _)))) (by kernel_rfl)
          have h12 : vs 12 = .int .u32 (N1 : Int) := hd _ (.tail _ (.tail _ (.tail _ (.tail _ (.tail _ (.head _)))))) (by kernel_rfl)
          clear hd
          refine par_of (j := 13) (d := (some 58)) (o := _) (by simp only [List.getElem?_toArray, List.getElem?_cons_succ, List.getElem?_cons_zero]; rfl) (by rfl) (fun K hK => ?_)
          simp only [puts, List.foldl_cons, List.foldl_nil, Act.put, List.setIfInBounds_toArray, List.set_cons_zero, List.set_cons_succ, Yld.eq, Yld.mat] at hK ⊢
          generalize vs 1 = v1 at *
          generalize vs 2 = v2 at *
          generalize vs 6 = v6 at *
          generalize vs 7 = v7 at *
          generalize vs 11 = v11 at *
          generalize vs 12 = v12 at *
          generalize vs 13 = v13 at *
          generalize vs 17 = v17 at *
          generalize vs 18 = v18 at *
          generalize vs 19 = v19 at *
          generalize vs 20 = v20 at *
          generalize vs 21 = v21 at *
          subst h7
          subst h12
          go_simp
          exact hK.out _ _ _ (by rfl) (by rfl) (Below.refl _ _)
        · -- 17: Op.buildSlice 22 1 #[(0, Operand.tmp 61)]
          intro vs W hW hbW hd
          clear hd
          refine par_of (j := 17) (d := (some 62)) (o := _) (by simp only [List.getElem?_toArray, List.getElem?_cons_succ, List.getElem?_cons_zero]; rfl) (by rfl) (fun K hK => ?_)
          simp only [puts, List.foldl_cons, List.foldl_nil, Act.put, List.setIfInBounds_toArray, List.set_cons_zero, List.set_cons_succ, Yld.eq, Yld.mat] at hK ⊢
          generalize vs 1 = v1 at *
          generalize vs 2 = v2 at *
          generalize vs 6 = v6 at *
          generalize vs 7 = v7 at *
          generalize vs 11 = v11 at *
          generalize vs 12 = v12 at *
          generalize vs 13 = v13 at *
          generalize vs 17 = v17 at *
          generalize vs 18 = v18 at *
          generalize vs 19 = v19 at *
          generalize vs 20 = v20 at *
          generalize vs 21 = v21 at *
          go_simp
          exact hK.out _ _ _ (by rfl) ⟨_, rfl, Mat.one W _ _ _ (hsL2.kb hW)⟩ ((Below.refl _ _).alloc (Nat.le_refl _) _)
        · -- 18: newsreel/crc.Sum
          intro vs W hW hbW hd
          have h12 : vs 12 = .int .u32 (N1 : Int) := hd _ (.tail _ (.tail _ (.tail _ (.tail _ (.tail _ (.head _)))))) (by kernel_rfl)
          have h17 : (Yld.mat 17 (some 62)  L2).pr (vs 17) W := hd _ (.tail _ (.tail _ (.tail _ (.tail _ (.tail _ (.tail _ (.tail _ (.head _)))))))) (by kernel_rfl)
          clear hd
          refine par_of (j := 18) (d := (some 63)) (o := _) (by simp only [List.getElem?_toArray, List.getElem?_cons_succ, List.getElem?_cons_zero]; rfl) (by rfl) (fun K hK => ?_)
          simp only [puts, List.foldl_cons, List.foldl_nil, Act.put, List.setIfInBounds_toArray, List.set_cons_zero, List.set_cons_succ, Yld.eq, Yld.mat] at hK ⊢
          generalize vs 1 = v1 at *
          generalize vs 2 = v2 at *
          generalize vs 6 = v6 at *
          generalize vs 7 = v7 at *
          generalize vs 11 = v11 at *
          generalize vs 12 = v12 at *
          generalize vs 13 = v13 at *
          generalize vs 17 = v17 at *
          generalize vs 18 = v18 at *
          generalize vs 19 = v19 at *
          generalize vs 20 = v20 at *
          generalize vs 21 = v21 at *
          subst h12
          go_simp
          obtain ⟨AA, rfl, hM⟩ := h17
          refine (SM.out.2.2.1 _ AA hM).mono ?_
          rintro e w3 ⟨rfl, h3⟩
          exact hK.out _ _ _ (by rfl) rfl h3
        · -- 19: Op.binOp BinOp.xor 25 (Operand.tmp 58) (Operand.tmp 63) 25
          intro vs W hW hbW hd
          have h13 : vs 13 = .int .u32 (N3 : Int) := hd _ (.tail _ (.tail _ (.tail _ (.tail _ (.tail _ (.tail _ (.head _))))))) (by kernel_rfl)
          have h18 : vs 18 = .int .u32 (N2 : Int) := hd _ (.tail _ (.tail _ (.tail _ (.tail _ (.tail _ (.tail _ (.tail _ (.tail _ (.head _))))))))) (by kernel_rfl)
          clear hd
          refine par_of (j := 19) (d := (some 64)) (o := _) (by simp only [List.getElem?_toArray, List.getElem?_cons_succ, List.getElem?_cons_zero]; rfl) (by rfl) (fun K hK => ?_)
          simp only [puts, List.foldl_cons, List.foldl_nil, Act.put, List.setIfInBounds_toArray, List.set_cons_zero, List.set_cons_succ, Yld.eq, Yld.mat] at hK ⊢
          generalize vs 1 = v1 at *
          generalize vs 2 = v2 at *
          generalize vs 6 = v6 at *
          generalize vs 7 = v7 at *
          generalize vs 11 = v11 at *
          generalize vs 12 = v12 at *
          generalize vs 13 = v13 at *
          generalize vs 17 = v17 at *
          generalize vs 18 = v18 at *
          generalize vs 19 = v19 at *
          generalize vs 20 = v20 at *
          generalize vs 21 = v21 at *
          subst h13
          subst h18
          go_simp
          exact hK.out _ _ _ (by rfl) (by rfl) (Below.refl _ _)
        · -- 20: Op.binOp BinOp.eql 25 (Operand.tmp 47) (Operand.tmp 64) 25
          intro vs W hW hbW hd
          have h2 : vs 2 = .int .u32 (NT : Int) := hd _ (.tail _ (.head _)) (by kernel_rfl)
          have h19 : vs 19 = .int .u32 (NT : Int) := hd _ (.tail _ (.tail _ (.tail _ (.tail _ (.tail _ (.tail _ (.tail _ (.tail _ (.tail _ (.head _)))))))))) (by kernel_rfl)
          clear hd
          refine par_of (j := 20) (d := (some 65)) (o := _) (by simp only [List.getElem?_toArray, List.getElem?_cons_succ, List.getElem?_cons_zero]; rfl) (by rfl) (fun K hK => ?_)
          simp only [puts, List.foldl_cons, List.foldl_nil, Act.put, List.setIfInBounds_toArray, List.set_cons_zero, List.set_cons_succ, Yld.eq, Yld.mat] at hK ⊢
          generalize vs 1 = v1 at *
          generalize vs 2 = v2 at *
          generalize vs 6 = v6 at *
          generalize vs 7 = v7 at *
          generalize vs 11 = v11 at *
          generalize vs 12 = v12 at *
          generalize vs 13 = v13 at *
          generalize vs 17 = v17 at *
          generalize vs 18 = v18 at *
          generalize vs 19 = v19 at *
          generalize vs 20 = v20 at *
          generalize vs 21 = v21 at *
          subst h2
          subst h19
          go_simp
          exact hK.out _ _ _ (by rfl) (by rfl) (Below.refl _ _)
        · -- 21: Op.assign (Operand.tmp 65)
          intro vs W hW hbW hd
          have h1 : (Yld.mat 1 (some 46)  T).pr (vs 1) W := hd _ (.head _) (by kernel_rfl)
          have h2 : vs 2 = .int .u32 (NT : Int) := hd _ (.tail _ (.head _)) (by kernel_rfl)
          have h6 : (Yld.mat 6 (some 51)  L).pr (vs 6) W := hd _ (.tail _ (.tail _ (.head _))) (by kernel_rfl)
          have h7 : vs 7 = .int .u32 (N0 : Int) := hd _ (.tail _ (.tail _ (.tail _ (.head _)))) (by kernel_rfl)
          have h11 : (Yld.mat 11 (some 56)  L1).pr (vs 11) W := hd _ (.tail _ (.tail _ (.tail _ (.tail _ (.head _))))) (by kernel_rfl)
          have h12 : vs 12 = .int .u32 (N1 : Int) := hd _ (.tail _ (.tail _ (.tail _ (.tail _ (.tail _ (.head _)))))) (by kernel_rfl)
          have h13 : vs 13 = .int .u32 (N3 : Int) := hd _ (.tail _ (.tail _ (.tail _ (.tail _ (.tail _ (.tail _ (.head _))))))) (by kernel_rfl)
          have h17 : (Yld.mat 17 (some 62)  L2).pr (vs 17) W := hd _ (.tail _ (.tail _ (.tail _ (.tail _ (.tail _ (.tail _ (.tail _ (.head _)))))))) (by kernel_rfl)
          have h18 : vs 18 = .int .u32 (N2 : Int) := hd _ (.tail _ (.tail _ (.tail _ (.tail _ (.tail _ (.tail _ (.tail _ (.tail _ (.head _))))))))) (by kernel_rfl)
          have h19 : vs 19 = .int .u32 (NT : Int) := hd _ (.tail _ (.tail _ (.tail _ (.tail _ (.tail _ (.tail _ (.tail _ (.tail _ (.tail _ (.head _)))))))))) (by kernel_rfl)
          have h20 : vs 20 = .bool true := hd _ (.tail _ (.tail _ (.tail _ (.tail _ (.tail _ (.tail _ (.tail _ (.tail _ (.tail _ (.tail _ (.head _))))))))))) (by kernel_rfl)
          clear hd
          refine par_of (j := 21) (d := (some 6)) (o := _) (by simp only [List.getElem?_toArray, List.getElem?_cons_succ, List.getElem?_cons_zero]; rfl) (by rfl) (fun K hK => ?_)
          simp only [puts, List.foldl_cons, List.foldl_nil, Act.put, List.setIfInBounds_toArray, List.set_cons_zero, List.set_cons_succ, Yld.eq, Yld.mat] at hK ⊢
          generalize vs 1 = v1 at *
          generalize vs 2 = v2 at *
          generalize vs 6 = v6 at *
          generalize vs 7 = v7 at *
          generalize vs 11 = v11 at *
          generalize vs 12 = v12 at *
          generalize vs 13 = v13 at *
          generalize vs 17 = v17 at *
          generalize vs 18 = v18 at *
          generalize vs 19 = v19 at *
          generalize vs 20 = v20 at *
          generalize vs 21 = v21 at *
          subst h2
          subst h7
          subst h12
          subst h13
          subst h18
          subst h19
          subst h20
          go_simp
          exact hK.out _ _ _ (by rfl) (by rfl) (Below.refl _ _)
      have h1 : (Yld.mat 1 (some 46)  T).pr (vs 1) W := hd _ (.head _)
      have h2 : vs 2 = .int .u32 (NT : Int) := hd _ (.tail _ (.head _))
      have h6 : (Yld.mat 6 (some 51)  L).pr (vs 6) W := hd _ (.tail _ (.tail _ (.head _)))
      have h7 : vs 7 = .int .u32 (N0 : Int) := hd _ (.tail _ (.tail _ (.tail _ (.head _))))
      have h11 : (Yld.mat 11 (some 56)  L1).pr (vs 11) W := hd _ (.tail _ (.tail _ (.tail _ (.tail _ (.head _)))))
      have h12 : vs 12 = .int .u32 (N1 : Int) := hd _ (.tail _ (.tail _ (.tail _ (.tail _ (.tail _ (.head _))))))
      have h13 : vs 13 = .int .u32 (N3 : Int) := hd _ (.tail _ (.tail _ (.tail _ (.tail _ (.tail _ (.tail _ (.head _)))))))
      have h17 : (Yld.mat 17 (some 62)  L2).pr (vs 17) W := hd _ (.tail _ (.tail _ (.tail _ (.tail _ (.tail _ (.tail _ (.tail _ (.head _))))))))
      have h18 : vs 18 = .int .u32 (N2 : Int) := hd _ (.tail _ (.tail _ (.tail _ (.tail _ (.tail _ (.tail _ (.tail _ (.tail _ (.head _)))))))))
      have h19 : vs 19 = .int .u32 (NT : Int) := hd _ (.tail _ (.tail _ (.tail _ (.tail _ (.tail _ (.tail _ (.tail _ (.tail _ (.tail _ (.head _))))))))))
      have h20 : vs 20 = .bool true := hd _ (.tail _ (.tail _ (.tail _ (.tail _ (.tail _ (.tail _ (.tail _ (.tail _ (.tail _ (.tail _ (.head _)))))))))))
      have h21 : vs 21 = .bool true := hd _ (.tail _ (.tail _ (.tail _ (.tail _ (.tail _ (.tail _ (.tail _ (.tail _ (.tail _ (.tail _ (.tail _ (.head _))))))))))))
      clear hd
      simp only [puts, List.foldl_cons, List.foldl_nil, Act.put, List.setIfInBounds_toArray, List.set_cons_zero, List.set_cons_succ, Yld.eq, Yld.mat]
      generalize vs 1 = v1 at *
      generalize vs 2 = v2 at *
      generalize vs 6 = v6 at *
      generalize vs 7 = v7 at *
      generalize vs 11 = v11 at *
      generalize vs 12 = v12 at *
      generalize vs 13 = v13 at *
      generalize vs 17 = v17 at *
      generalize vs 18 = v18 at *
      generalize vs 19 = v19 at *
      generalize vs 20 = v20 at *
      generalize vs 21 = v21 at *
      subst h2
      subst h7
      subst h12
      subst h13
      subst h18
      subst h19
      subst h20
      subst h21
      go_wp2_with fail
      go_ret
      exact ⟨rfl, bstep (bstep hbw1 (hbel.drew)) hbW⟩
end Go.Proofs.Ytandbancbgojjaa

