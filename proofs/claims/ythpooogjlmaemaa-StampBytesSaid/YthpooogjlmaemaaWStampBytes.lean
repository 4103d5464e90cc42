/- 'StampBytes': the walk of the law. -/
import Derived.Test.YthpooogjlmaemaaStampK
import Derived.Test.YthpooogjlmaemaaStampF
namespace Go.Proofs.Ythpooogjlmaemaa
open Go.RowKit Go.Proofs.Ythpooogjlmaemaa.Pl

def stB (s : S3) : List UInt8 := if s.right = true then fixF s.p.toNat 6 ++ fixF s.l.toNat 2 ++ [UInt8.ofNat s.r.toNat] else []
theorem right_nat (s : S3) (h : s.right = true) : ∃ P L R : Nat, s = ⟨P, L, R⟩ ∧ P < 281474976710656 ∧ L < 65536 ∧ R < 64 := by
  unfold S3.right at h
  have h' := of_decide_eq_true h
  obtain ⟨p, l, r⟩ := s
  simp only at h'
  refine ⟨p.toNat, l.toNat, r.toNat, ?_, by omega, by omega, by omega⟩
  congr 1 <;> omega
theorem Bytes_all (w : World) (s : S3) : Calls Try.prog 14 #[s.v] w (Fresh w (stB s)) := by
  unfold stB
  by_cases h : s.right = true
  · rw [if_pos h]
    obtain ⟨P, L, R, rfl, hP, hL, hR⟩ := right_nat s h
    exact Bytes_right w P L R hP hL hR
  · rw [if_neg h]; exact Bytes_wrong w s (by simpa using h)
theorem RefBytes_all (w : World) (s : S3) : Calls Try.prog 17 #[s.v] w (Fresh w (stB s)) := by
  unfold stB
  by_cases h : s.right = true
  · rw [if_pos h]
    obtain ⟨P, L, R, rfl, hP, hL, hR⟩ := right_nat s h
    exact RefBytes_right w P L R hP hL hR
  · rw [if_neg h]; exact RefBytes_wrong w s (by simpa using h)
theorem bless : ∀ (a b : List UInt8), Op.bytesLess a b = Ps.less a b
  | [], [] => rfl
  | [], _ :: _ => rfl
  | _ :: _, [] => rfl
  | a :: x, b :: y => by simp only [Op.bytesLess, Ps.less, bless x y]
theorem stB_st (P L R : Nat) (hP : P < 281474976710656) (hL : L < 65536) (hR : R < 64) : stB ⟨P, L, R⟩ = Ps.St.bytes ⟨P, L, R⟩ := by
  unfold stB
  rw [if_pos (by simp [S3.right]; omega)]
  rfl
theorem stB_less (a b : S3) (ha : a.right = true) (hb : b.right = true) : Op.bytesLess (stB a) (stB b) = a.lt b := by
  obtain ⟨P, L, R, rfl, hP, hL, hR⟩ := right_nat a ha
  obtain ⟨P', L', R', rfl, hP', hL', hR'⟩ := right_nat b hb
  rw [stB_st P L R hP hL hR, stB_st P' L' R' hP' hL' hR', bless]
  have h := Ps.bytes_less ⟨P, L, R⟩ ⟨P', L', R'⟩ ⟨hP, hL, hR⟩ ⟨hP', hL', hR'⟩
  rw [Bool.eq_iff_iff, h]
  unfold Ps.St.lt S3.lt
  rw [decide_eq_true_eq]
  simp only
  omega
theorem stB_inj (a b : S3) (ha : a.right = true) (hb : b.right = true) : (stB a == stB b) = decide (a = b) := by
  by_cases h : a = b
  · subst h; simp
  · have : stB a ≠ stB b := by
      intro e
      apply h
      obtain ⟨P, L, R, rfl, hP, hL, hR⟩ := right_nat a ha
      obtain ⟨P', L', R', rfl, hP', hL', hR'⟩ := right_nat b hb
      rw [stB_st P L R hP hL hR, stB_st P' L' R' hP' hL' hR'] at e
      have := Ps.bytes_inj ⟨P, L, R⟩ ⟨P', L', R'⟩ ⟨hP, hL, hR⟩ ⟨hP', hL', hR'⟩ e
      injection this with e1 e2 e3
      rw [e1, e2, e3]
    simp [h, this]
theorem stB_nine (a : S3) (ha : a.right = true) : (stB a).length = 9 ∧ nineS (stB a) = (a, 0) := by
  obtain ⟨P, L, R, rfl, hP, hL, hR⟩ := right_nat a ha
  rw [stB_st P L R hP hL hR]
  have h9 := Ps.St.bytes_len ⟨P, L, R⟩
  have hof := Ps.of_bytes ⟨P, L, R⟩ ⟨hP, hL, hR⟩
  refine ⟨h9, ?_⟩
  generalize Ps.St.bytes ⟨P, L, R⟩ = l at *
  unfold Ps.St.of at hof
  injection hof with e1 e2 e3
  unfold nineS
  rw [big_of (l.take 6) 6 (by rw [List.length_take]; omega), List.take_take, big_of ((l.drop 6).take 2) 2 (by rw [List.length_take, List.length_drop]; omega), List.take_take]
  rw [if_pos (by omega), show min 6 6 = 6 by rfl, show min 2 2 = 2 by rfl, e1, e2, e3]
theorem if3 (a b : S3) (W : World) : (if a.p = b.p then if a.l = b.l then if a.r = b.r then Result.ok (Next.value (Value.bool true)) W else Result.ok (Next.value (Value.bool false)) W else Result.ok (Next.value (Value.bool false)) W else Result.ok (Next.value (Value.bool false)) W) = Result.ok (Next.value (Value.bool (decide (a = b)))) W := by
  obtain ⟨p, l, r⟩ := a
  obtain ⟨p', l', r'⟩ := b
  by_cases h1 : p = p' <;> by_cases h2 : l = l' <;> by_cases h3 : r = r' <;> simp [h1, h2, h3]
set_option maxRecDepth 100000 in
set_option maxHeartbeats 12800000 in
theorem StampBytes_walk (w : World) (a : S3) (ha : a.ok) (b : S3) (hb : b.ok) :
    Calls Try.prog 4 #[a.v, b.v] w fun e w' => e = .returned (.bool true) ∧ Below w.heap.size w w' := by
  have H1 := Lib.hid (fun V => Bytes_all V a)
  have H2 := Lib.hid (fun V => Bytes_all V b)
  have H3 := Lib.hid (fun V => RefBytes_all V a)
  have H4 := Lib.hid (fun V => RefBytes_all V b)
  have H5 := Lib.hid (fun V => Right_any V a)
  have H6 := Lib.hid (fun V => Right_any V b)
  have H7 := Lib.hid (fun V => RefRight_any V a)
  have H8 := Lib.hid (fun V => RefRight_any V b)
  have H9 := Lib.hid (fun V => Less_any V a b)
  have H10 := Lib.hid (fun ha hb => stB_less a b ha hb)
  have H11 := Lib.hid (fun ha hb => stB_inj a b ha hb)
  have H12 := Lib.hid (fun ha => stB_nine a ha)
  generalize hA : stB a = pa at *
  generalize hB : stB b = pb at *
  clear hA hB
  unfold S3.v
  go_enter Try.func4, Try.ntmps4
  go_wp2_with fail
  have va := Stands.new w 23 a
  have b1 := balloc (Below.refl w.heap.size w) (.cells #[.int .i64 a.p, .int .i64 a.l, .int .i64 a.r] 23)
  have hz1 : (w.alloc (.cells #[.int .i64 a.p, .int .i64 a.l, .int .i64 a.r] 23)).heap.size = w.heap.size + 1 := by simp
  generalize w.alloc (.cells #[.int .i64 a.p, .int .i64 a.l, .int .i64 a.r] 23) = w1 at *
  have vb := Stands.new w1 23 b
  replace va := va.alloc (.cells #[.int .i64 b.p, .int .i64 b.l, .int .i64 b.r] 23)
  replace b1 := balloc b1 (.cells #[.int .i64 b.p, .int .i64 b.l, .int .i64 b.r] 23)
  generalize w1.alloc (.cells #[.int .i64 b.p, .int .i64 b.l, .int .i64 b.r] 23) = w2 at *
  rw [hz1] at vb
  clear hz1
  refine (stampKnown_any w2).mono ?_
  rintro e w3 ⟨rfl, hb3⟩
  replace va := va.below hb3
  replace vb := vb.below hb3
  have b3 := bstep b1 hb3
  clear hb3 b1
  have e0 := cellB va.2.1
  have e1 := cellB va.2.2.1
  have e2 := cellB va.2.2.2.1
  have e3 := cellB vb.2.1
  have e4 := cellB vb.2.2.1
  have e5 := cellB vb.2.2.2.1
  go_wp2_with fail
  have hS0 : KB w3.heap w3.drew := KB.refl w3
  have hB : Below w3.heap.size w3 w3.drew := (Below.refl _ _).drew
  refine bstartH (w3.heap) (by kernel_rfl) ?_
  refine btake 0 (oi := _) (v := ?_) (by simp only [List.getElem?_toArray, List.getElem?_cons_succ, List.getElem?_cons_zero]; rfl) (by kernel_rfl) (by exact fun _ _ _ h => h) (by first | assumption | exact KB.refl _) (.inl ⟨by rfl, fun W hW => ?_⟩) ?_; rotate_left
  · (go_simp; first | done | with_reducible rfl)
  try simp only [Act.put, List.setIfInBounds_toArray, List.set_cons_zero, List.set_cons_succ]
  refine btake 2 (oi := _) (v := ?_) (by simp only [List.getElem?_toArray, List.getElem?_cons_succ, List.getElem?_cons_zero]; rfl) (by kernel_rfl) (by exact fun _ _ _ h => h) (by first | assumption | exact KB.refl _) (.inl ⟨by rfl, fun W hW => ?_⟩) ?_; rotate_left
  · (go_simp; first | done | with_reducible rfl)
  try simp only [Act.put, List.setIfInBounds_toArray, List.set_cons_zero, List.set_cons_succ]
  -- 1: newsreel/stamp.Bytes
  refine bopH 1 (o := _) (by simp only [List.getElem?_toArray, List.getElem?_cons_succ, List.getElem?_cons_zero]; rfl) (by kernel_rfl) (by first | assumption | exact KB.refl _) (by rfl) (fun K hK => ?_)
  go_simp
  refine (H1.out _).mono ?_
  rintro e w4 ⟨A4, c4, rfl, hown4, hb4⟩
  have hs4 := (Fresh.sl hown4).1
  have hm4 := (Fresh.sl hown4).2
  have hB := bstep hB hb4
  have hkb := KB.of hB
  refine hK.out _ _ hkb ?_; clear hK K
  try simp only [Act.put, List.setIfInBounds_toArray, List.set_cons_zero, List.set_cons_succ]
  -- 3: newsreel/stamp.Bytes
  refine bopH 3 (o := _) (by simp only [List.getElem?_toArray, List.getElem?_cons_succ, List.getElem?_cons_zero]; rfl) (by kernel_rfl) (by first | assumption | exact KB.refl _) (by rfl) (fun K hK => ?_)
  go_simp
  refine (H2.out _).mono ?_
  rintro e w5 ⟨A5, c5, rfl, hown5, hb5⟩
  have hs4 := (hs4.below' hb5).more hb5.size
  have hs5 := (Fresh.sl hown5).1
  have hB := bstep hB hb5
  have hkb := KB.of hB
  refine hK.out _ _ hkb ?_; clear hK K
  try simp only [Act.put, List.setIfInBounds_toArray, List.set_cons_zero, List.set_cons_succ]
  refine btake 4 (oi := _) (v := ?_) (by simp only [List.getElem?_toArray, List.getElem?_cons_succ, List.getElem?_cons_zero]; rfl) (by kernel_rfl) (by exact fun _ _ _ h => h) (by first | assumption | exact KB.refl _) (.inl ⟨by rfl, fun W hW => ?_⟩) ?_; rotate_left
  · (go_simp; first | done | with_reducible rfl)
  try simp only [Act.put, List.setIfInBounds_toArray, List.set_cons_zero, List.set_cons_succ]
  refine btake 5 (oi := _) (v := ?_) (by simp only [List.getElem?_toArray, List.getElem?_cons_succ, List.getElem?_cons_zero]; rfl) (by kernel_rfl) (by exact fun _ _ _ h => h) (by first | assumption | exact KB.refl _) (.inl ⟨by rfl, fun W hW => ?_⟩) ?_; rotate_left
  · (go_simp; first | done | with_reducible rfl)
  try simp only [Act.put, List.setIfInBounds_toArray, List.set_cons_zero, List.set_cons_succ]
  refine bdone (by kernel_rfl) ?_
  replace va := va.below hB
  replace vb := vb.below hB
  have b5 := b3.trans (hB.mono b3.size)
  clear e0 e1 e2 e3 e4 e5 hkb hB hb5 hb4 hS0
  have hm5 := (Fresh.sl hown5).2
  have e0 := cellB va.2.1
  have e1 := cellB va.2.2.1
  have e2 := cellB va.2.2.2.1
  have e3 := cellB vb.2.1
  have e4 := cellB vb.2.2.1
  have e5 := cellB vb.2.2.2.1
  have hcp := convB hs4 pa.length c4 rfl
  have hcq := convB hs5 pb.length c5 rfl
  clear hown4 hown5
  go_wp2_with fail
  have hS0 : KB w5.heap w5.drew := KB.refl w5
  have hB : Below w5.heap.size w5 w5.drew := (Below.refl _ _).drew
  refine bstartH (w5.heap) (by kernel_rfl) ?_
  refine btake 0 (oi := _) (v := ?_) (by simp only [List.getElem?_toArray, List.getElem?_cons_succ, List.getElem?_cons_zero]; rfl) (by kernel_rfl) (by exact fun _ _ _ h => h) (by first | assumption | exact KB.refl _) (.inl ⟨by rfl, fun W hW => ?_⟩) ?_; rotate_left
  · (go_simp; first | done | with_reducible rfl)
  try simp only [Act.put, List.setIfInBounds_toArray, List.set_cons_zero, List.set_cons_succ]
  refine btake 2 (oi := _) (v := ?_) (by simp only [List.getElem?_toArray, List.getElem?_cons_succ, List.getElem?_cons_zero]; rfl) (by kernel_rfl) (by exact fun _ _ _ h => h) (by first | assumption | exact KB.refl _) (.inl ⟨by rfl, fun W hW => ?_⟩) ?_; rotate_left
  · (go_simp; first | done | with_reducible rfl)
  try simp only [Act.put, List.setIfInBounds_toArray, List.set_cons_zero, List.set_cons_succ]
  -- 1: newsreel/stamp.Right
  refine bopH 1 (o := _) (by simp only [List.getElem?_toArray, List.getElem?_cons_succ, List.getElem?_cons_zero]; rfl) (by kernel_rfl) (by first | assumption | exact KB.refl _) (by rfl) (fun K hK => ?_)
  go_simp
  refine (H5.out _).mono ?_
  rintro e w6 ⟨rfl, hb⟩
  have hB := bstep hB hb
  have hkb := KB.of hB
  refine hK.out _ _ hkb ?_; clear hK K
  try simp only [Act.put, List.setIfInBounds_toArray, List.set_cons_zero, List.set_cons_succ]
  -- 3: newsreel/newsreelref1.StampRight
  refine bopH 3 (o := _) (by simp only [List.getElem?_toArray, List.getElem?_cons_succ, List.getElem?_cons_zero]; rfl) (by kernel_rfl) (by first | assumption | exact KB.refl _) (by rfl) (fun K hK => ?_)
  go_simp
  refine (H7.out _).mono ?_
  rintro e w7 ⟨rfl, hb⟩
  have hB := bstep hB hb
  have hkb := KB.of hB
  refine hK.out _ _ hkb ?_; clear hK K
  try simp only [Act.put, List.setIfInBounds_toArray, List.set_cons_zero, List.set_cons_succ]
  refine btake 4 (oi := _) (v := ?_) (by simp only [List.getElem?_toArray, List.getElem?_cons_succ, List.getElem?_cons_zero]; rfl) (by kernel_rfl) (by exact fun _ _ _ h => h) (by first | assumption | exact KB.refl _) (.inl ⟨by rfl, fun W hW => ?_⟩) ?_; rotate_left
  · (go_simp; first | done | with_reducible rfl)
  try simp only [Act.put, List.setIfInBounds_toArray, List.set_cons_zero, List.set_cons_succ]
  refine btake 5 (oi := _) (v := ?_) (by simp only [List.getElem?_toArray, List.getElem?_cons_succ, List.getElem?_cons_zero]; rfl) (by kernel_rfl) (by exact fun _ _ _ h => h) (by first | assumption | exact KB.refl _) (.inl ⟨by rfl, fun W hW => ?_⟩) ?_; rotate_left
  · (go_simp; first | done | with_reducible rfl)
  try simp only [Act.put, List.setIfInBounds_toArray, List.set_cons_zero, List.set_cons_succ]
  refine btake 6 (oi := _) (v := ?_) (by simp only [List.getElem?_toArray, List.getElem?_cons_succ, List.getElem?_cons_zero]; rfl) (by kernel_rfl) (by exact fun _ _ _ h => h) (by first | assumption | exact KB.refl _) (.inl ⟨by rfl, fun W hW => ?_⟩) ?_; rotate_left
  · (go_simp; first | done | with_reducible rfl)
  try simp only [Act.put, List.setIfInBounds_toArray, List.set_cons_zero, List.set_cons_succ]
  refine btake 8 (oi := _) (v := ?_) (by simp only [List.getElem?_toArray, List.getElem?_cons_succ, List.getElem?_cons_zero]; rfl) (by kernel_rfl) (by exact fun _ _ _ h => h) (by first | assumption | exact KB.refl _) (.inl ⟨by rfl, fun W hW => ?_⟩) ?_; rotate_left
  · (go_simp; first | done | with_reducible rfl)
  try simp only [Act.put, List.setIfInBounds_toArray, List.set_cons_zero, List.set_cons_succ]
  -- 7: newsreel/stamp.Right
  refine bopH 7 (o := _) (by simp only [List.getElem?_toArray, List.getElem?_cons_succ, List.getElem?_cons_zero]; rfl) (by kernel_rfl) (by first | assumption | exact KB.refl _) (by rfl) (fun K hK => ?_)
  go_simp
  refine (H6.out _).mono ?_
  rintro e w8 ⟨rfl, hb⟩
  have hB := bstep hB hb
  have hkb := KB.of hB
  refine hK.out _ _ hkb ?_; clear hK K
  try simp only [Act.put, List.setIfInBounds_toArray, List.set_cons_zero, List.set_cons_succ]
  -- 9: newsreel/newsreelref1.StampRight
  refine bopH 9 (o := _) (by simp only [List.getElem?_toArray, List.getElem?_cons_succ, List.getElem?_cons_zero]; rfl) (by kernel_rfl) (by first | assumption | exact KB.refl _) (by rfl) (fun K hK => ?_)
  go_simp
  refine (H8.out _).mono ?_
  rintro e w9 ⟨rfl, hb⟩
  have hB := bstep hB hb
  have hkb := KB.of hB
  refine hK.out _ _ hkb ?_; clear hK K
  try simp only [Act.put, List.setIfInBounds_toArray, List.set_cons_zero, List.set_cons_succ]
  refine btake 10 (oi := _) (v := ?_) (by simp only [List.getElem?_toArray, List.getElem?_cons_succ, List.getElem?_cons_zero]; rfl) (by kernel_rfl) (by exact fun _ _ _ h => h) (by first | assumption | exact KB.refl _) (.inl ⟨by rfl, fun W hW => ?_⟩) ?_; rotate_left
  · (go_simp; first | done | with_reducible rfl)
  try simp only [Act.put, List.setIfInBounds_toArray, List.set_cons_zero, List.set_cons_succ]
  refine btake 11 (oi := _) (v := ?_) (by simp only [List.getElem?_toArray, List.getElem?_cons_succ, List.getElem?_cons_zero]; rfl) (by kernel_rfl) (by exact fun _ _ _ h => h) (by first | assumption | exact KB.refl _) (.inl ⟨by rfl, fun W hW => ?_⟩) ?_; rotate_left
  · (go_simp; first | done | with_reducible rfl)
  try simp only [Act.put, List.setIfInBounds_toArray, List.set_cons_zero, List.set_cons_succ]
  refine btake 12 (oi := _) (v := ?_) (by simp only [List.getElem?_toArray, List.getElem?_cons_succ, List.getElem?_cons_zero]; rfl) (by kernel_rfl) (by exact fun _ _ _ h => h) (by first | assumption | exact KB.refl _) (.inl ⟨by rfl, fun W hW => ?_⟩) ?_; rotate_left
  · (go_simp; first | done | with_reducible rfl)
  try simp only [Act.put, List.setIfInBounds_toArray, List.set_cons_zero, List.set_cons_succ]
  refine btake 13 (oi := _) (v := ?_) (by simp only [List.getElem?_toArray, List.getElem?_cons_succ, List.getElem?_cons_zero]; rfl) (by kernel_rfl) (by exact fun _ _ _ h => h) (by first | assumption | exact KB.refl _) (.inl ⟨by rfl, fun W hW => ?_⟩) ?_; rotate_left
  · (go_simp; first | done | with_reducible rfl)
  try simp only [Act.put, List.setIfInBounds_toArray, List.set_cons_zero, List.set_cons_succ]
  refine btake 14 (oi := _) (v := ?_) (by simp only [List.getElem?_toArray, List.getElem?_cons_succ, List.getElem?_cons_zero]; rfl) (by kernel_rfl) (by exact fun _ _ _ h => h) (by first | assumption | exact KB.refl _) (.inl ⟨by rfl, fun W hW => ?_⟩) ?_; rotate_left
  · (go_simp; first | done | with_reducible rfl)
  try simp only [Act.put, List.setIfInBounds_toArray, List.set_cons_zero, List.set_cons_succ]
  refine btake 15 (oi := _) (v := ?_) (by simp only [List.getElem?_toArray, List.getElem?_cons_succ, List.getElem?_cons_zero]; rfl) (by kernel_rfl) (by exact fun _ _ _ h => h) (by first | assumption | exact KB.refl _) (.inl ⟨by rfl, fun W hW => ?_⟩) ?_; rotate_left
  · (go_simp; first | done | with_reducible rfl)
  try simp only [Act.put, List.setIfInBounds_toArray, List.set_cons_zero, List.set_cons_succ]
  -- 16: newsreel/newsreelref1.StampBytes
  refine bopH 16 (o := _) (by simp only [List.getElem?_toArray, List.getElem?_cons_succ, List.getElem?_cons_zero]; rfl) (by kernel_rfl) (by first | assumption | exact KB.refl _) (by rfl) (fun K hK => ?_)
  go_simp
  refine (H3.out _).mono ?_
  rintro e w10 ⟨A10, c10, rfl, hown, hb⟩
  have hs10 := (Fresh.sl hown).1
  have hcv10 := conv hs10 pa.length c10 rfl
  have hB := bstep hB hb
  have hkb := KB.of hB
  refine hK.out _ _ hkb ?_; clear hK K
  try simp only [Act.put, List.setIfInBounds_toArray, List.set_cons_zero, List.set_cons_succ]
  -- 17: Op.convert 28 9 (Operand.tmp 31)
  refine bopH 17 (o := _) (by simp only [List.getElem?_toArray, List.getElem?_cons_succ, List.getElem?_cons_zero]; rfl) (by kernel_rfl) (by first | assumption | exact KB.refl _) (by rfl) (fun K hK => ?_)
  go_simp
  have hkb := KB.of hB
  refine hK.out _ _ hkb ?_; clear hK K
  try simp only [Act.put, List.setIfInBounds_toArray, List.set_cons_zero, List.set_cons_succ]
  refine btake 18 (oi := _) (v := ?_) (by simp only [List.getElem?_toArray, List.getElem?_cons_succ, List.getElem?_cons_zero]; rfl) (by kernel_rfl) (by exact fun _ _ _ h => h) (by first | assumption | exact KB.refl _) (.inl ⟨by rfl, fun W hW => ?_⟩) ?_; rotate_left
  · (go_simp; first | done | with_reducible rfl)
  try simp only [Act.put, List.setIfInBounds_toArray, List.set_cons_zero, List.set_cons_succ]
  refine btake 19 (oi := _) (v := ?_) (by simp only [List.getElem?_toArray, List.getElem?_cons_succ, List.getElem?_cons_zero]; rfl) (by kernel_rfl) (by exact fun _ _ _ h => h) (by first | assumption | exact KB.refl _) (.inl ⟨by rfl, fun W hW => ?_⟩) ?_; rotate_left
  · (go_simp; first | done | with_reducible rfl)
  try simp only [Act.put, List.setIfInBounds_toArray, List.set_cons_zero, List.set_cons_succ]
  refine btake 20 (oi := _) (v := ?_) (by simp only [List.getElem?_toArray, List.getElem?_cons_succ, List.getElem?_cons_zero]; rfl) (by kernel_rfl) (by exact fun _ _ _ h => h) (by first | assumption | exact KB.refl _) (.inl ⟨by rfl, fun W hW => ?_⟩) ?_; rotate_left
  · (go_simp; first | done | with_reducible rfl)
  try simp only [Act.put, List.setIfInBounds_toArray, List.set_cons_zero, List.set_cons_succ]
  refine btake 21 (oi := _) (v := ?_) (by simp only [List.getElem?_toArray, List.getElem?_cons_succ, List.getElem?_cons_zero]; rfl) (by kernel_rfl) (by exact fun _ _ _ h => h) (by first | assumption | exact KB.refl _) (.inl ⟨by rfl, fun W hW => ?_⟩) ?_; rotate_left
  · (go_simp; first | done | with_reducible rfl)
  try simp only [Act.put, List.setIfInBounds_toArray, List.set_cons_zero, List.set_cons_succ]
  refine btake 22 (oi := _) (v := ?_) (by simp only [List.getElem?_toArray, List.getElem?_cons_succ, List.getElem?_cons_zero]; rfl) (by kernel_rfl) (by exact fun _ _ _ h => h) (by first | assumption | exact KB.refl _) (.inl ⟨by rfl, fun W hW => ?_⟩) ?_; rotate_left
  · (go_simp; first | done | with_reducible rfl)
  try simp only [Act.put, List.setIfInBounds_toArray, List.set_cons_zero, List.set_cons_succ]
  refine btake 23 (oi := _) (v := ?_) (by simp only [List.getElem?_toArray, List.getElem?_cons_succ, List.getElem?_cons_zero]; rfl) (by kernel_rfl) (by exact fun _ _ _ h => h) (by first | assumption | exact KB.refl _) (.inl ⟨by rfl, fun W hW => ?_⟩) ?_; rotate_left
  · (go_simp; first | done | with_reducible rfl)
  try simp only [Act.put, List.setIfInBounds_toArray, List.set_cons_zero, List.set_cons_succ]
  -- 24: newsreel/newsreelref1.StampBytes
  refine bopH 24 (o := _) (by simp only [List.getElem?_toArray, List.getElem?_cons_succ, List.getElem?_cons_zero]; rfl) (by kernel_rfl) (by first | assumption | exact KB.refl _) (by rfl) (fun K hK => ?_)
  go_simp
  refine (H4.out _).mono ?_
  rintro e w11 ⟨A11, c11, rfl, hown, hb⟩
  have hs11 := (Fresh.sl hown).1
  have hcv11 := conv hs11 pb.length c11 rfl
  have hB := bstep hB hb
  have hkb := KB.of hB
  refine hK.out _ _ hkb ?_; clear hK K
  try simp only [Act.put, List.setIfInBounds_toArray, List.set_cons_zero, List.set_cons_succ]
  -- 25: Op.convert 28 9 (Operand.tmp 39)
  refine bopH 25 (o := _) (by simp only [List.getElem?_toArray, List.getElem?_cons_succ, List.getElem?_cons_zero]; rfl) (by kernel_rfl) (by first | assumption | exact KB.refl _) (by rfl) (fun K hK => ?_)
  go_simp
  have hkb := KB.of hB
  refine hK.out _ _ hkb ?_; clear hK K
  try simp only [Act.put, List.setIfInBounds_toArray, List.set_cons_zero, List.set_cons_succ]
  refine btake 26 (oi := _) (v := ?_) (by simp only [List.getElem?_toArray, List.getElem?_cons_succ, List.getElem?_cons_zero]; rfl) (by kernel_rfl) (by exact fun _ _ _ h => h) (by first | assumption | exact KB.refl _) (.inl ⟨by rfl, fun W hW => ?_⟩) ?_; rotate_left
  · (go_simp; first | done | with_reducible rfl)
  try simp only [Act.put, List.setIfInBounds_toArray, List.set_cons_zero, List.set_cons_succ]
  refine btake 27 (oi := _) (v := ?_) (by simp only [List.getElem?_toArray, List.getElem?_cons_succ, List.getElem?_cons_zero]; rfl) (by kernel_rfl) (by exact fun _ _ _ h => h) (by first | assumption | exact KB.refl _) (.inl ⟨by rfl, fun W hW => ?_⟩) ?_; rotate_left
  · (go_simp; first | done | with_reducible rfl)
  try simp only [Act.put, List.setIfInBounds_toArray, List.set_cons_zero, List.set_cons_succ]
  refine bdone (by kernel_rfl) ?_
  replace va := va.below hB
  replace vb := vb.below hB
  have hsa := (hs4.below' hB).more hB.size
  have hsb := (hs5.below' hB).more hB.size
  have b11 := b5.trans (hB.mono b5.size)
  clear e0 e1 e2 e3 e4 e5 hcp hcq hS0
  clear hB hb hkb hown hcv10 hcv11 hs10 hs11 b3 b5 hs4 hs5
  generalize w.heap.size + 1 = gb at *
  obtain ⟨ga, hga⟩ : ∃ ga, w.heap.size = ga := ⟨_, rfl⟩
  rw [hga] at va ⊢
  have HGA := Lib.hid hga
  clear hga
  obtain ⟨_, f0, f1, f2, _, _, _⟩ := id va
  obtain ⟨_, f3, f4, f5, _, _, _⟩ := id vb
  by_cases hra : a.right = true
  · by_cases hrb : b.right = true
    · have hlt := H10.out hra hrb
      have heq := H11.out hra hrb
      have HP9 := Lib.hid (H12.out hra).1
      have hnine := Lib.hid (H12.out hra).2
      rw [hra] at H5
      rw [hrb] at H6
      go_wp2_with fail
      refine (H5.out _).mono ?_
      rintro e w12 ⟨rfl, hb12⟩
      replace va := va.below hb12
      replace vb := vb.below hb12
      replace hsa := (hsa.below' hb12).more hb12.size
      replace hsb := (hsb.below' hb12).more hb12.size
      replace b11 := b11.trans (hb12.mono b11.size)
      clear f0 f1 f2 f3 f4 f5 hb12
      obtain ⟨_, f3, f4, f5, _, _, _⟩ := id vb
      go_wp2_with fail
      refine (H6.out _).mono ?_
      rintro e w13 ⟨rfl, hb13⟩
      replace va := va.below hb13
      replace vb := vb.below hb13
      replace hsa := (hsa.below' hb13).more hb13.size
      replace hsb := (hsb.below' hb13).more hb13.size
      replace b11 := b11.trans (hb13.mono b11.size)
      clear f3 f4 f5 hb13
      go_wp2_with fail
      have hrd := Read_nine w13 A4 c4 pa hsa HP9.out (by have := HP9.out; omega) hm4.2
      rw [hnine.out, ← HP9.out] at hrd
      refine hrd.mono ?_
      clear hrd
      rintro e w14 ⟨rfl, hb14⟩
      replace va := va.below hb14
      replace vb := vb.below hb14
      replace hsa := (hsa.below' hb14).more hb14.size
      replace hsb := (hsb.below' hb14).more hb14.size
      replace b11 := b11.trans (hb14.mono b11.size)
      clear hb14
      unfold S3.v
      go_wp2_with fail
      have vx := Stands.new w14 23 a
      replace va := va.alloc (.cells #[.int .i64 a.p, .int .i64 a.l, .int .i64 a.r] 23)
      replace vb := vb.alloc (.cells #[.int .i64 a.p, .int .i64 a.l, .int .i64 a.r] 23)
      replace hsa := hsa.alloc (.cells #[.int .i64 a.p, .int .i64 a.l, .int .i64 a.r] 23)
      replace hsb := hsb.alloc (.cells #[.int .i64 a.p, .int .i64 a.l, .int .i64 a.r] 23)
      replace b11 := b11.alloc b11.size (.cells #[.int .i64 a.p, .int .i64 a.l, .int .i64 a.r] 23)
      generalize w14.alloc (.cells #[.int .i64 a.p, .int .i64 a.l, .int .i64 a.r] 23) = w15 at *
      have e0 := cellB va.2.1
      have e1 := cellB va.2.2.1
      have e2 := cellB va.2.2.2.1
      have e3 := cellB vb.2.1
      have e4 := cellB vb.2.2.1
      have e5 := cellB vb.2.2.2.1
      have e6 := cellB vx.2.1
      have e7 := cellB vx.2.2.1
      have e8 := cellB vx.2.2.2.1
      have hcp := convB hsa pa.length c4 rfl
      have hcq := convB hsb pb.length c5 rfl
      have h9i : ((pa.length : Int) == 9) = true := by have := HP9.out; simp; omega
      clear hnine
      have hS0 : KB w15.heap w15.drew := KB.refl w15
      refine bstartH (w15.heap) (by kernel_rfl) ?_
      refine btake 0 (oi := _) (v := ?_) (by simp only [List.getElem?_toArray, List.getElem?_cons_succ, List.getElem?_cons_zero]; rfl) (by kernel_rfl) (by exact fun _ _ _ h => h) (by first | assumption | exact KB.refl _) (.inl ⟨by rfl, fun W hW => ?_⟩) ?_; rotate_left
      · (go_simp; first | done | with_reducible rfl)
      try simp only [Act.put, List.setIfInBounds_toArray, List.set_cons_zero, List.set_cons_succ]
      refine btake 1 (oi := _) (v := ?_) (by simp only [List.getElem?_toArray, List.getElem?_cons_succ, List.getElem?_cons_zero]; rfl) (by kernel_rfl) (by exact fun _ _ _ h => h) (by first | assumption | exact KB.refl _) (.inl ⟨by rfl, fun W hW => ?_⟩) ?_; rotate_left
      · (go_simp; first | done | with_reducible rfl)
      try simp only [Act.put, List.setIfInBounds_toArray, List.set_cons_zero, List.set_cons_succ]
      refine btake 2 (oi := _) (v := ?_) (by simp only [List.getElem?_toArray, List.getElem?_cons_succ, List.getElem?_cons_zero]; rfl) (by kernel_rfl) (by exact fun _ _ _ h => h) (by first | assumption | exact KB.refl _) (.inl ⟨by rfl, fun W hW => ?_⟩) ?_; rotate_left
      · (go_simp; first | done | with_reducible rfl)
      try simp only [Act.put, List.setIfInBounds_toArray, List.set_cons_zero, List.set_cons_succ]
      refine btake 3 (oi := _) (v := ?_) (by simp only [List.getElem?_toArray, List.getElem?_cons_succ, List.getElem?_cons_zero]; rfl) (by kernel_rfl) (by exact fun _ _ _ h => h) (by first | assumption | exact KB.refl _) (.inl ⟨by rfl, fun W hW => ?_⟩) ?_; rotate_left
      · (go_simp; first | done | with_reducible rfl)
      try simp only [Act.put, List.setIfInBounds_toArray, List.set_cons_zero, List.set_cons_succ]
      refine btake 4 (oi := _) (v := ?_) (by simp only [List.getElem?_toArray, List.getElem?_cons_succ, List.getElem?_cons_zero]; rfl) (by kernel_rfl) (by exact fun _ _ _ h => h) (by first | assumption | exact KB.refl _) (.inl ⟨by rfl, fun W hW => ?_⟩) ?_; rotate_left
      · (go_simp; first | done | with_reducible rfl)
      try simp only [Act.put, List.setIfInBounds_toArray, List.set_cons_zero, List.set_cons_succ]
      refine btake 5 (oi := _) (v := ?_) (by simp only [List.getElem?_toArray, List.getElem?_cons_succ, List.getElem?_cons_zero]; rfl) (by kernel_rfl) (by exact fun _ _ _ h => h) (by first | assumption | exact KB.refl _) (.inl ⟨by rfl, fun W hW => ?_⟩) ?_; rotate_left
      · (go_simp; first | done | with_reducible rfl)
      try simp only [Act.put, List.setIfInBounds_toArray, List.set_cons_zero, List.set_cons_succ]
      refine btake 6 (oi := _) (v := ?_) (by simp only [List.getElem?_toArray, List.getElem?_cons_succ, List.getElem?_cons_zero]; rfl) (by kernel_rfl) (by exact fun _ _ _ h => h) (by first | assumption | exact KB.refl _) (.inl ⟨by rfl, fun W hW => ?_⟩) ?_; rotate_left
      · (go_simp; first | done | with_reducible rfl)
      try simp only [Act.put, List.setIfInBounds_toArray, List.set_cons_zero, List.set_cons_succ]
      refine btake 7 (oi := _) (v := ?_) (by simp only [List.getElem?_toArray, List.getElem?_cons_succ, List.getElem?_cons_zero]; rfl) (by kernel_rfl) (by exact fun _ _ _ h => h) (by first | assumption | exact KB.refl _) (.inl ⟨by rfl, fun W hW => ?_⟩) ?_; rotate_left
      · (go_simp; first | done | with_reducible rfl)
      try simp only [Act.put, List.setIfInBounds_toArray, List.set_cons_zero, List.set_cons_succ]
      refine btake 8 (oi := _) (v := ?_) (by simp only [List.getElem?_toArray, List.getElem?_cons_succ, List.getElem?_cons_zero]; rfl) (by kernel_rfl) (by exact fun _ _ _ h => h) (by first | assumption | exact KB.refl _) (.inl ⟨by rfl, fun W hW => ?_⟩) ?_; rotate_left
      · (go_simp; first | done | with_reducible rfl)
      try simp only [Act.put, List.setIfInBounds_toArray, List.set_cons_zero, List.set_cons_succ]
      refine btake 9 (oi := _) (v := ?_) (by simp only [List.getElem?_toArray, List.getElem?_cons_succ, List.getElem?_cons_zero]; rfl) (by kernel_rfl) (by exact fun _ _ _ h => h) (by first | assumption | exact KB.refl _) (.inl ⟨by rfl, fun W hW => ?_⟩) ?_; rotate_left
      · (go_simp; first | done | with_reducible rfl)
      try simp only [Act.put, List.setIfInBounds_toArray, List.set_cons_zero, List.set_cons_succ]
      refine btake 10 (oi := _) (v := ?_) (by simp only [List.getElem?_toArray, List.getElem?_cons_succ, List.getElem?_cons_zero]; rfl) (by kernel_rfl) (by exact fun _ _ _ h => h) (by first | assumption | exact KB.refl _) (.inl ⟨by rfl, fun W hW => ?_⟩) ?_; rotate_left
      · (go_simp; first | done | with_reducible rfl)
      try simp only [Act.put, List.setIfInBounds_toArray, List.set_cons_zero, List.set_cons_succ]
      refine btake 11 (oi := _) (v := ?_) (by simp only [List.getElem?_toArray, List.getElem?_cons_succ, List.getElem?_cons_zero]; rfl) (by kernel_rfl) (by exact fun _ _ _ h => h) (by first | assumption | exact KB.refl _) (.inl ⟨by rfl, fun W hW => ?_⟩) ?_; rotate_left
      · (go_simp; first | done | with_reducible rfl)
      try simp only [Act.put, List.setIfInBounds_toArray, List.set_cons_zero, List.set_cons_succ]
      refine btake 12 (oi := _) (v := ?_) (by simp only [List.getElem?_toArray, List.getElem?_cons_succ, List.getElem?_cons_zero]; rfl) (by kernel_rfl) (by exact fun _ _ _ h => h) (by first | assumption | exact KB.refl _) (.inl ⟨by rfl, fun W hW => ?_⟩) ?_; rotate_left
      · (go_simp; first | done | with_reducible rfl)
      try simp only [Act.put, List.setIfInBounds_toArray, List.set_cons_zero, List.set_cons_succ]
      refine btake 13 (oi := _) (v := ?_) (by simp only [List.getElem?_toArray, List.getElem?_cons_succ, List.getElem?_cons_zero]; rfl) (by kernel_rfl) (by exact fun _ _ _ h => h) (by first | assumption | exact KB.refl _) (.inl ⟨by rfl, fun W hW => ?_⟩) ?_; rotate_left
      · (go_simp; first | done | with_reducible rfl)
      try simp only [Act.put, List.setIfInBounds_toArray, List.set_cons_zero, List.set_cons_succ]
      refine btake 14 (oi := _) (v := ?_) (by simp only [List.getElem?_toArray, List.getElem?_cons_succ, List.getElem?_cons_zero]; rfl) (by kernel_rfl) (by exact fun _ _ _ h => h) (by first | assumption | exact KB.refl _) (.inl ⟨by rfl, fun W hW => ?_⟩) ?_; rotate_left
      · (go_simp; first | done | with_reducible rfl)
      try simp only [Act.put, List.setIfInBounds_toArray, List.set_cons_zero, List.set_cons_succ]
      refine btake 15 (oi := _) (v := ?_) (by simp only [List.getElem?_toArray, List.getElem?_cons_succ, List.getElem?_cons_zero]; rfl) (by kernel_rfl) (by exact fun _ _ _ h => h) (by first | assumption | exact KB.refl _) (.inl ⟨by rfl, fun W hW => ?_⟩) ?_; rotate_left
      · (go_simp; first | done | with_reducible rfl)
      try simp only [Act.put, List.setIfInBounds_toArray, List.set_cons_zero, List.set_cons_succ]
      refine btake 16 (oi := _) (v := ?_) (by simp only [List.getElem?_toArray, List.getElem?_cons_succ, List.getElem?_cons_zero]; rfl) (by kernel_rfl) (by exact fun _ _ _ h => h) (by first | assumption | exact KB.refl _) (.inl ⟨by rfl, fun W hW => ?_⟩) ?_; rotate_left
      · (go_simp; first | done | with_reducible rfl)
      try simp only [Act.put, List.setIfInBounds_toArray, List.set_cons_zero, List.set_cons_succ]
      refine btake 17 (oi := _) (v := ?_) (by simp only [List.getElem?_toArray, List.getElem?_cons_succ, List.getElem?_cons_zero]; rfl) (by kernel_rfl) (by exact fun _ _ _ h => h) (by first | assumption | exact KB.refl _) (.inl ⟨by rfl, fun W hW => ?_⟩) ?_; rotate_left
      · (go_simp; first | done | with_reducible rfl)
      try simp only [Act.put, List.setIfInBounds_toArray, List.set_cons_zero, List.set_cons_succ]
      refine btake 18 (oi := _) (v := ?_) (by simp only [List.getElem?_toArray, List.getElem?_cons_succ, List.getElem?_cons_zero]; rfl) (by kernel_rfl) (by exact fun _ _ _ h => h) (by first | assumption | exact KB.refl _) (.inl ⟨by rfl, fun W hW => ?_⟩) ?_; rotate_left
      · (go_simp; first | done | with_reducible rfl)
      try simp only [Act.put, List.setIfInBounds_toArray, List.set_cons_zero, List.set_cons_succ]
      refine btake 19 (oi := _) (v := ?_) (by simp only [List.getElem?_toArray, List.getElem?_cons_succ, List.getElem?_cons_zero]; rfl) (by kernel_rfl) (by exact fun _ _ _ h => h) (by first | assumption | exact KB.refl _) (.inl ⟨by rfl, fun W hW => ?_⟩) ?_; rotate_left
      · (go_simp; first | done | with_reducible rfl)
      try simp only [Act.put, List.setIfInBounds_toArray, List.set_cons_zero, List.set_cons_succ]
      -- 20: newsreel/stamp.Less
      refine bopH 20 (o := _) (by simp only [List.getElem?_toArray, List.getElem?_cons_succ, List.getElem?_cons_zero]; rfl) (by kernel_rfl) (by first | assumption | exact KB.refl _) (by rfl) (fun K hK => ?_)
      go_simp
      refine (H9.out _).mono ?_
      rintro e w16 ⟨rfl, hb16⟩
      have hB : Below w15.heap.size w15 w16 := (Below.refl _ w15).drew.trans hb16
      have hkb := KB.of hB
      refine hK.out _ _ hkb ?_; clear hK K
      try simp only [Act.put, List.setIfInBounds_toArray, List.set_cons_zero, List.set_cons_succ]
      refine btake 21 (oi := _) (v := ?_) (by simp only [List.getElem?_toArray, List.getElem?_cons_succ, List.getElem?_cons_zero]; rfl) (by kernel_rfl) (by exact fun _ _ _ h => h) (by first | assumption | exact KB.refl _) (.inl ⟨by rfl, fun W hW => ?_⟩) ?_; rotate_left
      · (go_simp; first | done | with_reducible rfl)
      try simp only [Act.put, List.setIfInBounds_toArray, List.set_cons_zero, List.set_cons_succ]
      refine btake 22 (oi := _) (v := ?_) (by simp only [List.getElem?_toArray, List.getElem?_cons_succ, List.getElem?_cons_zero]; rfl) (by kernel_rfl) (by exact fun _ _ _ h => h) (by first | assumption | exact KB.refl _) (.inl ⟨by rfl, fun W hW => ?_⟩) ?_; rotate_left
      · (go_simp; first | done | with_reducible rfl)
      try simp only [Act.put, List.setIfInBounds_toArray, List.set_cons_zero, List.set_cons_succ]
      refine btake 23 (oi := _) (v := ?_) (by simp only [List.getElem?_toArray, List.getElem?_cons_succ, List.getElem?_cons_zero]; rfl) (by kernel_rfl) (by exact fun _ _ _ h => h) (by first | assumption | exact KB.refl _) (.inl ⟨by rfl, fun W hW => ?_⟩) ?_; rotate_left
      · (go_simp; first | done | with_reducible rfl)
      try simp only [Act.put, List.setIfInBounds_toArray, List.set_cons_zero, List.set_cons_succ]
      refine btake 24 (oi := _) (v := ?_) (by simp only [List.getElem?_toArray, List.getElem?_cons_succ, List.getElem?_cons_zero]; rfl) (by kernel_rfl) (by exact fun _ _ _ h => h) (by first | assumption | exact KB.refl _) (.inl ⟨by rfl, fun W hW => ?_⟩) ?_; rotate_left
      · (go_simp; first | done | with_reducible rfl)
      try simp only [Act.put, List.setIfInBounds_toArray, List.set_cons_zero, List.set_cons_succ]
      refine btake 25 (oi := _) (v := ?_) (by simp only [List.getElem?_toArray, List.getElem?_cons_succ, List.getElem?_cons_zero]; rfl) (by kernel_rfl) (by exact fun _ _ _ h => h) (by first | assumption | exact KB.refl _) (.inl ⟨by rfl, fun W hW => ?_⟩) ?_; rotate_left
      · (go_simp; first | done | with_reducible rfl)
      try simp only [Act.put, List.setIfInBounds_toArray, List.set_cons_zero, List.set_cons_succ]
      refine btake 26 (oi := _) (v := ?_) (by simp only [List.getElem?_toArray, List.getElem?_cons_succ, List.getElem?_cons_zero]; rfl) (by kernel_rfl) (by exact fun _ _ _ h => h) (by first | assumption | exact KB.refl _) (.inl ⟨by rfl, fun W hW => ?_⟩) ?_; rotate_left
      · (go_simp; first | done | with_reducible rfl)
      try simp only [Act.put, List.setIfInBounds_toArray, List.set_cons_zero, List.set_cons_succ]
      refine btake 27 (oi := _) (v := ?_) (by simp only [List.getElem?_toArray, List.getElem?_cons_succ, List.getElem?_cons_zero]; rfl) (by kernel_rfl) (by exact fun _ _ _ h => h) (by first | assumption | exact KB.refl _) (.inl ⟨by rfl, fun W hW => ?_⟩) ?_; rotate_left
      · (go_simp; first | done | with_reducible rfl)
      try simp only [Act.put, List.setIfInBounds_toArray, List.set_cons_zero, List.set_cons_succ]
      refine btake 28 (oi := _) (v := ?_) (by simp only [List.getElem?_toArray, List.getElem?_cons_succ, List.getElem?_cons_zero]; rfl) (by kernel_rfl) (by exact fun _ _ _ h => h) (by first | assumption | exact KB.refl _) (.inl ⟨by rfl, fun W hW => ?_⟩) ?_; rotate_left
      · (go_simp; first | done | with_reducible rfl)
      try simp only [Act.put, List.setIfInBounds_toArray, List.set_cons_zero, List.set_cons_succ]
      refine btake 29 (oi := _) (v := ?_) (by simp only [List.getElem?_toArray, List.getElem?_cons_succ, List.getElem?_cons_zero]; rfl) (by kernel_rfl) (by exact fun _ _ _ h => h) (by first | assumption | exact KB.refl _) (.inl ⟨by rfl, fun W hW => ?_⟩) ?_; rotate_left
      · (go_simp; first | done | with_reducible rfl)
      try simp only [Act.put, List.setIfInBounds_toArray, List.set_cons_zero, List.set_cons_succ]
      refine btake 30 (oi := _) (v := ?_) (by simp only [List.getElem?_toArray, List.getElem?_cons_succ, List.getElem?_cons_zero]; rfl) (by kernel_rfl) (by exact fun _ _ _ h => h) (by first | assumption | exact KB.refl _) (.inl ⟨by rfl, fun W hW => ?_⟩) ?_; rotate_left
      · (go_simp; first | done | with_reducible rfl)
      try simp only [Act.put, List.setIfInBounds_toArray, List.set_cons_zero, List.set_cons_succ]
      refine btake 31 (oi := _) (v := ?_) (by simp only [List.getElem?_toArray, List.getElem?_cons_succ, List.getElem?_cons_zero]; rfl) (by kernel_rfl) (by exact fun _ _ _ h => h) (by first | assumption | exact KB.refl _) (.inl ⟨by rfl, fun W hW => ?_⟩) ?_; rotate_left
      · go_simp
        exact if3 a b _
      try simp only [Act.put, List.setIfInBounds_toArray, List.set_cons_zero, List.set_cons_succ]
      refine btake 32 (oi := _) (v := ?_) (by simp only [List.getElem?_toArray, List.getElem?_cons_succ, List.getElem?_cons_zero]; rfl) (by kernel_rfl) (by exact fun _ _ _ h => h) (by first | assumption | exact KB.refl _) (.inl ⟨by rfl, fun W hW => ?_⟩) ?_; rotate_left
      · (go_simp; first | done | with_reducible rfl)
      try simp only [Act.put, List.setIfInBounds_toArray, List.set_cons_zero, List.set_cons_succ]
      refine btake 33 (oi := _) (v := ?_) (by simp only [List.getElem?_toArray, List.getElem?_cons_succ, List.getElem?_cons_zero]; rfl) (by kernel_rfl) (by exact fun _ _ _ h => h) (by first | assumption | exact KB.refl _) (.inl ⟨by rfl, fun W hW => ?_⟩) ?_; rotate_left
      · (go_simp; first | done | with_reducible rfl)
      try simp only [Act.put, List.setIfInBounds_toArray, List.set_cons_zero, List.set_cons_succ]
      refine btake 34 (oi := _) (v := ?_) (by simp only [List.getElem?_toArray, List.getElem?_cons_succ, List.getElem?_cons_zero]; rfl) (by kernel_rfl) (by exact fun _ _ _ h => h) (by first | assumption | exact KB.refl _) (.inl ⟨by rfl, fun W hW => ?_⟩) ?_; rotate_left
      · (go_simp; first | done | with_reducible rfl)
      try simp only [Act.put, List.setIfInBounds_toArray, List.set_cons_zero, List.set_cons_succ]
      refine bdone (by kernel_rfl) ?_
      have bf := b11.trans (hB.mono b11.size)
      go_wp2_with fail
      go_ret
      refine ⟨?_, bf⟩
      simp only [hlt, heq, HP9.out]
      simp
    · have hrb' : b.right = false := by simpa using hrb
      rw [hra] at H5
      rw [hrb'] at H6
      go_wp2_with fail
      refine (H5.out _).mono ?_
      rintro e w12 ⟨rfl, hb12⟩
      replace vb := vb.below hb12
      replace b11 := b11.trans (hb12.mono b11.size)
      clear f0 f1 f2 f3 f4 f5 hb12
      obtain ⟨_, f3, f4, f5, _, _, _⟩ := vb
      go_wp2_with fail
      refine (H6.out _).mono ?_
      rintro e w13 ⟨rfl, hb13⟩
      replace b11 := b11.trans (hb13.mono b11.size)
      go_wp2_with fail
      go_ret
      exact ⟨rfl, b11⟩
  · have hra' : a.right = false := by simpa using hra
    rw [hra'] at H5
    go_wp2_with fail
    refine (H5.out _).mono ?_
    rintro e w12 ⟨rfl, hb12⟩
    replace b11 := b11.trans (hb12.mono b11.size)
    go_wp2_with fail
    go_ret
    exact ⟨rfl, b11⟩
end Go.Proofs.Ythpooogjlmaemaa

