/- Stamps: their bytes. -/
import Derived.Test.YthpooogjlmaemaaStamp
import Derived.Test.YthpooogjlmaemaaNumFix
namespace Go.Proofs.Ythpooogjlmaemaa
open Go.RowKit Go.Proofs.Ythpooogjlmaemaa.Pl

set_option maxRecDepth 100000 in
set_option maxHeartbeats 1600000 in
theorem Bytes_wrong (w : World) (s : S3) (hs : s.right = false) : Calls Try.prog 14 #[s.v] w (Fresh w []) := by
  have hr := fun W => Right_any W s
  rw [hs] at hr
  unfold S3.v at hr ⊢
  have HR := Lib.hid hr
  clear hr hs
  obtain ⟨p, l, r⟩ := s
  go_enter Try.func14, Try.ntmps14
  go_wp2_with fail
  refine (HR.out _).mono ?_
  rintro e w1 ⟨rfl, hb1⟩
  go_wp2_with fail
  go_ret
  exact ⟨none, 0, rfl, OwnB.nil _ _, bstep ((Below.refl _ _).alloc (Nat.le_refl _) _) hb1⟩
set_option maxRecDepth 100000 in
set_option maxHeartbeats 1600000 in
theorem Bytes_right (w : World) (P L R : Nat) (hP : P < 281474976710656) (hL : L < 65536) (hR : R < 64) : Calls Try.prog 14 #[S3.v ⟨P, L, R⟩] w (Fresh w (fixF P 6 ++ fixF L 2 ++ [UInt8.ofNat R])) := by
  have hr := fun W => Right_any W ⟨(P : Int), (L : Int), (R : Int)⟩
  rw [show S3.right ⟨(P : Int), (L : Int), (R : Int)⟩ = true by simp [S3.right]; omega] at hr
  unfold S3.v at hr ⊢
  have HR := Lib.hid hr
  clear hr
  have hl6 : (fixF P 6).length = 6 := fixF_len P 6
  have hl2 : (fixF L 2).length = 2 := fixF_len L 2
  have hf6 := fun W => Fixed_lit W P 6 (fixF P 6) (by omega) rfl
  have hf2 := fun W => Fixed_lit W L 2 (fixF L 2) (by omega) rfl
  generalize fixF P 6 = F6 at *
  generalize fixF L 2 = F2 at *
  have HF := Lib.hid (And.intro hf6 hf2)
  clear hf6 hf2
  have HL := Lib.hid (And.intro hl6 hl2)
  clear hl6 hl2
  go_enter Try.func14, Try.ntmps14
  go_wp2_with fail
  obtain ⟨c0, c1, c2⟩ := cell3 w 23 (.int .i64 (P : Int)) (.int .i64 (L : Int)) (.int .i64 (R : Int))
  have hb0 := balloc (Below.refl w.heap.size w) (.cells #[.int .i64 (P : Int), .int .i64 (L : Int), .int .i64 (R : Int)] 23)
  have hsz : w.heap.size < (w.alloc (.cells #[.int .i64 (P : Int), .int .i64 (L : Int), .int .i64 (R : Int)] 23)).heap.size := by simp
  refine (HR.out _).mono ?_
  rintro e w1 ⟨rfl, hb1⟩
  generalize w.alloc (.cells #[.int .i64 (P : Int), .int .i64 (L : Int), .int .i64 (R : Int)] 23) = w0 at *
  have d0 := cellB ((hb1.cell (p := ⟨w.heap.size, 0, none⟩) hsz).trans c0)
  have d1 := cellB ((hb1.cell (p := ⟨w.heap.size, 1, none⟩) hsz).trans c1)
  have d2 := cellB ((hb1.cell (p := ⟨w.heap.size, 2, none⟩) hsz).trans c2)
  have hbw := bstep hb0 hb1
  have k1 : IntKind.u64.wrap (P : Int) = (P : Int) := by rw [IntKind.wrap_u64]; omega
  have k2 : IntKind.u64.wrap (L : Int) = (L : Int) := by rw [IntKind.wrap_u64]; omega
  have k3 : IntKind.u8.wrap (R : Int) = (R : Int) := by rw [IntKind.wrap_u8]; omega
  clear c0 c1 c2 hb0 hb1
  go_wp2_with fail
  have hS0 : KB w1.heap w1.drew := KB.refl w1
  refine bstartH (w1.heap) (by kernel_rfl) ?_
  refine btake 0 (oi := _) (v := ?_) (by simp only [List.getElem?_toArray, List.getElem?_cons_zero]; rfl) (by kernel_rfl) (by exact fun _ _ _ h => h) (by first | assumption | exact KB.refl _) (.inl ⟨by rfl, fun W hW => ?_⟩) ?_; rotate_left
  · (go_simp; first | done | with_reducible rfl)
  try simp only [Act.put, List.setIfInBounds_toArray, List.set_cons_zero, List.set_cons_succ]
  refine btake 1 (oi := _) (v := ?_) (by simp only [List.getElem?_toArray, List.getElem?_cons_succ, List.getElem?_cons_zero]; rfl) (by kernel_rfl) (by exact fun _ _ _ h => h) (by first | assumption | exact KB.refl _) (.inl ⟨by rfl, fun W hW => ?_⟩) ?_; rotate_left
  · (go_simp; first | done | with_reducible rfl)
  try simp only [Act.put, List.setIfInBounds_toArray, List.set_cons_zero, List.set_cons_succ]
  refine btake 2 (oi := _) (v := ?_) (by simp only [List.getElem?_toArray, List.getElem?_cons_succ, List.getElem?_cons_zero]; rfl) (by kernel_rfl) (by exact fun _ _ _ h => h) (by first | assumption | exact KB.refl _) (.inl ⟨by rfl, fun W hW => ?_⟩) ?_; rotate_left
  · (go_simp; first | done | with_reducible rfl)
  try simp only [Act.put, List.setIfInBounds_toArray, List.set_cons_zero, List.set_cons_succ]
  refine btake 4 (oi := _) (v := ?_) (by simp only [List.getElem?_toArray, List.getElem?_cons_succ, List.getElem?_cons_zero]; rfl) (by kernel_rfl) (by exact fun _ _ _ h => h) (by first | assumption | exact KB.refl _) (.inl ⟨by rfl, fun W hW => ?_⟩) ?_; rotate_left
  · (go_simp; first | done | with_reducible rfl)
  try simp only [Act.put, List.setIfInBounds_toArray, List.set_cons_zero, List.set_cons_succ]
  refine btake 5 (oi := _) (v := ?_) (by simp only [List.getElem?_toArray, List.getElem?_cons_succ, List.getElem?_cons_zero]; rfl) (by kernel_rfl) (by exact fun _ _ _ h => h) (by first | assumption | exact KB.refl _) (.inl ⟨by rfl, fun W hW => ?_⟩) ?_; rotate_left
  · (go_simp; first | done | with_reducible rfl)
  try simp only [Act.put, List.setIfInBounds_toArray, List.set_cons_zero, List.set_cons_succ]
  refine btake 6 (oi := _) (v := ?_) (by simp only [List.getElem?_toArray, List.getElem?_cons_succ, List.getElem?_cons_zero]; rfl) (by kernel_rfl) (by exact fun _ _ _ h => h) (by first | assumption | exact KB.refl _) (.inl ⟨by rfl, fun W hW => ?_⟩) ?_; rotate_left
  · (go_simp; first | done | with_reducible rfl)
  try simp only [Act.put, List.setIfInBounds_toArray, List.set_cons_zero, List.set_cons_succ]
  -- 3: newsreel/num.Fixed
  refine bopH 3 (o := _) (by simp only [List.getElem?_toArray, List.getElem?_cons_succ, List.getElem?_cons_zero]; rfl) (by kernel_rfl) (by first | assumption | exact KB.refl _) (by rfl) (fun K hK => ?_)
  go_simp
  refine (HF.out.1 _).mono ?_
  rintro e w3 ⟨A3, c3, rfl, hown3, hb3⟩
  have hb3' : Below w1.heap.size w1 w3 := (Below.refl w1.heap.size w1).drew.trans hb3
  have hkb := KB.of hb3'
  refine hK.out _ _ hkb ?_; clear hK K
  try simp only [Act.put, List.setIfInBounds_toArray, List.set_cons_zero, List.set_cons_succ]
  -- 7: newsreel/num.Fixed
  refine bopH 7 (o := _) (by simp only [List.getElem?_toArray, List.getElem?_cons_succ, List.getElem?_cons_zero]; rfl) (by kernel_rfl) (by first | assumption | exact KB.refl _) (by rfl) (fun K hK => ?_)
  go_simp
  refine (HF.out.2 _).mono ?_
  rintro e w4 ⟨A4, c4, rfl, hown4, hb4⟩
  have hs4 := (Fresh.sl hown4).1
  have hb4' := bstep hb3' hb4
  have hown34 := OwnB.below hown3 hb4
  have hkb := KB.of hb4'
  refine hK.out _ _ hkb ?_; clear hK K
  try simp only [Act.put, List.setIfInBounds_toArray, List.set_cons_zero, List.set_cons_succ]
  -- 8: Op.call { callee := Callee.builtin Builtin.append, args := #[Operand.tmp 10, Operand.tmp 14], argTypes := #[28, 28] }
  refine bopH 8 (o := _) (by simp only [List.getElem?_toArray, List.getElem?_cons_succ, List.getElem?_cons_zero]; rfl) (by kernel_rfl) (by first | assumption | exact KB.refl _) (by rfl) (fun K hK => ?_)
  refine wp_app rfl hown34 hs4 rfl rfl rfl (by rw [HL.out.1, HL.out.2]; omega) (by have := hb4'.size; exact this) ?_
  intro s5 w5 hown5 hg5 hat5
  have hb5 : Below w1.heap.size w1 w5 := own_below hb4' hb4'.size hown34 hg5
  have hkb := KB.of hb5
  refine hK.out _ _ hkb ?_; clear hK K
  try simp only [Act.put, List.setIfInBounds_toArray, List.set_cons_zero, List.set_cons_succ]
  refine btake 9 (oi := _) (v := ?_) (by simp only [List.getElem?_toArray, List.getElem?_cons_succ, List.getElem?_cons_zero]; rfl) (by kernel_rfl) (by exact fun _ _ _ h => h) (by first | assumption | exact KB.refl _) (.inl ⟨by rfl, fun W hW => ?_⟩) ?_; rotate_left
  · (go_simp; first | done | with_reducible rfl)
  try simp only [Act.put, List.setIfInBounds_toArray, List.set_cons_zero, List.set_cons_succ]
  refine bdone (by kernel_rfl) ?_
  obtain ⟨A5, c5, rfl, _⟩ := hown5.form
  have hb5' := bstep hbw hb5
  have d2' := (hb5.cell (p := ⟨w.heap.size, 2, none⟩) (World.block_lt_of_cell? w1 _ (d2 w1 (KB.refl w1)))).trans (d2 w1 (KB.refl w1))
  go_wp2_with (at_builtin; refine appN rfl rfl hown5 (one_bv R (by omega)) rfl rfl rfl (by simp [HL.out.1, HL.out.2]) hb5.size ?_; intro s6 w6 hown6 hg6 hat6)
  obtain ⟨A6, c6, rfl, _⟩ := hown6.form
  go_ret
  exact ⟨A6, c6, rfl, hown6.lower hbw.size, own_below hb5' hb5'.size (hown5.lower hbw.size) hg6⟩
set_option maxRecDepth 100000 in
set_option maxHeartbeats 1600000 in
theorem RefBytes_wrong (w : World) (s : S3) (hs : s.right = false) : Calls Try.prog 17 #[s.v] w (Fresh w []) := by
  have hr := fun W => RefRight_any W s
  rw [hs] at hr
  unfold S3.v at hr ⊢
  have HR := Lib.hid hr
  clear hr hs
  obtain ⟨p, l, r⟩ := s
  go_enter Try.func17, Try.ntmps17
  go_wp2_with fail
  refine (HR.out _).mono ?_
  rintro e w1 ⟨rfl, hb1⟩
  go_wp2_with fail
  go_ret
  exact ⟨none, 0, rfl, OwnB.nil _ _, bstep ((Below.refl _ _).alloc (Nat.le_refl _) _) hb1⟩
set_option maxRecDepth 100000 in
set_option maxHeartbeats 1600000 in
theorem RefBytes_right (w : World) (P L R : Nat) (hP : P < 281474976710656) (hL : L < 65536) (hR : R < 64) : Calls Try.prog 17 #[S3.v ⟨P, L, R⟩] w (Fresh w (fixF P 6 ++ fixF L 2 ++ [UInt8.ofNat R])) := by
  have hr := fun W => RefRight_any W ⟨(P : Int), (L : Int), (R : Int)⟩
  rw [show S3.right ⟨(P : Int), (L : Int), (R : Int)⟩ = true by simp [S3.right]; omega] at hr
  unfold S3.v at hr ⊢
  have HR := Lib.hid hr
  clear hr
  have hl6 : (fixF P 6).length = 6 := fixF_len P 6
  have hl2 : (fixF L 2).length = 2 := fixF_len L 2
  have hf6 := fun W => RefFixed_lit W P 6 (fixF P 6) (by omega) rfl
  have hf2 := fun W => RefFixed_lit W L 2 (fixF L 2) (by omega) rfl
  generalize fixF P 6 = F6 at *
  generalize fixF L 2 = F2 at *
  have HF := Lib.hid (And.intro hf6 hf2)
  clear hf6 hf2
  have HL := Lib.hid (And.intro hl6 hl2)
  clear hl6 hl2
  go_enter Try.func17, Try.ntmps17
  go_wp2_with fail
  obtain ⟨c0, c1, c2⟩ := cell3 w 23 (.int .i64 (P : Int)) (.int .i64 (L : Int)) (.int .i64 (R : Int))
  have hb0 := balloc (Below.refl w.heap.size w) (.cells #[.int .i64 (P : Int), .int .i64 (L : Int), .int .i64 (R : Int)] 23)
  have hsz : w.heap.size < (w.alloc (.cells #[.int .i64 (P : Int), .int .i64 (L : Int), .int .i64 (R : Int)] 23)).heap.size := by simp
  refine (HR.out _).mono ?_
  rintro e w1 ⟨rfl, hb1⟩
  generalize w.alloc (.cells #[.int .i64 (P : Int), .int .i64 (L : Int), .int .i64 (R : Int)] 23) = w0 at *
  have d0 := cellB ((hb1.cell (p := ⟨w.heap.size, 0, none⟩) hsz).trans c0)
  have d1 := cellB ((hb1.cell (p := ⟨w.heap.size, 1, none⟩) hsz).trans c1)
  have d2 := cellB ((hb1.cell (p := ⟨w.heap.size, 2, none⟩) hsz).trans c2)
  have hbw := bstep hb0 hb1
  have k1 : IntKind.u64.wrap (P : Int) = (P : Int) := by rw [IntKind.wrap_u64]; omega
  have k2 : IntKind.u64.wrap (L : Int) = (L : Int) := by rw [IntKind.wrap_u64]; omega
  have k3 : IntKind.u8.wrap (R : Int) = (R : Int) := by rw [IntKind.wrap_u8]; omega
  clear c0 c1 c2 hb0 hb1
  go_wp2_with fail
  have hS0 : KB w1.heap w1.drew := KB.refl w1
  have hB : Below w1.heap.size w1 w1.drew := (Below.refl _ _).drew
  refine bstartH (w1.heap) (by kernel_rfl) ?_
  refine btake 0 (oi := _) (v := ?_) (by simp only [List.getElem?_toArray, List.getElem?_cons_zero]; rfl) (by kernel_rfl) (by exact fun _ _ _ h => h) (by first | assumption | exact KB.refl _) (.inl ⟨by rfl, fun W hW => ?_⟩) ?_; rotate_left
  · (go_simp; first | done | with_reducible rfl)
  try simp only [Act.put, List.setIfInBounds_toArray, List.set_cons_zero, List.set_cons_succ]
  refine btake 1 (oi := _) (v := ?_) (by simp only [List.getElem?_toArray, List.getElem?_cons_succ, List.getElem?_cons_zero]; rfl) (by kernel_rfl) (by exact fun _ _ _ h => h) (by first | assumption | exact KB.refl _) (.inl ⟨by rfl, fun W hW => ?_⟩) ?_; rotate_left
  · (go_simp; first | done | with_reducible rfl)
  try simp only [Act.put, List.setIfInBounds_toArray, List.set_cons_zero, List.set_cons_succ]
  refine btake 2 (oi := _) (v := ?_) (by simp only [List.getElem?_toArray, List.getElem?_cons_succ, List.getElem?_cons_zero]; rfl) (by kernel_rfl) (by exact fun _ _ _ h => h) (by first | assumption | exact KB.refl _) (.inl ⟨by rfl, fun W hW => ?_⟩) ?_; rotate_left
  · (go_simp; first | done | with_reducible rfl)
  try simp only [Act.put, List.setIfInBounds_toArray, List.set_cons_zero, List.set_cons_succ]
  refine btake 4 (oi := _) (v := ?_) (by simp only [List.getElem?_toArray, List.getElem?_cons_succ, List.getElem?_cons_zero]; rfl) (by kernel_rfl) (by exact fun _ _ _ h => h) (by first | assumption | exact KB.refl _) (.inl ⟨by rfl, fun W hW => ?_⟩) ?_; rotate_left
  · (go_simp; first | done | with_reducible rfl)
  try simp only [Act.put, List.setIfInBounds_toArray, List.set_cons_zero, List.set_cons_succ]
  refine btake 5 (oi := _) (v := ?_) (by simp only [List.getElem?_toArray, List.getElem?_cons_succ, List.getElem?_cons_zero]; rfl) (by kernel_rfl) (by exact fun _ _ _ h => h) (by first | assumption | exact KB.refl _) (.inl ⟨by rfl, fun W hW => ?_⟩) ?_; rotate_left
  · (go_simp; first | done | with_reducible rfl)
  try simp only [Act.put, List.setIfInBounds_toArray, List.set_cons_zero, List.set_cons_succ]
  refine btake 6 (oi := _) (v := ?_) (by simp only [List.getElem?_toArray, List.getElem?_cons_succ, List.getElem?_cons_zero]; rfl) (by kernel_rfl) (by exact fun _ _ _ h => h) (by first | assumption | exact KB.refl _) (.inl ⟨by rfl, fun W hW => ?_⟩) ?_; rotate_left
  · (go_simp; first | done | with_reducible rfl)
  try simp only [Act.put, List.setIfInBounds_toArray, List.set_cons_zero, List.set_cons_succ]
  refine btake 9 (oi := _) (v := ?_) (by simp only [List.getElem?_toArray, List.getElem?_cons_succ, List.getElem?_cons_zero]; rfl) (by kernel_rfl) (by exact fun _ _ _ h => h) (by first | assumption | exact KB.refl _) (.inl ⟨by rfl, fun W hW => ?_⟩) ?_; rotate_left
  · (go_simp; first | done | with_reducible rfl)
  try simp only [Act.put, List.setIfInBounds_toArray, List.set_cons_zero, List.set_cons_succ]
  refine btake 10 (oi := _) (v := ?_) (by simp only [List.getElem?_toArray, List.getElem?_cons_succ, List.getElem?_cons_zero]; rfl) (by kernel_rfl) (by exact fun _ _ _ h => h) (by first | assumption | exact KB.refl _) (.inl ⟨by rfl, fun W hW => ?_⟩) ?_; rotate_left
  · (go_simp; first | done | with_reducible rfl)
  try simp only [Act.put, List.setIfInBounds_toArray, List.set_cons_zero, List.set_cons_succ]
  refine btake 11 (oi := _) (v := ?_) (by simp only [List.getElem?_toArray, List.getElem?_cons_succ, List.getElem?_cons_zero]; rfl) (by kernel_rfl) (by exact fun _ _ _ h => h) (by first | assumption | exact KB.refl _) (.inl ⟨by rfl, fun W hW => ?_⟩) ?_; rotate_left
  · (go_simp; first | done | with_reducible rfl)
  try simp only [Act.put, List.setIfInBounds_toArray, List.set_cons_zero, List.set_cons_succ]
  refine bopH2 3 12 (oi := _) (oj := _) (by simp only [List.getElem?_toArray, List.getElem?_cons_succ, List.getElem?_cons_zero]; rfl) (by simp only [List.getElem?_toArray, List.getElem?_cons_succ, List.getElem?_cons_zero]; rfl) (by kernel_rfl) (by first | assumption | exact KB.refl _) (by rfl) (by rfl) (fun K hK => ?_) (fun K hK => ?_)
  · -- 3: Op.call { callee := Callee.value (Operand.func 36), args := #[Operand.tmp 8, Operand.const (Value.int IntKind.i64 6)], a
    go_simp
    refine (HF.out.1 _).mono ?_
    rintro e w3 ⟨A3, c3, rfl, hown3, hb3⟩
    try have hne := OwnB.apartO hown12 hown3
    have hown3 := hown3.lower hB.size
    try have hown12 := OwnB.below hown12 hb3
    have hB := hB.trans (hb3.mono hB.size)
    have hkb := KB.of hB
    refine hK.out _ _ hkb ?_; clear hK K
    try simp only [Act.put, List.setIfInBounds_toArray, List.set_cons_zero, List.set_cons_succ]
    refine bopH2 7 12 (oi := _) (oj := _) (by simp only [List.getElem?_toArray, List.getElem?_cons_succ, List.getElem?_cons_zero]; rfl) (by simp only [List.getElem?_toArray, List.getElem?_cons_succ, List.getElem?_cons_zero]; rfl) (by kernel_rfl) (by first | assumption | exact KB.refl _) (by rfl) (by rfl) (fun K hK => ?_) (fun K hK => ?_)
    · -- 7: Op.call { callee := Callee.value (Operand.func 36), args := #[Operand.tmp 12, Operand.const (Value.int IntKind.i64 2)], 
      go_simp
      refine (HF.out.2 _).mono ?_
      rintro e w4 ⟨A4, c4, rfl, hown4, hb4⟩
      have hs4 := (Fresh.sl hown4).1
      have hown3 := OwnB.below hown3 hb4
      try have hown12 := OwnB.below hown12 hb4
      have hB := hB.trans (hb4.mono hB.size)
      have hkb := KB.of hB
      refine hK.out _ _ hkb ?_; clear hK K
      try simp only [Act.put, List.setIfInBounds_toArray, List.set_cons_zero, List.set_cons_succ]
      refine bopH2 8 12 (oi := _) (oj := _) (by simp only [List.getElem?_toArray, List.getElem?_cons_succ, List.getElem?_cons_zero]; rfl) (by simp only [List.getElem?_toArray, List.getElem?_cons_succ, List.getElem?_cons_zero]; rfl) (by kernel_rfl) (by first | assumption | exact KB.refl _) (by rfl) (by rfl) (fun K hK => ?_) (fun K hK => ?_)
      · -- 8: Op.call { callee := Callee.builtin Builtin.append, args := #[Operand.tmp 9, Operand.tmp 13], argTypes := #[28, 28] }
        refine wp_app rfl hown3 hs4 rfl rfl rfl (by rw [HL.out.1, HL.out.2]; omega) hB.size ?_
        intro s5 w5 hown5 hg5 hat5
        have hB := own_below hB hB.size hown3 hg5
        try have hown12 := OwnB.keep hown12 hg5 hne
        have hkb := KB.of hB
        refine hK.out _ _ hkb ?_; clear hK K
        try simp only [Act.put, List.setIfInBounds_toArray, List.set_cons_zero, List.set_cons_succ]
        -- 12: Op.buildSlice 28 1 #[(0, Operand.tmp 17)]
        refine bopH 12 (o := _) (by simp only [List.getElem?_toArray, List.getElem?_cons_succ, List.getElem?_cons_zero]; rfl) (by kernel_rfl) (by first | assumption | exact KB.refl _) (by rfl) (fun K hK => ?_)
        go_simp
        try have hne := OwnB.apartN (n := 1) (m := 1) hown3
        have hown12 := OwnB.oneG _ R (by omega) hB.size
        try have hs4 := hs4.alloc (.cells #[.int .u8 (R : Int)] 5)
        try have hown3 := hown3.alloc (.cells #[.int .u8 (R : Int)] 5)
        try have hown5 := hown5.alloc (.cells #[.int .u8 (R : Int)] 5)
        have hB := hB.alloc hB.size (.cells #[.int .u8 (R : Int)] 5)
        have hkb := KB.of hB
        refine hK.out _ _ hkb ?_; clear hK K
        try simp only [Act.put, List.setIfInBounds_toArray, List.set_cons_zero, List.set_cons_succ]
        -- 13: Op.call { callee := Callee.builtin Builtin.append, args := #[Operand.tmp 14, Operand.tmp 18], argTypes := #[28, 28] }
        refine bopH 13 (o := _) (by simp only [List.getElem?_toArray, List.getElem?_cons_succ, List.getElem?_cons_zero]; rfl) (by kernel_rfl) (by first | assumption | exact KB.refl _) (by rfl) (fun K hK => ?_)
        refine wp_app rfl hown5 (OwnB.sl (l := [UInt8.ofNat R]) hown12).1 rfl rfl rfl (by simp [HL.out.1, HL.out.2]) hB.size ?_
        intro s6 w6 hown6 hg6 hat6
        have hB := own_below hB hB.size hown5 hg6
        have hkb := KB.of hB
        refine hK.out _ _ hkb ?_; clear hK K
        try simp only [Act.put, List.setIfInBounds_toArray, List.set_cons_zero, List.set_cons_succ]
        refine btake 14 (oi := _) (v := ?_) (by simp only [List.getElem?_toArray, List.getElem?_cons_succ, List.getElem?_cons_zero]; rfl) (by kernel_rfl) (by exact fun _ _ _ h => h) (by first | assumption | exact KB.refl _) (.inl ⟨by rfl, fun W hW => ?_⟩) ?_; rotate_left
        · (go_simp; first | done | with_reducible rfl)
        try simp only [Act.put, List.setIfInBounds_toArray, List.set_cons_zero, List.set_cons_succ]
        refine bdone (by kernel_rfl) ?_
        obtain ⟨A6, c6, rfl, _⟩ := hown6.form
        go_wp2_with fail
        go_ret
        exact ⟨A6, c6, rfl, hown6.lower hbw.size, bstep hbw hB⟩
      · -- 12: Op.buildSlice 28 1 #[(0, Operand.tmp 17)]
        go_simp
        try have hne := OwnB.apartN (n := 1) (m := 1) hown3
        have hown12 := OwnB.oneG _ R (by omega) hB.size
        try have hs4 := hs4.alloc (.cells #[.int .u8 (R : Int)] 5)
        try have hown3 := hown3.alloc (.cells #[.int .u8 (R : Int)] 5)
        try have hown5 := hown5.alloc (.cells #[.int .u8 (R : Int)] 5)
        have hB := hB.alloc hB.size (.cells #[.int .u8 (R : Int)] 5)
        have hkb := KB.of hB
        refine hK.out _ _ hkb ?_; clear hK K
        try simp only [Act.put, List.setIfInBounds_toArray, List.set_cons_zero, List.set_cons_succ]
        -- 8: Op.call { callee := Callee.builtin Builtin.append, args := #[Operand.tmp 9, Operand.tmp 13], argTypes := #[28, 28] }
        refine bopH 8 (o := _) (by simp only [List.getElem?_toArray, List.getElem?_cons_succ, List.getElem?_cons_zero]; rfl) (by kernel_rfl) (by first | assumption | exact KB.refl _) (by rfl) (fun K hK => ?_)
        refine wp_app rfl hown3 hs4 rfl rfl rfl (by rw [HL.out.1, HL.out.2]; omega) hB.size ?_
        intro s5 w5 hown5 hg5 hat5
        have hB := own_below hB hB.size hown3 hg5
        try have hown12 := OwnB.keep hown12 hg5 hne
        have hkb := KB.of hB
        refine hK.out _ _ hkb ?_; clear hK K
        try simp only [Act.put, List.setIfInBounds_toArray, List.set_cons_zero, List.set_cons_succ]
        -- 13: Op.call { callee := Callee.builtin Builtin.append, args := #[Operand.tmp 14, Operand.tmp 18], argTypes := #[28, 28] }
        refine bopH 13 (o := _) (by simp only [List.getElem?_toArray, List.getElem?_cons_succ, List.getElem?_cons_zero]; rfl) (by kernel_rfl) (by first | assumption | exact KB.refl _) (by rfl) (fun K hK => ?_)
        refine wp_app rfl hown5 (OwnB.sl (l := [UInt8.ofNat R]) hown12).1 rfl rfl rfl (by simp [HL.out.1, HL.out.2]) hB.size ?_
        intro s6 w6 hown6 hg6 hat6
        have hB := own_below hB hB.size hown5 hg6
        have hkb := KB.of hB
        refine hK.out _ _ hkb ?_; clear hK K
        try simp only [Act.put, List.setIfInBounds_toArray, List.set_cons_zero, List.set_cons_succ]
        refine btake 14 (oi := _) (v := ?_) (by simp only [List.getElem?_toArray, List.getElem?_cons_succ, List.getElem?_cons_zero]; rfl) (by kernel_rfl) (by exact fun _ _ _ h => h) (by first | assumption | exact KB.refl _) (.inl ⟨by rfl, fun W hW => ?_⟩) ?_; rotate_left
        · (go_simp; first | done | with_reducible rfl)
        try simp only [Act.put, List.setIfInBounds_toArray, List.set_cons_zero, List.set_cons_succ]
        refine bdone (by kernel_rfl) ?_
        obtain ⟨A6, c6, rfl, _⟩ := hown6.form
        go_wp2_with fail
        go_ret
        exact ⟨A6, c6, rfl, hown6.lower hbw.size, bstep hbw hB⟩
    · -- 12: Op.buildSlice 28 1 #[(0, Operand.tmp 17)]
      go_simp
      try have hne := OwnB.apartN (n := 1) (m := 1) hown3
      have hown12 := OwnB.oneG _ R (by omega) hB.size
      try have hs4 := hs4.alloc (.cells #[.int .u8 (R : Int)] 5)
      try have hown3 := hown3.alloc (.cells #[.int .u8 (R : Int)] 5)
      try have hown5 := hown5.alloc (.cells #[.int .u8 (R : Int)] 5)
      have hB := hB.alloc hB.size (.cells #[.int .u8 (R : Int)] 5)
      have hkb := KB.of hB
      refine hK.out _ _ hkb ?_; clear hK K
      try simp only [Act.put, List.setIfInBounds_toArray, List.set_cons_zero, List.set_cons_succ]
      -- 7: Op.call { callee := Callee.value (Operand.func 36), args := #[Operand.tmp 12, Operand.const (Value.int IntKind.i64 2)], 
      refine bopH 7 (o := _) (by simp only [List.getElem?_toArray, List.getElem?_cons_succ, List.getElem?_cons_zero]; rfl) (by kernel_rfl) (by first | assumption | exact KB.refl _) (by rfl) (fun K hK => ?_)
      go_simp
      refine (HF.out.2 _).mono ?_
      rintro e w4 ⟨A4, c4, rfl, hown4, hb4⟩
      have hs4 := (Fresh.sl hown4).1
      have hown3 := OwnB.below hown3 hb4
      try have hown12 := OwnB.below hown12 hb4
      have hB := hB.trans (hb4.mono hB.size)
      have hkb := KB.of hB
      refine hK.out _ _ hkb ?_; clear hK K
      try simp only [Act.put, List.setIfInBounds_toArray, List.set_cons_zero, List.set_cons_succ]
      -- 8: Op.call { callee := Callee.builtin Builtin.append, args := #[Operand.tmp 9, Operand.tmp 13], argTypes := #[28, 28] }
      refine bopH 8 (o := _) (by simp only [List.getElem?_toArray, List.getElem?_cons_succ, List.getElem?_cons_zero]; rfl) (by kernel_rfl) (by first | assumption | exact KB.refl _) (by rfl) (fun K hK => ?_)
      refine wp_app rfl hown3 hs4 rfl rfl rfl (by rw [HL.out.1, HL.out.2]; omega) hB.size ?_
      intro s5 w5 hown5 hg5 hat5
      have hB := own_below hB hB.size hown3 hg5
      try have hown12 := OwnB.keep hown12 hg5 hne
      have hkb := KB.of hB
      refine hK.out _ _ hkb ?_; clear hK K
      try simp only [Act.put, List.setIfInBounds_toArray, List.set_cons_zero, List.set_cons_succ]
      -- 13: Op.call { callee := Callee.builtin Builtin.append, args := #[Operand.tmp 14, Operand.tmp 18], argTypes := #[28, 28] }
      refine bopH 13 (o := _) (by simp only [List.getElem?_toArray, List.getElem?_cons_succ, List.getElem?_cons_zero]; rfl) (by kernel_rfl) (by first | assumption | exact KB.refl _) (by rfl) (fun K hK => ?_)
      refine wp_app rfl hown5 (OwnB.sl (l := [UInt8.ofNat R]) hown12).1 rfl rfl rfl (by simp [HL.out.1, HL.out.2]) hB.size ?_
      intro s6 w6 hown6 hg6 hat6
      have hB := own_below hB hB.size hown5 hg6
      have hkb := KB.of hB
      refine hK.out _ _ hkb ?_; clear hK K
      try simp only [Act.put, List.setIfInBounds_toArray, List.set_cons_zero, List.set_cons_succ]
      refine btake 14 (oi := _) (v := ?_) (by simp only [List.getElem?_toArray, List.getElem?_cons_succ, List.getElem?_cons_zero]; rfl) (by kernel_rfl) (by exact fun _ _ _ h => h) (by first | assumption | exact KB.refl _) (.inl ⟨by rfl, fun W hW => ?_⟩) ?_; rotate_left
      · (go_simp; first | done | with_reducible rfl)
      try simp only [Act.put, List.setIfInBounds_toArray, List.set_cons_zero, List.set_cons_succ]
      refine bdone (by kernel_rfl) ?_
      obtain ⟨A6, c6, rfl, _⟩ := hown6.form
      go_wp2_with fail
      go_ret
      exact ⟨A6, c6, rfl, hown6.lower hbw.size, bstep hbw hB⟩
  · -- 12: Op.buildSlice 28 1 #[(0, Operand.tmp 17)]
    go_simp
    try have hne := OwnB.apartN (n := 1) (m := 1) hown3
    have hown12 := OwnB.oneG _ R (by omega) hB.size
    try have hs4 := hs4.alloc (.cells #[.int .u8 (R : Int)] 5)
    try have hown3 := hown3.alloc (.cells #[.int .u8 (R : Int)] 5)
    try have hown5 := hown5.alloc (.cells #[.int .u8 (R : Int)] 5)
    have hB := hB.alloc hB.size (.cells #[.int .u8 (R : Int)] 5)
    have hkb := KB.of hB
    refine hK.out _ _ hkb ?_; clear hK K
    try simp only [Act.put, List.setIfInBounds_toArray, List.set_cons_zero, List.set_cons_succ]
    -- 3: Op.call { callee := Callee.value (Operand.func 36), args := #[Operand.tmp 8, Operand.const (Value.int IntKind.i64 6)], a
    refine bopH 3 (o := _) (by simp only [List.getElem?_toArray, List.getElem?_cons_succ, List.getElem?_cons_zero]; rfl) (by kernel_rfl) (by first | assumption | exact KB.refl _) (by rfl) (fun K hK => ?_)
    go_simp
    refine (HF.out.1 _).mono ?_
    rintro e w3 ⟨A3, c3, rfl, hown3, hb3⟩
    try have hne := OwnB.apartO hown12 hown3
    have hown3 := hown3.lower hB.size
    try have hown12 := OwnB.below hown12 hb3
    have hB := hB.trans (hb3.mono hB.size)
    have hkb := KB.of hB
    refine hK.out _ _ hkb ?_; clear hK K
    try simp only [Act.put, List.setIfInBounds_toArray, List.set_cons_zero, List.set_cons_succ]
    -- 7: Op.call { callee := Callee.value (Operand.func 36), args := #[Operand.tmp 12, Operand.const (Value.int IntKind.i64 2)], 
    refine bopH 7 (o := _) (by simp only [List.getElem?_toArray, List.getElem?_cons_succ, List.getElem?_cons_zero]; rfl) (by kernel_rfl) (by first | assumption | exact KB.refl _) (by rfl) (fun K hK => ?_)
    go_simp
    refine (HF.out.2 _).mono ?_
    rintro e w4 ⟨A4, c4, rfl, hown4, hb4⟩
    have hs4 := (Fresh.sl hown4).1
    have hown3 := OwnB.below hown3 hb4
    try have hown12 := OwnB.below hown12 hb4
    have hB := hB.trans (hb4.mono hB.size)
    have hkb := KB.of hB
    refine hK.out _ _ hkb ?_; clear hK K
    try simp only [Act.put, List.setIfInBounds_toArray, List.set_cons_zero, List.set_cons_succ]
    -- 8: Op.call { callee := Callee.builtin Builtin.append, args := #[Operand.tmp 9, Operand.tmp 13], argTypes := #[28, 28] }
    refine bopH 8 (o := _) (by simp only [List.getElem?_toArray, List.getElem?_cons_succ, List.getElem?_cons_zero]; rfl) (by kernel_rfl) (by first | assumption | exact KB.refl _) (by rfl) (fun K hK => ?_)
    refine wp_app rfl hown3 hs4 rfl rfl rfl (by rw [HL.out.1, HL.out.2]; omega) hB.size ?_
    intro s5 w5 hown5 hg5 hat5
    have hB := own_below hB hB.size hown3 hg5
    try have hown12 := OwnB.keep hown12 hg5 hne
    have hkb := KB.of hB
    refine hK.out _ _ hkb ?_; clear hK K
    try simp only [Act.put, List.setIfInBounds_toArray, List.set_cons_zero, List.set_cons_succ]
    -- 13: Op.call { callee := Callee.builtin Builtin.append, args := #[Operand.tmp 14, Operand.tmp 18], argTypes := #[28, 28] }
    refine bopH 13 (o := _) (by simp only [List.getElem?_toArray, List.getElem?_cons_succ, List.getElem?_cons_zero]; rfl) (by kernel_rfl) (by first | assumption | exact KB.refl _) (by rfl) (fun K hK => ?_)
    refine wp_app rfl hown5 (OwnB.sl (l := [UInt8.ofNat R]) hown12).1 rfl rfl rfl (by simp [HL.out.1, HL.out.2]) hB.size ?_
    intro s6 w6 hown6 hg6 hat6
    have hB := own_below hB hB.size hown5 hg6
    have hkb := KB.of hB
    refine hK.out _ _ hkb ?_; clear hK K
    try simp only [Act.put, List.setIfInBounds_toArray, List.set_cons_zero, List.set_cons_succ]
    refine btake 14 (oi := _) (v := ?_) (by simp only [List.getElem?_toArray, List.getElem?_cons_succ, List.getElem?_cons_zero]; rfl) (by kernel_rfl) (by exact fun _ _ _ h => h) (by first | assumption | exact KB.refl _) (.inl ⟨by rfl, fun W hW => ?_⟩) ?_; rotate_left
    · (go_simp; first | done | with_reducible rfl)
    try simp only [Act.put, List.setIfInBounds_toArray, List.set_cons_zero, List.set_cons_succ]
    refine bdone (by kernel_rfl) ?_
    obtain ⟨A6, c6, rfl, _⟩ := hown6.form
    go_wp2_with fail
    go_ret
    exact ⟨A6, c6, rfl, hown6.lower hbw.size, bstep hbw hB⟩
end Go.Proofs.Ythpooogjlmaemaa

