/- Digests: the document's block, walked. -/
import Derived.Test.YtjbelkpmbbkhgaaDoorShTn
namespace Go.Proofs.YtjbelkpmbbkhgaaDoor
open Go.RowKit Go.Proofs.YtjbelkpmbbkhgaaDoor.Sh Go.Proofs.YtjbelkpmbbkhgaaDoor.Pl

set_option maxRecDepth 100000 in
set_option maxHeartbeats 12800000 in
theorem block_any (w : World) (hG : GK w) (A : Option Addr) (c : Nat) (h : List Nat) (hh : Ok8 h) (b : List UInt8) (hb : Sl w w.heap.size A (bv b)) (h0 : b.length = 64) (hc : 64 ≤ c) (hcm : c ≤ maxLen) :
    Calls Tryd.prog 16 #[.agg (u32s h).toArray, .slice A 64 c] w fun e w' => e = .returned (.agg (u32s (mixS h b)).toArray) ∧ Below w.heap.size w w' := by
  have HX := Lib.hid (And.intro hh (And.intro h0 hG))
  have h8 : (u32s h).length = 8 := by rw [u32s_len, hh.1]
  have H8 := Lib.hid (And.intro h8 (u32s_one h))
  clear hh h0 hG h8
  have hH0 := At.new w 42 (u32s h).toArray
  have hb1 := balloc (Below.refl w.heap.size w) (.cells (u32s h).toArray 42)
  replace hH0 : At (w.alloc (.cells (u32s h).toArray 42)) w.heap.size (u32s h) := hH0
  have hs1 : (w.alloc (.cells (u32s h).toArray 42)).heap.size = w.heap.size + 1 := by simp
  generalize hw1 : w.alloc (.cells (u32s h).toArray 42) = w1 at *
  have hR0 := At.new w1 42 (u32s z8).toArray
  have hH1 := hH0.alloc (.cells (u32s z8).toArray 42)
  have hb2 := balloc hb1 (.cells (u32s z8).toArray 42)
  replace hR0 : At (w1.alloc (.cells (u32s z8).toArray 42)) w1.heap.size (u32s z8) := hR0
  have hs2 : (w1.alloc (.cells (u32s z8).toArray 42)).heap.size = w1.heap.size + 1 := by simp
  generalize hw2 : w1.alloc (.cells (u32s z8).toArray 42) = w2 at *
  have hW0 := At.new w2 50 (u32s z64).toArray
  have hH := hH1.alloc (.cells (u32s z64).toArray 50)
  have hR := hR0.alloc (.cells (u32s z64).toArray 50)
  have hbel := balloc hb2 (.cells (u32s z64).toArray 50)
  replace hW0 : At (w2.alloc (.cells (u32s z64).toArray 50)) w2.heap.size (u32s (pad64 (spr b 0))) := hW0
  clear hH0 hH1 hR0 hb1 hb2
  go_enter Tryd.func16, Tryd.ntmps16
  go_wp2_with (first
    | (refine opVal rfl (ex_box8 rfl rfl) ?_; rw [hw1])
    | (refine opVal rfl (ex_al8 rfl) ?_; rw [hw2])
    | (refine opVal rfl (ex_al64 rfl) ?_))
  rw [hs2, hs1] at hW0
  rw [hs1] at hR
  generalize w2.alloc (.cells (u32s z64).toArray 50) = w3 at *
  have hwgr : w.heap.size ≤ w.heap.size + 1 := by omega
  have hwgw : w.heap.size ≤ w.heap.size + 1 + 1 := by omega
  have nhr : w.heap.size ≠ w.heap.size + 1 := by omega
  have nwh : w.heap.size + 1 + 1 ≠ w.heap.size := by omega
  have nwr : w.heap.size + 1 + 1 ≠ w.heap.size + 1 := by omega
  have hwgh : w.heap.size ≤ w.heap.size := Nat.le_refl _
  generalize hgw : w.heap.size + 1 + 1 = gw at *
  generalize hgr : w.heap.size + 1 = gr at *
  generalize hgh : w.heap.size = gh at hH nhr nwh hwgh ⊢
  replace hwgh : w.heap.size ≤ gh := by omega
  replace hwgr : w.heap.size ≤ gr := by omega
  replace hwgw : w.heap.size ≤ gw := by omega
  replace hbel : Below w.heap.size w w3 := hbel
  clear hw1 hw2 hs1 hs2 hgw hgr hgh
  go_loopw [6] (fun x6 wr => ∃ k : Nat, k ≤ 16 ∧ x6 = .int .i64 (k : Int) ∧ At wr gw (u32s (pad64 (spr b k))) ∧ At wr gr (u32s z8) ∧ At wr gh (u32s h) ∧ Below w.heap.size w wr) (fun x6 _ => 16 - (intOf x6).toNat)
  case atStart => exact ⟨0, by omega, rfl, hW0, hR, hH, hbel⟩
  case round =>
    clear hW0 hR hH hbel
    obtain ⟨k, hk, rfl, hW, hR, hH, hbel⟩ := hrel
    by_cases hlt : k < 16
    · have hd1 : decide ((k : Int) < 16) = true := by rw [decide_eq_true_eq]; omega
      have hword := word_big b k (by rw [HX.out.2.1]; omega)
      have hstep : spr b (k + 1) = spr b k ++ [word b k] := by rw [spr, if_pos hlt]
      have hwl := word_lt b k
      generalize word b k = X at *
      obtain ⟨lo, hlo⟩ : ∃ lo, lo = 4 * k := ⟨_, rfl⟩
      obtain ⟨hi, hhi⟩ : ∃ hi, hi = 4 * k + 4 := ⟨_, rfl⟩
      have i0 : IntKind.i64.wrap (4 * (k : Int)) = (lo : Int) := by rw [IntKind.wrap_i64]; omega
      have i1 : IntKind.i64.wrap ((lo : Int) + 4) = (hi : Int) := by rw [IntKind.wrap_i64]; omega
      have i2 : IntKind.u32.wrap (X : Int) = (X : Int) := by rw [IntKind.wrap_u32]; omega
      have hr := (hb.below hbel).more hbel.size
      have hcut := (hr.cut lo c (by rw [bv_len, HX.out.2.1]; exact hc))
      have hclo : ¬ c = lo := by omega
      have h4 : hi - lo = 4 := by omega
      rw [if_neg hclo, bv_drop] at hcut
      have hcut4 := hcut.tk 4
      rw [bv_take] at hcut4
      rw [← hlo] at hword
      have hl4 : ((b.drop lo).take 4).length = 4 := by rw [List.length_take, List.length_drop, HX.out.2.1]; omega
      have HST := Lib.hid (And.intro hstep (And.intro hword (And.intro hlo hl4)))
      have l0 : (lo : Int) ≤ (hi : Int) := by omega
      have l1 : (hi : Int) ≤ (c : Int) := by omega
      have l2 : (hi : Int) ≤ 64 := by omega
      have l3 : (0 : Int) ≤ (lo : Int) := by omega
      have hz9 := pad_zero (spr b k) k (by rw [spr_len]; exact Nat.le_refl _) (by omega)
      have hcW := hW.c k hz9
      have hfW := hW.f k hz9
      have hW2 : At (wr.setCell ⟨gw, k, none⟩ (.int .u32 (X : Int))) gw (u32s (pad64 (spr b (k + 1)))) := by
        have h := hW.set k (.int .u32 (X : Int)) (by rw [u32s_len, pad_len _ (by rw [spr_len]; omega)]; omega)
        have e := pad_set (spr b k) X (by rw [spr_len]; omega)
        rw [spr_len] at e
        rw [e, ← hstep] at h
        exact h
      have hR2 := hR.set_other k (.int .u32 (X : Int)) nwr
      have hH2 := hH.set_other k (.int .u32 (X : Int)) nwh
      have hbel2 := hbel.setCell (p := ⟨gw, k, none⟩) hwgw (.int .u32 (X : Int))
      have hk0 : (0 : Int) ≤ (k : Int) := by omega
      have hk1 : (k : Int) < 64 := by omega
      clear hstep hword hlo hhi hb hr hz9 hW hR hH hcut hl4
      go_wp2_with fail
      refine (RefBig_lit wr _ _ 4 (c - lo) _ X hcut4 HST.out.2.2.2.symm (by omega) (by omega) HST.out.2.1).mono ?_
      rintro e w5 ⟨rfl, rfl⟩
      clear hcut4
      go_wp2_with fail
      go_roundw
      case rel => exact ⟨k + 1, by omega, by go_num, hW2, hR2, hH2, hbel2⟩
      case measure => simp [intOf] <;> omega
    · obtain rfl : k = 16 := by omega
      rw [show (((16 : Nat)) : Int) = (16 : Int) from rfl]
      go_wp2_with fail
      go_loopw [7] (fun x7 wr => ∃ k : Nat, 16 ≤ k ∧ k ≤ 64 ∧ x7 = .int .i64 (k : Int) ∧ At wr gw (u32s (pad64 (spr b k))) ∧ At wr gr (u32s z8) ∧ At wr gh (u32s h) ∧ Below w.heap.size w wr) (fun x7 _ => 64 - (intOf x7).toNat)
      case atStart => exact ⟨16, by omega, by omega, rfl, hW, hR, hH, hbel⟩
      case round =>
        clear hW hR hH hbel hb hlt
        obtain ⟨k, hk0, hk, rfl, hW, hR, hH, hbel⟩ := hrel
        by_cases hlt : k < 64
        · have hd1 : decide ((k : Int) < 64) = true := by rw [decide_eq_true_eq]; omega
          have hWp := at_pad hW
          have hsl := spr_len b k
          have y15 := hWp.c (k - 15) (u32s_get _ (k - 15) (by omega))
          have y2 := hWp.c (k - 2) (u32s_get _ (k - 2) (by omega))
          have g16 := AtS.e (g := gw) (vs := u32s (spr b k)) (k - 16) (u32s_get _ (k - 16) (by omega))
          have g7 := AtS.e (g := gw) (vs := u32s (spr b k)) (k - 7) (u32s_get _ (k - 7) (by omega))
          have hlt15 := at'_lt (spr_lt b k) (k - 15)
          have hlt2 := at'_lt (spr_lt b k) (k - 2)
          have hlt16 := at'_lt (spr_lt b k) (k - 16)
          have hlt7 := at'_lt (spr_lt b k) (k - 7)
          have hstep : spr b (k + 1) = spr b k ++ [next (spr b k) k] := by rw [spr, if_neg (by omega)]
          unfold next at hstep
          generalize at' (spr b k) (k - 15) = x15 at *
          generalize at' (spr b k) (k - 2) = x2 at *
          generalize at' (spr b k) (k - 16) = x16 at *
          generalize at' (spr b k) (k - 7) = x7 at *
          obtain ⟨P1, P, hP1, hP2, hP3⟩ := sp_ops hlt15
          obtain ⟨Q1, Q, hQ1, hQ2, hQ3⟩ := sq_ops hlt2
          rw [← hP3, ← hQ3] at hstep
          obtain ⟨S1, S2, S3, hS1, hS2, hS3, hS4⟩ := add_ops x16 P x7 Q
          rw [← hS4] at hstep
          have HST := Lib.hid hstep
          have e15 := cellB y15
          have e2 := cellB y2
          clear hstep hP3 hQ3 hS4 y15 y2
          obtain ⟨j15, hj15⟩ : ∃ j, k - 15 = j := ⟨_, rfl⟩
          obtain ⟨j2, hj2⟩ : ∃ j, k - 2 = j := ⟨_, rfl⟩
          obtain ⟨j16, hj16⟩ : ∃ j, k - 16 = j := ⟨_, rfl⟩
          obtain ⟨j7, hj7⟩ : ∃ j, k - 7 = j := ⟨_, rfl⟩
          rw [hj15] at e15
          rw [hj2] at e2
          rw [hj16] at g16
          rw [hj7] at g7
          have i0 : IntKind.i64.wrap ((k : Int) - 15) = (j15 : Int) := by rw [IntKind.wrap_i64]; omega
          have i1 : IntKind.i64.wrap ((k : Int) - 2) = (j2 : Int) := by rw [IntKind.wrap_i64]; omega
          have i2 : IntKind.i64.wrap ((k : Int) - 16) = (j16 : Int) := by rw [IntKind.wrap_i64]; omega
          have i3 : IntKind.i64.wrap ((k : Int) - 7) = (j7 : Int) := by rw [IntKind.wrap_i64]; omega
          have i4 : IntKind.i64.wrap (j15 : Int) = (j15 : Int) := by rw [IntKind.wrap_i64]; omega
          have i5 : IntKind.i64.wrap (j2 : Int) = (j2 : Int) := by rw [IntKind.wrap_i64]; omega
          have i6 : IntKind.i64.wrap (j16 : Int) = (j16 : Int) := by rw [IntKind.wrap_i64]; omega
          have i7 : IntKind.i64.wrap (j7 : Int) = (j7 : Int) := by rw [IntKind.wrap_i64]; omega
          have i8 : IntKind.i64.wrap (k : Int) = (k : Int) := by rw [IntKind.wrap_i64]; omega
          have b0' : (0 : Int) ≤ (j15 : Int) := by omega
          have b1' : (j15 : Int) < 64 := by omega
          have b2' : (0 : Int) ≤ (j2 : Int) := by omega
          have b3' : (j2 : Int) < 64 := by omega
          have b4' : (0 : Int) ≤ (j16 : Int) := by omega
          have b5' : (j16 : Int) < 64 := by omega
          have b6' : (0 : Int) ≤ (j7 : Int) := by omega
          have b7' : (j7 : Int) < 64 := by omega
          have b8' : (0 : Int) ≤ (k : Int) := by omega
          have b9' : (k : Int) < 64 := by omega
          clear hj15 hj2 hj16 hj7 hsl
          go_wp2_with fail
          refine bstart (by kernel_rfl) ?_
          refine btake 0 (oi := _) (v := ?_) (by simp only [List.getElem?_toArray, List.getElem?_cons_zero]; rfl) (by kernel_rfl) (by exact fun _ _ _ h => h) (by first | assumption | exact KB.refl _) (.inl ⟨by rfl, fun W hW => ?_⟩) ?_; rotate_left
          · (go_simp; first | done | with_reducible rfl)
          try simp only [Act.put, List.setIfInBounds_toArray, List.set_cons_zero, List.set_cons_succ]
          refine btake 1 (oi := _) (v := ?_) (by simp only [List.getElem?_toArray, List.getElem?_cons_succ, List.getElem?_cons_zero]; rfl) (by kernel_rfl) (by exact fun _ _ _ h => h) (by first | assumption | exact KB.refl _) (.inl ⟨by rfl, fun W hW => ?_⟩) ?_; rotate_left
          · (go_simp; first | done | with_reducible rfl)
          try simp only [Act.put, List.setIfInBounds_toArray, List.set_cons_zero, List.set_cons_succ]
          refine btake 2 (oi := _) (v := ?_) (by simp only [List.getElem?_toArray, List.getElem?_cons_succ, List.getElem?_cons_zero]; rfl) (by kernel_rfl) (by exact fun _ _ _ h => h) (by first | assumption | exact KB.refl _) (.inl ⟨by rfl, fun W hW => ?_⟩) ?_; rotate_left
          · (go_simp; first | done | with_reducible rfl)
          try simp only [Act.put, List.setIfInBounds_toArray, List.set_cons_zero, List.set_cons_succ]
          refine btake 3 (oi := _) (v := ?_) (by simp only [List.getElem?_toArray, List.getElem?_cons_succ, List.getElem?_cons_zero]; rfl) (by kernel_rfl) (by exact fun _ _ _ h => h) (by first | assumption | exact KB.refl _) (.inl ⟨by rfl, fun W hW => ?_⟩) ?_; rotate_left
          · (go_simp; first | done | with_reducible rfl)
          try simp only [Act.put, List.setIfInBounds_toArray, List.set_cons_zero, List.set_cons_succ]
          refine btake 4 (oi := _) (v := ?_) (by simp only [List.getElem?_toArray, List.getElem?_cons_succ, List.getElem?_cons_zero]; rfl) (by kernel_rfl) (by exact fun _ _ _ h => h) (by first | assumption | exact KB.refl _) (.inl ⟨by rfl, fun W hW => ?_⟩) ?_; rotate_left
          · (go_simp; first | done | with_reducible rfl)
          try simp only [Act.put, List.setIfInBounds_toArray, List.set_cons_zero, List.set_cons_succ]
          refine btake 5 (oi := _) (v := ?_) (by simp only [List.getElem?_toArray, List.getElem?_cons_succ, List.getElem?_cons_zero]; rfl) (by kernel_rfl) (by exact fun _ _ _ h => h) (by first | assumption | exact KB.refl _) (.inl ⟨by rfl, fun W hW => ?_⟩) ?_; rotate_left
          · (go_simp; first | done | with_reducible rfl)
          try simp only [Act.put, List.setIfInBounds_toArray, List.set_cons_zero, List.set_cons_succ]
          refine btake 6 (oi := _) (v := ?_) (by simp only [List.getElem?_toArray, List.getElem?_cons_succ, List.getElem?_cons_zero]; rfl) (by kernel_rfl) (by exact fun _ _ _ h => h) (by first | assumption | exact KB.refl _) (.inl ⟨by rfl, fun W hW => ?_⟩) ?_; rotate_left
          · (go_simp; first | done | with_reducible rfl)
          try simp only [Act.put, List.setIfInBounds_toArray, List.set_cons_zero, List.set_cons_succ]
          refine btake 7 (oi := _) (v := ?_) (by simp only [List.getElem?_toArray, List.getElem?_cons_succ, List.getElem?_cons_zero]; rfl) (by kernel_rfl) (by exact fun _ _ _ h => h) (by first | assumption | exact KB.refl _) (.inl ⟨by rfl, fun W hW => ?_⟩) ?_; rotate_left
          · (go_simp; first | done | with_reducible rfl)
          try simp only [Act.put, List.setIfInBounds_toArray, List.set_cons_zero, List.set_cons_succ]
          refine btake 8 (oi := _) (v := ?_) (by simp only [List.getElem?_toArray, List.getElem?_cons_succ, List.getElem?_cons_zero]; rfl) (by kernel_rfl) (by exact fun _ _ _ h => h) (by first | assumption | exact KB.refl _) (.inl ⟨by rfl, fun W hW => ?_⟩) ?_; rotate_left
          · (go_simp; first | done | with_reducible rfl)
          try simp only [Act.put, List.setIfInBounds_toArray, List.set_cons_zero, List.set_cons_succ]
          refine btake 9 (oi := _) (v := ?_) (by simp only [List.getElem?_toArray, List.getElem?_cons_succ, List.getElem?_cons_zero]; rfl) (by kernel_rfl) (by exact fun _ _ _ h => h) (by first | assumption | exact KB.refl _) (.inl ⟨by rfl, fun W hW => ?_⟩) ?_; rotate_left
          · (go_simp; first | done | with_reducible rfl)
          try simp only [Act.put, List.setIfInBounds_toArray, List.set_cons_zero, List.set_cons_succ]
          refine bdone (by kernel_rfl) ?_
          replace hW := hW.drew
          replace hWp := hWp.drew
          replace hR := hR.drew
          replace hH := hH.drew
          replace hbel := hbel.drew
          generalize wr.drew = wq at hW hWp hR hH hbel ⊢
          clear e15 e2 i0 i1 i4 i5 b0' b1' b2' b3'
          go_wp2_with fail
          have hz9 := pad_zero (spr b k) k (by rw [spr_len]; exact Nat.le_refl _) hlt
          have hkb : AtS gw (u32s (spr b k)) wq.drew := hWp.drew
          refine bstartS (AtS gw (u32s (spr b k))) (by kernel_rfl) ?_
          refine btakeS 0 (oi := _) (v := ?_) (by simp only [List.getElem?_toArray, List.getElem?_cons_zero]; rfl) (by kernel_rfl) (by exact fun _ _ _ h => h) (by first | assumption | exact KB.refl _) (.inl ⟨by rfl, fun W hW => ?_⟩) ?_; rotate_left
          · (go_simp; first | done | with_reducible rfl)
          try simp only [Act.put, List.setIfInBounds_toArray, List.set_cons_zero, List.set_cons_succ]
          refine btakeS 1 (oi := _) (v := ?_) (by simp only [List.getElem?_toArray, List.getElem?_cons_succ, List.getElem?_cons_zero]; rfl) (by kernel_rfl) (by exact fun _ _ _ h => h) (by first | assumption | exact KB.refl _) (.inl ⟨by rfl, fun W hW => ?_⟩) ?_; rotate_left
          · (go_simp; first | done | with_reducible rfl)
          try simp only [Act.put, List.setIfInBounds_toArray, List.set_cons_zero, List.set_cons_succ]
          refine btakeS 2 (oi := _) (v := ?_) (by simp only [List.getElem?_toArray, List.getElem?_cons_succ, List.getElem?_cons_zero]; rfl) (by kernel_rfl) (by exact fun _ _ _ h => h) (by first | assumption | exact KB.refl _) (.inl ⟨by rfl, fun W hW => ?_⟩) ?_; rotate_left
          · (go_simp; first | done | with_reducible rfl)
          try simp only [Act.put, List.setIfInBounds_toArray, List.set_cons_zero, List.set_cons_succ]
          refine btakeS 3 (oi := _) (v := ?_) (by simp only [List.getElem?_toArray, List.getElem?_cons_succ, List.getElem?_cons_zero]; rfl) (by kernel_rfl) (by exact fun _ _ _ h => h) (by first | assumption | exact KB.refl _) (.inl ⟨by rfl, fun W hW => ?_⟩) ?_; rotate_left
          · (go_simp; first | done | with_reducible rfl)
          try simp only [Act.put, List.setIfInBounds_toArray, List.set_cons_zero, List.set_cons_succ]
          refine btakeS 4 (oi := _) (v := ?_) (by simp only [List.getElem?_toArray, List.getElem?_cons_succ, List.getElem?_cons_zero]; rfl) (by kernel_rfl) (by exact fun _ _ _ h => h) (by first | assumption | exact KB.refl _) (.inl ⟨by rfl, fun W hW => ?_⟩) ?_; rotate_left
          · (go_simp; first | done | with_reducible rfl)
          try simp only [Act.put, List.setIfInBounds_toArray, List.set_cons_zero, List.set_cons_succ]
          refine btakeS 5 (oi := _) (v := ?_) (by simp only [List.getElem?_toArray, List.getElem?_cons_succ, List.getElem?_cons_zero]; rfl) (by kernel_rfl) (by exact fun _ _ _ h => h) (by first | assumption | exact KB.refl _) (.inl ⟨by rfl, fun W hW => ?_⟩) ?_; rotate_left
          · (go_simp; first | done | with_reducible rfl)
          try simp only [Act.put, List.setIfInBounds_toArray, List.set_cons_zero, List.set_cons_succ]
          refine btakeS 7 (oi := _) (v := ?_) (by simp only [List.getElem?_toArray, List.getElem?_cons_succ, List.getElem?_cons_zero]; rfl) (by kernel_rfl) (by exact fun _ _ _ h => h) (by first | assumption | exact KB.refl _) (.inl ⟨by rfl, fun W hW => ?_⟩) ?_; rotate_left
          · (go_simp; first | done | with_reducible rfl)
          try simp only [Act.put, List.setIfInBounds_toArray, List.set_cons_zero, List.set_cons_succ]
          refine btakeS 10 (oi := _) (v := ?_) (by simp only [List.getElem?_toArray, List.getElem?_cons_succ, List.getElem?_cons_zero]; rfl) (by kernel_rfl) (by exact fun _ _ _ h => h) (by first | assumption | exact KB.refl _) (.inl ⟨by rfl, fun W hW => ?_⟩) ?_; rotate_left
          · (go_simp; first | done | with_reducible rfl)
          try simp only [Act.put, List.setIfInBounds_toArray, List.set_cons_zero, List.set_cons_succ]
          refine btakeS 11 (oi := _) (v := ?_) (by simp only [List.getElem?_toArray, List.getElem?_cons_succ, List.getElem?_cons_zero]; rfl) (by kernel_rfl) (by exact fun _ _ _ h => h) (by first | assumption | exact KB.refl _) (.inl ⟨by rfl, fun W hW => ?_⟩) ?_; rotate_left
          · (go_simp; first | done | with_reducible rfl)
          try simp only [Act.put, List.setIfInBounds_toArray, List.set_cons_zero, List.set_cons_succ]
          refine btakeS 14 (oi := _) (v := ?_) (by simp only [List.getElem?_toArray, List.getElem?_cons_succ, List.getElem?_cons_zero]; rfl) (by kernel_rfl) (by exact fun _ _ _ h => h) (by first | assumption | exact KB.refl _) (.inl ⟨by rfl, fun W hW => ?_⟩) ?_; rotate_left
          · (go_simp; first | done | with_reducible rfl)
          try simp only [Act.put, List.setIfInBounds_toArray, List.set_cons_zero, List.set_cons_succ]
          refine btakeS 15 (oi := _) (v := ?_) (by simp only [List.getElem?_toArray, List.getElem?_cons_succ, List.getElem?_cons_zero]; rfl) (by kernel_rfl) (by exact fun _ _ _ h => h) (by first | assumption | exact KB.refl _) (.inl ⟨by rfl, fun W hW => ?_⟩) ?_; rotate_left
          · (go_simp; first | done | with_reducible rfl)
          try simp only [Act.put, List.setIfInBounds_toArray, List.set_cons_zero, List.set_cons_succ]
          refine btakeS 16 (oi := _) (v := ?_) (by simp only [List.getElem?_toArray, List.getElem?_cons_succ, List.getElem?_cons_zero]; rfl) (by kernel_rfl) (by exact fun _ _ _ h => h) (by first | assumption | exact KB.refl _) (.inl ⟨by rfl, fun W hW => ?_⟩) ?_; rotate_left
          · (go_simp; first | done | with_reducible rfl)
          try simp only [Act.put, List.setIfInBounds_toArray, List.set_cons_zero, List.set_cons_succ]
          refine btakeS 17 (oi := _) (v := ?_) (by simp only [List.getElem?_toArray, List.getElem?_cons_succ, List.getElem?_cons_zero]; rfl) (by kernel_rfl) (by exact fun _ _ _ h => h) (by first | assumption | exact KB.refl _) (.inl ⟨by rfl, fun W hW => ?_⟩) ?_; rotate_left
          · (go_simp; first | done | with_reducible rfl)
          try simp only [Act.put, List.setIfInBounds_toArray, List.set_cons_zero, List.set_cons_succ]
          refine btakeS 19 (oi := _) (v := ?_) (by simp only [List.getElem?_toArray, List.getElem?_cons_succ, List.getElem?_cons_zero]; rfl) (by kernel_rfl) (by exact fun _ _ _ h => h) (by first | assumption | exact KB.refl _) (.inl ⟨by rfl, fun W hW => ?_⟩) ?_; rotate_left
          · (go_simp; first | done | with_reducible rfl)
          try simp only [Act.put, List.setIfInBounds_toArray, List.set_cons_zero, List.set_cons_succ]
          refine btakeS 21 (oi := _) (v := ?_) (by simp only [List.getElem?_toArray, List.getElem?_cons_succ, List.getElem?_cons_zero]; rfl) (by kernel_rfl) (by exact fun _ _ _ h => h) (by first | assumption | exact KB.refl _) (.inl ⟨by rfl, fun W hW => ?_⟩) ?_; rotate_left
          · (go_simp; first | done | with_reducible rfl)
          try simp only [Act.put, List.setIfInBounds_toArray, List.set_cons_zero, List.set_cons_succ]
          refine btakeS 24 (oi := _) (v := ?_) (by simp only [List.getElem?_toArray, List.getElem?_cons_succ, List.getElem?_cons_zero]; rfl) (by kernel_rfl) (by exact fun _ _ _ h => h) (by first | assumption | exact KB.refl _) (.inl ⟨by rfl, fun W hW => ?_⟩) ?_; rotate_left
          · (go_simp; first | done | with_reducible rfl)
          try simp only [Act.put, List.setIfInBounds_toArray, List.set_cons_zero, List.set_cons_succ]
          refine btakeS 25 (oi := _) (v := ?_) (by simp only [List.getElem?_toArray, List.getElem?_cons_succ, List.getElem?_cons_zero]; rfl) (by kernel_rfl) (by exact fun _ _ _ h => h) (by first | assumption | exact KB.refl _) (.inl ⟨by rfl, fun W hW => ?_⟩) ?_; rotate_left
          · (go_simp; first | done | with_reducible rfl)
          try simp only [Act.put, List.setIfInBounds_toArray, List.set_cons_zero, List.set_cons_succ]
          -- 6: newsreel/newsreelref1.turn
          refine bopS 6 (o := _) (by simp only [List.getElem?_toArray, List.getElem?_cons_succ, List.getElem?_cons_zero]; rfl) (by kernel_rfl) (by rfl) (fun K hK => ?_)
          go_simp
          refine (turn_any _ x15 7 25 hlt15 (by omega) (by omega) rfl 7 rfl).mono ?_
          rintro e w5 ⟨rfl, rfl⟩
          replace hkb : AtS gw (u32s (spr b k)) wq.drew.drew := hWp
          refine hK.out _ _ hkb ?_; clear hK K
          try simp only [Act.put, List.setIfInBounds_toArray, List.set_cons_zero, List.set_cons_succ]
          -- 8: newsreel/newsreelref1.turn
          refine bopS 8 (o := _) (by simp only [List.getElem?_toArray, List.getElem?_cons_succ, List.getElem?_cons_zero]; rfl) (by kernel_rfl) (by rfl) (fun K hK => ?_)
          go_simp
          refine (turn_any _ x15 18 14 hlt15 (by omega) (by omega) rfl 18 rfl).mono ?_
          rintro e w5 ⟨rfl, rfl⟩
          replace hkb : AtS gw (u32s (spr b k)) wq.drew.drew.drew := hWp
          refine hK.out _ _ hkb ?_; clear hK K
          try simp only [Act.put, List.setIfInBounds_toArray, List.set_cons_zero, List.set_cons_succ]
          refine btakeS 9 (oi := _) (v := ?_) (by simp only [List.getElem?_toArray, List.getElem?_cons_succ, List.getElem?_cons_zero]; rfl) (by kernel_rfl) (by exact fun _ _ _ h => h) (by first | assumption | exact KB.refl _) (.inl ⟨by rfl, fun W hW => ?_⟩) ?_; rotate_left
          · (go_simp; first | done | with_reducible rfl)
          try simp only [Act.put, List.setIfInBounds_toArray, List.set_cons_zero, List.set_cons_succ]
          refine btakeS 12 (oi := _) (v := ?_) (by simp only [List.getElem?_toArray, List.getElem?_cons_succ, List.getElem?_cons_zero]; rfl) (by kernel_rfl) (by exact fun _ _ _ h => h) (by first | assumption | exact KB.refl _) (.inl ⟨by rfl, fun W hW => ?_⟩) ?_; rotate_left
          · (go_simp; first | done | with_reducible rfl)
          try simp only [Act.put, List.setIfInBounds_toArray, List.set_cons_zero, List.set_cons_succ]
          refine btakeS 13 (oi := _) (v := ?_) (by simp only [List.getElem?_toArray, List.getElem?_cons_succ, List.getElem?_cons_zero]; rfl) (by kernel_rfl) (by exact fun _ _ _ h => h) (by first | assumption | exact KB.refl _) (.inl ⟨by rfl, fun W hW => ?_⟩) ?_; rotate_left
          · (go_simp; first | done | with_reducible rfl)
          try simp only [Act.put, List.setIfInBounds_toArray, List.set_cons_zero, List.set_cons_succ]
          refine btakeS 18 (oi := _) (v := ?_) (by simp only [List.getElem?_toArray, List.getElem?_cons_succ, List.getElem?_cons_zero]; rfl) (by kernel_rfl) (by exact fun _ _ _ h => h) (by first | assumption | exact KB.refl _) (.inl ⟨by rfl, fun W hW => ?_⟩) ?_; rotate_left
          · (go_simp; first | done | with_reducible rfl)
          try simp only [Act.put, List.setIfInBounds_toArray, List.set_cons_zero, List.set_cons_succ]
          -- 20: newsreel/newsreelref1.turn
          refine bopS 20 (o := _) (by simp only [List.getElem?_toArray, List.getElem?_cons_succ, List.getElem?_cons_zero]; rfl) (by kernel_rfl) (by rfl) (fun K hK => ?_)
          go_simp
          refine (turn_any _ x2 17 15 hlt2 (by omega) (by omega) rfl 17 rfl).mono ?_
          rintro e w5 ⟨rfl, rfl⟩
          replace hkb : AtS gw (u32s (spr b k)) wq.drew.drew.drew.drew := hWp
          refine hK.out _ _ hkb ?_; clear hK K
          try simp only [Act.put, List.setIfInBounds_toArray, List.set_cons_zero, List.set_cons_succ]
          -- 22: newsreel/newsreelref1.turn
          refine bopS 22 (o := _) (by simp only [List.getElem?_toArray, List.getElem?_cons_succ, List.getElem?_cons_zero]; rfl) (by kernel_rfl) (by rfl) (fun K hK => ?_)
          go_simp
          refine (turn_any _ x2 19 13 hlt2 (by omega) (by omega) rfl 19 rfl).mono ?_
          rintro e w5 ⟨rfl, rfl⟩
          replace hkb : AtS gw (u32s (spr b k)) wq.drew.drew.drew.drew.drew := hWp
          refine hK.out _ _ hkb ?_; clear hK K
          try simp only [Act.put, List.setIfInBounds_toArray, List.set_cons_zero, List.set_cons_succ]
          refine btakeS 23 (oi := _) (v := ?_) (by simp only [List.getElem?_toArray, List.getElem?_cons_succ, List.getElem?_cons_zero]; rfl) (by kernel_rfl) (by exact fun _ _ _ h => h) (by first | assumption | exact KB.refl _) (.inl ⟨by rfl, fun W hW => ?_⟩) ?_; rotate_left
          · (go_simp; first | done | with_reducible rfl)
          try simp only [Act.put, List.setIfInBounds_toArray, List.set_cons_zero, List.set_cons_succ]
          refine btakeS 26 (oi := _) (v := ?_) (by simp only [List.getElem?_toArray, List.getElem?_cons_succ, List.getElem?_cons_zero]; rfl) (by kernel_rfl) (by exact fun _ _ _ h => h) (by first | assumption | exact KB.refl _) (.inl ⟨by rfl, fun W hW => ?_⟩) ?_; rotate_left
          · (go_simp; first | done | with_reducible rfl)
          try simp only [Act.put, List.setIfInBounds_toArray, List.set_cons_zero, List.set_cons_succ]
          refine btakeS 27 (oi := _) (v := ?_) (by simp only [List.getElem?_toArray, List.getElem?_cons_succ, List.getElem?_cons_zero]; rfl) (by kernel_rfl) (by exact fun _ _ _ h => h) (by first | assumption | exact KB.refl _) (.inl ⟨by rfl, fun W hW => ?_⟩) ?_; rotate_left
          · (go_simp; first | done | with_reducible rfl)
          try simp only [Act.put, List.setIfInBounds_toArray, List.set_cons_zero, List.set_cons_succ]
          refine btakeS 28 (oi := _) (v := ?_) (by simp only [List.getElem?_toArray, List.getElem?_cons_succ, List.getElem?_cons_zero]; rfl) (by kernel_rfl) (by exact fun _ _ _ h => h) (by first | assumption | exact KB.refl _) (.inl ⟨by rfl, fun W hW => ?_⟩) ?_; rotate_left
          · (go_simp; first | done | with_reducible rfl)
          try simp only [Act.put, List.setIfInBounds_toArray, List.set_cons_zero, List.set_cons_succ]
          -- 29: Op.store 41 (Operand.tmp 72) (Operand.tmp 71)
          refine bopS 29 (o := _) (by simp only [List.getElem?_toArray, List.getElem?_cons_succ, List.getElem?_cons_zero]; rfl) (by kernel_rfl) (by rfl) (fun K hK => ?_)
          have hWd : At wq.drew.drew.drew.drew.drew gw (u32s (pad64 (spr b k))) := hW
          have hPd : At wq.drew.drew.drew.drew.drew gw (u32s (spr b k)) := hWp
          have hRd : At wq.drew.drew.drew.drew.drew gr (u32s z8) := hR
          have hHd : At wq.drew.drew.drew.drew.drew gh (u32s h) := hH
          have hbd : Below w.heap.size w wq.drew.drew.drew.drew.drew := hbel.drew.drew.drew.drew.drew
          clear hkb hW hWp hR hH hbel
          generalize wq.drew.drew.drew.drew.drew = wy at *
          have hcW := hWd.c k hz9
          have hfW := hWd.f k hz9
          have hW2 : At (wy.setCell ⟨gw, k, none⟩ (.int .u32 (S3 : Int))) gw (u32s (pad64 (spr b (k + 1)))) := by
            have h := hWd.set k (.int .u32 (S3 : Int)) (by rw [u32s_len, pad_len _ (by rw [spr_len]; omega)]; omega)
            have e := pad_set (spr b k) S3 (by rw [spr_len]; omega)
            rw [spr_len] at e
            rw [e, ← HST.out] at h
            exact h
          have hWp2 := hPd.beyond k (.int .u32 (S3 : Int)) (by rw [u32s_len, spr_len]; exact Nat.le_refl _)
          have hR2 := hRd.set_other k (.int .u32 (S3 : Int)) nwr
          have hH2 := hHd.set_other k (.int .u32 (S3 : Int)) nwh
          have hbel2 := hbd.setCell (p := ⟨gw, k, none⟩) hwgw (.int .u32 (S3 : Int))
          clear hz9 HST hWd hRd hHd hbd hPd
          go_simp
          have hkb : AtS gw (u32s (spr b k)) (wy.setCell ⟨gw, k, none⟩ (.int .u32 (S3 : Int))) := hWp2
          refine hK.out _ _ hkb ?_; clear hK K
          try simp only [Act.put, List.setIfInBounds_toArray, List.set_cons_zero, List.set_cons_succ]
          refine bdoneS (by kernel_rfl) ?_
          clear hkb hWp2 hcW hfW g16 g7 i2 i3 i6 i7 hP1 hP2 hQ1 hQ2 hS1 hS2 hS3 hlt15 hlt2 hlt16 hlt7
          generalize wy.setCell ⟨gw, k, none⟩ (.int .u32 (S3 : Int)) = wx at *
          go_wp2_with fail
          go_roundw
          case rel => exact ⟨k + 1, by omega, by omega, by go_num, hW2, hR2, hH2, hbel2⟩
          case measure => simp [intOf] <;> omega
        · obtain rfl : k = 64 := by omega
          rw [show (((64 : Nat)) : Int) = (64 : Int) from rfl]
          have hp : u32s (pad64 (spr b 64)) = u32s (spr b 64) := by
            unfold pad64
            rw [spr_len]
            simp
          rw [hp] at hW
          obtain ⟨S, hS⟩ : ∃ S, S = u32s (spr b 64) := ⟨_, rfl⟩
          rw [← hS] at hW
          have hSl : S.length = 64 := by rw [hS, u32s_len, spr_len]
          have HSL := Lib.hid (And.intro hS hSl)
          clear hp hS hSl
          have hV0 := At.new wr 42 (u32s z8).toArray
          have hV1 := hV0.putL (u32s h) (by rw [H8.out.1]; rfl)
          have hW1 := (hW.alloc (.cells (u32s z8).toArray 42)).putL_other (u32s h) 0 (g' := wr.heap.size) _ (by have := hW.1; omega)
          have hR1 := (hR.alloc (.cells (u32s z8).toArray 42)).putL_other (u32s h) 0 (g' := wr.heap.size) _ (by have := hR.1; omega)
          have hH1 := (hH.alloc (.cells (u32s z8).toArray 42)).putL_other (u32s h) 0 (g' := wr.heap.size) _ (by have := hH.1; omega)
          have hb1 := below_putL (u32s h) 0 (balloc hbel (.cells (u32s z8).toArray 42)) hbel.size
          have nvr : wr.heap.size ≠ gr := by have := hR.1; omega
          have nvw : wr.heap.size ≠ gw := by have := hW.1; omega
          have nvh : wr.heap.size ≠ gh := by have := hH.1; omega
          have hwgv := hbel.size
          have HX8 := Lib.hid (And.intro hV0 hH)
          clear hV0 hW hR hH hbel
          go_wp2_with (first
            | (refine opVal rfl (ex_ld8 rfl rfl HX8.out.2 H8.out.1) ?_; simp only [Act.put, List.setIfInBounds_toArray, List.set_cons_zero, List.set_cons_succ])
            | (refine opVal rfl (ex_al8 rfl) ?_; simp only [Act.put, List.setIfInBounds_toArray, List.set_cons_zero, List.set_cons_succ])
            | (refine opSkip rfl (ex_st8 rfl rfl rfl HX8.out.1 rfl H8.out.1 H8.out.2) ?_))
          clear HX8
          generalize putL _ wr.heap.size 0 (u32s h) = w4 at *
          generalize wr.heap.size = gv at *
          replace hV1 : At w4 gv (u32s (mixR b h 0)) := hV1
          go_loopw [11] (fun x11 wr => ∃ k : Nat, k ≤ 64 ∧ x11 = .int .i64 (k : Int) ∧ At wr gw S ∧ At wr gv (u32s (mixR b h k)) ∧ At wr gh (u32s h) ∧ At wr gr (u32s z8) ∧ Below w.heap.size w wr) (fun x11 _ => 64 - (intOf x11).toNat)
          case atStart => exact ⟨0, by omega, rfl, hW1, hV1, hH1, hR1, hb1⟩
          case round =>
            clear hW1 hV1 hH1 hR1 hb1
            obtain ⟨k, hk, rfl, hW, hV, hH, hR, hbel⟩ := hrel
            by_cases hlt : k < 64
            · have hok := mixR_ok b HX.out.1 k
              have hvl := fun i => at'_lt hok.2 i
              have hcs := cells8 hV hok.1
              have ekk := cellB ((hbel.cell (p := ⟨0, k, none⟩) HX.out.2.2.1).trans (HX.out.2.2.2 k hlt))
              have exx := cellB (hW.c k (by rw [HSL.out.1]; exact u32s_get (spr b 64) k (by rw [spr_len]; exact hlt)))
              have hstep : mixR b h (k + 1) = rnd (at' keys k) (at' (spr b 64) k) (mixR b h k) := rfl
              generalize at' keys k = kk at *
              generalize at' (spr b 64) k = xx at *
              obtain ⟨P1, P, A0, N0, B0, C0, T1, T2, T3, T, Q1, Q, A1, B1, C1, D1, E1, U, TU, V3, m1, m2, m3, m4, m5, m6, m7, m8, m9, m10, m11, m12, m13, m14, m15, m16, m17, m18, m19, m20, m21⟩ := rnd_ops kk xx hvl
              rw [m21] at hstep
              obtain ⟨v0, f0⟩ := hcs 0 (by omega)
              obtain ⟨v1, f1⟩ := hcs 1 (by omega)
              obtain ⟨v2, f2⟩ := hcs 2 (by omega)
              obtain ⟨v3, f3⟩ := hcs 3 (by omega)
              obtain ⟨v4, f4⟩ := hcs 4 (by omega)
              obtain ⟨v5, f5⟩ := hcs 5 (by omega)
              obtain ⟨v6, f6⟩ := hcs 6 (by omega)
              obtain ⟨v7, f7⟩ := hcs 7 (by omega)
              have hl0 := hvl 0
              have hl4 := hvl 4
              have HVL := Lib.hid hok.1
              clear hvl hcs m21 hok
              generalize hL : mixR b h k = L at *
              generalize at' L 0 = y0 at *
              generalize at' L 1 = y1 at *
              generalize at' L 2 = y2 at *
              generalize at' L 3 = y3 at *
              generalize at' L 4 = y4 at *
              generalize at' L 5 = y5 at *
              generalize at' L 6 = y6 at *
              generalize at' L 7 = y7 at *
              have HST := Lib.hid hstep
              clear hstep hL
              have i8 : IntKind.i64.wrap (k : Int) = (k : Int) := by rw [IntKind.wrap_i64]; omega
              have hd1 : decide ((k : Int) < 64) = true := by rw [decide_eq_true_eq]; omega
              have hk0 : (0 : Int) ≤ (k : Int) := by omega
              have hk1 : (k : Int) < 64 := by omega
              have e0 := cellB v0
              have e4 := cellB v4
              go_wp2_with fail
              refine bstart (by kernel_rfl) ?_
              refine btake 0 (oi := _) (v := ?_) (by simp only [List.getElem?_toArray, List.getElem?_cons_zero]; rfl) (by kernel_rfl) (by exact fun _ _ _ h => h) (by first | assumption | exact KB.refl _) (.inl ⟨by rfl, fun W hW => ?_⟩) ?_; rotate_left
              · (go_simp; first | done | with_reducible rfl)
              try simp only [Act.put, List.setIfInBounds_toArray, List.set_cons_zero, List.set_cons_succ]
              refine btake 1 (oi := _) (v := ?_) (by simp only [List.getElem?_toArray, List.getElem?_cons_succ, List.getElem?_cons_zero]; rfl) (by kernel_rfl) (by exact fun _ _ _ h => h) (by first | assumption | exact KB.refl _) (.inl ⟨by rfl, fun W hW => ?_⟩) ?_; rotate_left
              · (go_simp; first | done | with_reducible rfl)
              try simp only [Act.put, List.setIfInBounds_toArray, List.set_cons_zero, List.set_cons_succ]
              refine btake 2 (oi := _) (v := ?_) (by simp only [List.getElem?_toArray, List.getElem?_cons_succ, List.getElem?_cons_zero]; rfl) (by kernel_rfl) (by exact fun _ _ _ h => h) (by first | assumption | exact KB.refl _) (.inl ⟨by rfl, fun W hW => ?_⟩) ?_; rotate_left
              · (go_simp; first | done | with_reducible rfl)
              try simp only [Act.put, List.setIfInBounds_toArray, List.set_cons_zero, List.set_cons_succ]
              refine btake 3 (oi := _) (v := ?_) (by simp only [List.getElem?_toArray, List.getElem?_cons_succ, List.getElem?_cons_zero]; rfl) (by kernel_rfl) (by exact fun _ _ _ h => h) (by first | assumption | exact KB.refl _) (.inl ⟨by rfl, fun W hW => ?_⟩) ?_; rotate_left
              · (go_simp; first | done | with_reducible rfl)
              try simp only [Act.put, List.setIfInBounds_toArray, List.set_cons_zero, List.set_cons_succ]
              refine btake 4 (oi := _) (v := ?_) (by simp only [List.getElem?_toArray, List.getElem?_cons_succ, List.getElem?_cons_zero]; rfl) (by kernel_rfl) (by exact fun _ _ _ h => h) (by first | assumption | exact KB.refl _) (.inl ⟨by rfl, fun W hW => ?_⟩) ?_; rotate_left
              · (go_simp; first | done | with_reducible rfl)
              try simp only [Act.put, List.setIfInBounds_toArray, List.set_cons_zero, List.set_cons_succ]
              refine btake 5 (oi := _) (v := ?_) (by simp only [List.getElem?_toArray, List.getElem?_cons_succ, List.getElem?_cons_zero]; rfl) (by kernel_rfl) (by exact fun _ _ _ h => h) (by first | assumption | exact KB.refl _) (.inl ⟨by rfl, fun W hW => ?_⟩) ?_; rotate_left
              · (go_simp; first | done | with_reducible rfl)
              try simp only [Act.put, List.setIfInBounds_toArray, List.set_cons_zero, List.set_cons_succ]
              refine bdone (by kernel_rfl) ?_
              have HD : At wr.drew gw S ∧ At wr.drew gv (u32s L) ∧ At wr.drew gh (u32s h) ∧ At wr.drew gr (u32s z8) := ⟨hW.drew, hV.drew, hH.drew, hR.drew⟩
              have HC : wr.drew.cell? ⟨gv, 1, none⟩ = some (.int .u32 (y1 : Int)) ∧ wr.drew.cell? ⟨gv, 2, none⟩ = some (.int .u32 (y2 : Int)) ∧ wr.drew.cell? ⟨gv, 3, none⟩ = some (.int .u32 (y3 : Int)) ∧ wr.drew.cell? ⟨gv, 5, none⟩ = some (.int .u32 (y5 : Int)) ∧ wr.drew.cell? ⟨gv, 6, none⟩ = some (.int .u32 (y6 : Int)) ∧ wr.drew.cell? ⟨gv, 7, none⟩ = some (.int .u32 (y7 : Int)) := ⟨v1, v2, v3, v5, v6, v7⟩
              replace hbel := hbel.drew
              have ekk' : ∀ W, KB wr.drew.heap W → W.cell? ⟨0, k, none⟩ = some (.int .u32 (kk : Int)) := ekk
              have exx' : ∀ W, KB wr.drew.heap W → W.cell? ⟨gw, k, none⟩ = some (.int .u32 (xx : Int)) := exx
              clear e0 e4 ekk exx v0 v1 v2 v3 v4 v5 v6 v7 f0 f1 f2 f3 f4 f5 f6 f7 hW hV hH hR
              generalize wr.drew = wq at hbel HD HC ekk' exx' ⊢
              obtain ⟨hW, hV, hH, hR⟩ := HD
              obtain ⟨v1, v2, v3, v5, v6, v7⟩ := HC
              go_wp2_with fail
              have e5 := cellB v5
              have e6 := cellB v6
              have e7 := cellB v7
              have hS0 : KB wq.heap wq.drew := KB.refl wq
              refine bstartH (wq.heap) (by kernel_rfl) ?_
              refine btake 0 (oi := _) (v := ?_) (by simp only [List.getElem?_toArray, List.getElem?_cons_zero]; rfl) (by kernel_rfl) (by exact fun _ _ _ h => h) (by first | assumption | exact KB.refl _) (.inl ⟨by rfl, fun W hW => ?_⟩) ?_; rotate_left
              · (go_simp; first | done | with_reducible rfl)
              try simp only [Act.put, List.setIfInBounds_toArray, List.set_cons_zero, List.set_cons_succ]
              refine btake 1 (oi := _) (v := ?_) (by simp only [List.getElem?_toArray, List.getElem?_cons_succ, List.getElem?_cons_zero]; rfl) (by kernel_rfl) (by exact fun _ _ _ h => h) (by first | assumption | exact KB.refl _) (.inl ⟨by rfl, fun W hW => ?_⟩) ?_; rotate_left
              · (go_simp; first | done | with_reducible rfl)
              try simp only [Act.put, List.setIfInBounds_toArray, List.set_cons_zero, List.set_cons_succ]
              refine btake 2 (oi := _) (v := ?_) (by simp only [List.getElem?_toArray, List.getElem?_cons_succ, List.getElem?_cons_zero]; rfl) (by kernel_rfl) (by exact fun _ _ _ h => h) (by first | assumption | exact KB.refl _) (.inl ⟨by rfl, fun W hW => ?_⟩) ?_; rotate_left
              · (go_simp; first | done | with_reducible rfl)
              try simp only [Act.put, List.setIfInBounds_toArray, List.set_cons_zero, List.set_cons_succ]
              refine btake 4 (oi := _) (v := ?_) (by simp only [List.getElem?_toArray, List.getElem?_cons_succ, List.getElem?_cons_zero]; rfl) (by kernel_rfl) (by exact fun _ _ _ h => h) (by first | assumption | exact KB.refl _) (.inl ⟨by rfl, fun W hW => ?_⟩) ?_; rotate_left
              · (go_simp; first | done | with_reducible rfl)
              try simp only [Act.put, List.setIfInBounds_toArray, List.set_cons_zero, List.set_cons_succ]
              refine btake 7 (oi := _) (v := ?_) (by simp only [List.getElem?_toArray, List.getElem?_cons_succ, List.getElem?_cons_zero]; rfl) (by kernel_rfl) (by exact fun _ _ _ h => h) (by first | assumption | exact KB.refl _) (.inl ⟨by rfl, fun W hW => ?_⟩) ?_; rotate_left
              · (go_simp; first | done | with_reducible rfl)
              try simp only [Act.put, List.setIfInBounds_toArray, List.set_cons_zero, List.set_cons_succ]
              refine btake 11 (oi := _) (v := ?_) (by simp only [List.getElem?_toArray, List.getElem?_cons_succ, List.getElem?_cons_zero]; rfl) (by kernel_rfl) (by exact fun _ _ _ h => h) (by first | assumption | exact KB.refl _) (.inl ⟨by rfl, fun W hW => ?_⟩) ?_; rotate_left
              · (go_simp; first | done | with_reducible rfl)
              try simp only [Act.put, List.setIfInBounds_toArray, List.set_cons_zero, List.set_cons_succ]
              refine btake 12 (oi := _) (v := ?_) (by simp only [List.getElem?_toArray, List.getElem?_cons_succ, List.getElem?_cons_zero]; rfl) (by kernel_rfl) (by exact fun _ _ _ h => h) (by first | assumption | exact KB.refl _) (.inl ⟨by rfl, fun W hW => ?_⟩) ?_; rotate_left
              · (go_simp; first | done | with_reducible rfl)
              try simp only [Act.put, List.setIfInBounds_toArray, List.set_cons_zero, List.set_cons_succ]
              refine btake 13 (oi := _) (v := ?_) (by simp only [List.getElem?_toArray, List.getElem?_cons_succ, List.getElem?_cons_zero]; rfl) (by kernel_rfl) (by exact fun _ _ _ h => h) (by first | assumption | exact KB.refl _) (.inl ⟨by rfl, fun W hW => ?_⟩) ?_; rotate_left
              · (go_simp; first | done | with_reducible rfl)
              try simp only [Act.put, List.setIfInBounds_toArray, List.set_cons_zero, List.set_cons_succ]
              refine btake 14 (oi := _) (v := ?_) (by simp only [List.getElem?_toArray, List.getElem?_cons_succ, List.getElem?_cons_zero]; rfl) (by kernel_rfl) (by exact fun _ _ _ h => h) (by first | assumption | exact KB.refl _) (.inl ⟨by rfl, fun W hW => ?_⟩) ?_; rotate_left
              · (go_simp; first | done | with_reducible rfl)
              try simp only [Act.put, List.setIfInBounds_toArray, List.set_cons_zero, List.set_cons_succ]
              refine btake 15 (oi := _) (v := ?_) (by simp only [List.getElem?_toArray, List.getElem?_cons_succ, List.getElem?_cons_zero]; rfl) (by kernel_rfl) (by exact fun _ _ _ h => h) (by first | assumption | exact KB.refl _) (.inl ⟨by rfl, fun W hW => ?_⟩) ?_; rotate_left
              · (go_simp; first | done | with_reducible rfl)
              try simp only [Act.put, List.setIfInBounds_toArray, List.set_cons_zero, List.set_cons_succ]
              refine btake 16 (oi := _) (v := ?_) (by simp only [List.getElem?_toArray, List.getElem?_cons_succ, List.getElem?_cons_zero]; rfl) (by kernel_rfl) (by exact fun _ _ _ h => h) (by first | assumption | exact KB.refl _) (.inl ⟨by rfl, fun W hW => ?_⟩) ?_; rotate_left
              · (go_simp; first | done | with_reducible rfl)
              try simp only [Act.put, List.setIfInBounds_toArray, List.set_cons_zero, List.set_cons_succ]
              refine btake 17 (oi := _) (v := ?_) (by simp only [List.getElem?_toArray, List.getElem?_cons_succ, List.getElem?_cons_zero]; rfl) (by kernel_rfl) (by exact fun _ _ _ h => h) (by first | assumption | exact KB.refl _) (.inl ⟨by rfl, fun W hW => ?_⟩) ?_; rotate_left
              · (go_simp; first | done | with_reducible rfl)
              try simp only [Act.put, List.setIfInBounds_toArray, List.set_cons_zero, List.set_cons_succ]
              refine btake 18 (oi := _) (v := ?_) (by simp only [List.getElem?_toArray, List.getElem?_cons_succ, List.getElem?_cons_zero]; rfl) (by kernel_rfl) (by exact fun _ _ _ h => h) (by first | assumption | exact KB.refl _) (.inl ⟨by rfl, fun W hW => ?_⟩) ?_; rotate_left
              · (go_simp; first | done | with_reducible rfl)
              try simp only [Act.put, List.setIfInBounds_toArray, List.set_cons_zero, List.set_cons_succ]
              refine btake 19 (oi := _) (v := ?_) (by simp only [List.getElem?_toArray, List.getElem?_cons_succ, List.getElem?_cons_zero]; rfl) (by kernel_rfl) (by exact fun _ _ _ h => h) (by first | assumption | exact KB.refl _) (.inl ⟨by rfl, fun W hW => ?_⟩) ?_; rotate_left
              · (go_simp; first | done | with_reducible rfl)
              try simp only [Act.put, List.setIfInBounds_toArray, List.set_cons_zero, List.set_cons_succ]
              refine btake 20 (oi := _) (v := ?_) (by simp only [List.getElem?_toArray, List.getElem?_cons_succ, List.getElem?_cons_zero]; rfl) (by kernel_rfl) (by exact fun _ _ _ h => h) (by first | assumption | exact KB.refl _) (.inl ⟨by rfl, fun W hW => ?_⟩) ?_; rotate_left
              · (go_simp; first | done | with_reducible rfl)
              try simp only [Act.put, List.setIfInBounds_toArray, List.set_cons_zero, List.set_cons_succ]
              refine btake 22 (oi := _) (v := ?_) (by simp only [List.getElem?_toArray, List.getElem?_cons_succ, List.getElem?_cons_zero]; rfl) (by kernel_rfl) (by exact fun _ _ _ h => h) (by first | assumption | exact KB.refl _) (.inl ⟨by rfl, fun W hW => ?_⟩) ?_; rotate_left
              · (go_simp; first | done | with_reducible rfl)
              try simp only [Act.put, List.setIfInBounds_toArray, List.set_cons_zero, List.set_cons_succ]
              refine btake 23 (oi := _) (v := ?_) (by simp only [List.getElem?_toArray, List.getElem?_cons_succ, List.getElem?_cons_zero]; rfl) (by kernel_rfl) (by exact fun _ _ _ h => h) (by first | assumption | exact KB.refl _) (.inl ⟨by rfl, fun W hW => ?_⟩) ?_; rotate_left
              · (go_simp; first | done | with_reducible rfl)
              try simp only [Act.put, List.setIfInBounds_toArray, List.set_cons_zero, List.set_cons_succ]
              refine btake 24 (oi := _) (v := ?_) (by simp only [List.getElem?_toArray, List.getElem?_cons_succ, List.getElem?_cons_zero]; rfl) (by kernel_rfl) (by exact fun _ _ _ h => h) (by first | assumption | exact KB.refl _) (.inl ⟨by rfl, fun W hW => ?_⟩) ?_; rotate_left
              · (go_simp; first | done | with_reducible rfl)
              try simp only [Act.put, List.setIfInBounds_toArray, List.set_cons_zero, List.set_cons_succ]
              refine btake 26 (oi := _) (v := ?_) (by simp only [List.getElem?_toArray, List.getElem?_cons_succ, List.getElem?_cons_zero]; rfl) (by kernel_rfl) (by exact fun _ _ _ h => h) (by first | assumption | exact KB.refl _) (.inl ⟨by rfl, fun W hW => ?_⟩) ?_; rotate_left
              · (go_simp; first | done | with_reducible rfl)
              try simp only [Act.put, List.setIfInBounds_toArray, List.set_cons_zero, List.set_cons_succ]
              refine btake 27 (oi := _) (v := ?_) (by simp only [List.getElem?_toArray, List.getElem?_cons_succ, List.getElem?_cons_zero]; rfl) (by kernel_rfl) (by exact fun _ _ _ h => h) (by first | assumption | exact KB.refl _) (.inl ⟨by rfl, fun W hW => ?_⟩) ?_; rotate_left
              · (go_simp; first | done | with_reducible rfl)
              try simp only [Act.put, List.setIfInBounds_toArray, List.set_cons_zero, List.set_cons_succ]
              refine btake 28 (oi := _) (v := ?_) (by simp only [List.getElem?_toArray, List.getElem?_cons_succ, List.getElem?_cons_zero]; rfl) (by kernel_rfl) (by exact fun _ _ _ h => h) (by first | assumption | exact KB.refl _) (.inl ⟨by rfl, fun W hW => ?_⟩) ?_; rotate_left
              · (go_simp; first | done | with_reducible rfl)
              try simp only [Act.put, List.setIfInBounds_toArray, List.set_cons_zero, List.set_cons_succ]
              -- 3: newsreel/newsreelref1.turn
              refine bopH 3 (o := _) (by simp only [List.getElem?_toArray, List.getElem?_cons_succ, List.getElem?_cons_zero]; rfl) (by kernel_rfl) (by first | assumption | exact KB.refl _) (by rfl) (fun K hK => ?_)
              go_simp
              refine (turn_any _ y4 6 26 hl4 (by omega) (by omega) rfl 6 rfl).mono ?_
              rintro e w5 ⟨rfl, rfl⟩
              have hkb : KB wq.heap wq.drew.drew := KB.refl wq
              refine hK.out _ _ hkb ?_; clear hK K
              try simp only [Act.put, List.setIfInBounds_toArray, List.set_cons_zero, List.set_cons_succ]
              -- 5: newsreel/newsreelref1.turn
              refine bopH 5 (o := _) (by simp only [List.getElem?_toArray, List.getElem?_cons_succ, List.getElem?_cons_zero]; rfl) (by kernel_rfl) (by first | assumption | exact KB.refl _) (by rfl) (fun K hK => ?_)
              go_simp
              refine (turn_any _ y4 11 21 hl4 (by omega) (by omega) rfl 11 rfl).mono ?_
              rintro e w5 ⟨rfl, rfl⟩
              have hkb : KB wq.heap wq.drew.drew.drew := KB.refl wq
              refine hK.out _ _ hkb ?_; clear hK K
              try simp only [Act.put, List.setIfInBounds_toArray, List.set_cons_zero, List.set_cons_succ]
              refine btake 6 (oi := _) (v := ?_) (by simp only [List.getElem?_toArray, List.getElem?_cons_succ, List.getElem?_cons_zero]; rfl) (by kernel_rfl) (by exact fun _ _ _ h => h) (by first | assumption | exact KB.refl _) (.inl ⟨by rfl, fun W hW => ?_⟩) ?_; rotate_left
              · (go_simp; first | done | with_reducible rfl)
              try simp only [Act.put, List.setIfInBounds_toArray, List.set_cons_zero, List.set_cons_succ]
              -- 8: newsreel/newsreelref1.turn
              refine bopH 8 (o := _) (by simp only [List.getElem?_toArray, List.getElem?_cons_succ, List.getElem?_cons_zero]; rfl) (by kernel_rfl) (by first | assumption | exact KB.refl _) (by rfl) (fun K hK => ?_)
              go_simp
              refine (turn_any _ y4 25 7 hl4 (by omega) (by omega) rfl 25 rfl).mono ?_
              rintro e w5 ⟨rfl, rfl⟩
              have hkb : KB wq.heap wq.drew.drew.drew.drew := KB.refl wq
              refine hK.out _ _ hkb ?_; clear hK K
              try simp only [Act.put, List.setIfInBounds_toArray, List.set_cons_zero, List.set_cons_succ]
              refine btake 9 (oi := _) (v := ?_) (by simp only [List.getElem?_toArray, List.getElem?_cons_succ, List.getElem?_cons_zero]; rfl) (by kernel_rfl) (by exact fun _ _ _ h => h) (by first | assumption | exact KB.refl _) (.inl ⟨by rfl, fun W hW => ?_⟩) ?_; rotate_left
              · (go_simp; first | done | with_reducible rfl)
              try simp only [Act.put, List.setIfInBounds_toArray, List.set_cons_zero, List.set_cons_succ]
              refine btake 10 (oi := _) (v := ?_) (by simp only [List.getElem?_toArray, List.getElem?_cons_succ, List.getElem?_cons_zero]; rfl) (by kernel_rfl) (by exact fun _ _ _ h => h) (by first | assumption | exact KB.refl _) (.inl ⟨by rfl, fun W hW => ?_⟩) ?_; rotate_left
              · (go_simp; first | done | with_reducible rfl)
              try simp only [Act.put, List.setIfInBounds_toArray, List.set_cons_zero, List.set_cons_succ]
              refine btake 21 (oi := _) (v := ?_) (by simp only [List.getElem?_toArray, List.getElem?_cons_succ, List.getElem?_cons_zero]; rfl) (by kernel_rfl) (by exact fun _ _ _ h => h) (by first | assumption | exact KB.refl _) (.inl ⟨by rfl, fun W hW => ?_⟩) ?_; rotate_left
              · (go_simp; first | done | with_reducible rfl)
              try simp only [Act.put, List.setIfInBounds_toArray, List.set_cons_zero, List.set_cons_succ]
              refine btake 25 (oi := _) (v := ?_) (by simp only [List.getElem?_toArray, List.getElem?_cons_succ, List.getElem?_cons_zero]; rfl) (by kernel_rfl) (by exact fun _ _ _ h => h) (by first | assumption | exact KB.refl _) (.inl ⟨by rfl, fun W hW => ?_⟩) ?_; rotate_left
              · (go_simp; first | done | with_reducible rfl)
              try simp only [Act.put, List.setIfInBounds_toArray, List.set_cons_zero, List.set_cons_succ]
              refine btake 29 (oi := _) (v := ?_) (by simp only [List.getElem?_toArray, List.getElem?_cons_succ, List.getElem?_cons_zero]; rfl) (by kernel_rfl) (by exact fun _ _ _ h => h) (by first | assumption | exact KB.refl _) (.inl ⟨by rfl, fun W hW => ?_⟩) ?_; rotate_left
              · (go_simp; first | done | with_reducible rfl)
              try simp only [Act.put, List.setIfInBounds_toArray, List.set_cons_zero, List.set_cons_succ]
              refine btake 30 (oi := _) (v := ?_) (by simp only [List.getElem?_toArray, List.getElem?_cons_succ, List.getElem?_cons_zero]; rfl) (by kernel_rfl) (by exact fun _ _ _ h => h) (by first | assumption | exact KB.refl _) (.inl ⟨by rfl, fun W hW => ?_⟩) ?_; rotate_left
              · (go_simp; first | done | with_reducible rfl)
              try simp only [Act.put, List.setIfInBounds_toArray, List.set_cons_zero, List.set_cons_succ]
              refine bdone (by kernel_rfl) ?_
              have HD : At wq.drew.drew.drew.drew gw S ∧ At wq.drew.drew.drew.drew gv (u32s L) ∧ At wq.drew.drew.drew.drew gh (u32s h) ∧ At wq.drew.drew.drew.drew gr (u32s z8) := ⟨hW, hV, hH, hR⟩
              have HC : wq.drew.drew.drew.drew.cell? ⟨gv, 1, none⟩ = some (.int .u32 (y1 : Int)) ∧ wq.drew.drew.drew.drew.cell? ⟨gv, 2, none⟩ = some (.int .u32 (y2 : Int)) ∧ wq.drew.drew.drew.drew.cell? ⟨gv, 3, none⟩ = some (.int .u32 (y3 : Int)) ∧ wq.drew.drew.drew.drew.cell? ⟨gv, 5, none⟩ = some (.int .u32 (y5 : Int)) ∧ wq.drew.drew.drew.drew.cell? ⟨gv, 6, none⟩ = some (.int .u32 (y6 : Int)) := ⟨v1, v2, v3, v5, v6⟩
              replace hbel := hbel.drew.drew.drew.drew
              clear ekk' exx' e5 e6 e7 v1 v2 v3 v5 v6 v7 hW hV hH hR hS0 m1 m2 m3 m4 m5 m6 m7 m8 m9 m10
              generalize wq.drew.drew.drew.drew = wz at hbel HD HC ⊢
              obtain ⟨hW, hV, hH, hR⟩ := HD
              obtain ⟨v1, v2, v3, v5, v6⟩ := HC
              go_wp2_with fail
              have e1 := cellB v1
              have e2 := cellB v2
              have hS0 : KB wz.heap wz.drew := KB.refl wz
              refine bstartH (wz.heap) (by kernel_rfl) ?_
              refine btake 0 (oi := _) (v := ?_) (by simp only [List.getElem?_toArray, List.getElem?_cons_zero]; rfl) (by kernel_rfl) (by exact fun _ _ _ h => h) (by first | assumption | exact KB.refl _) (.inl ⟨by rfl, fun W hW => ?_⟩) ?_; rotate_left
              · (go_simp; first | done | with_reducible rfl)
              try simp only [Act.put, List.setIfInBounds_toArray, List.set_cons_zero, List.set_cons_succ]
              refine btake 2 (oi := _) (v := ?_) (by simp only [List.getElem?_toArray, List.getElem?_cons_succ, List.getElem?_cons_zero]; rfl) (by kernel_rfl) (by exact fun _ _ _ h => h) (by first | assumption | exact KB.refl _) (.inl ⟨by rfl, fun W hW => ?_⟩) ?_; rotate_left
              · (go_simp; first | done | with_reducible rfl)
              try simp only [Act.put, List.setIfInBounds_toArray, List.set_cons_zero, List.set_cons_succ]
              refine btake 5 (oi := _) (v := ?_) (by simp only [List.getElem?_toArray, List.getElem?_cons_succ, List.getElem?_cons_zero]; rfl) (by kernel_rfl) (by exact fun _ _ _ h => h) (by first | assumption | exact KB.refl _) (.inl ⟨by rfl, fun W hW => ?_⟩) ?_; rotate_left
              · (go_simp; first | done | with_reducible rfl)
              try simp only [Act.put, List.setIfInBounds_toArray, List.set_cons_zero, List.set_cons_succ]
              refine btake 8 (oi := _) (v := ?_) (by simp only [List.getElem?_toArray, List.getElem?_cons_succ, List.getElem?_cons_zero]; rfl) (by kernel_rfl) (by exact fun _ _ _ h => h) (by first | assumption | exact KB.refl _) (.inl ⟨by rfl, fun W hW => ?_⟩) ?_; rotate_left
              · (go_simp; first | done | with_reducible rfl)
              try simp only [Act.put, List.setIfInBounds_toArray, List.set_cons_zero, List.set_cons_succ]
              refine btake 9 (oi := _) (v := ?_) (by simp only [List.getElem?_toArray, List.getElem?_cons_succ, List.getElem?_cons_zero]; rfl) (by kernel_rfl) (by exact fun _ _ _ h => h) (by first | assumption | exact KB.refl _) (.inl ⟨by rfl, fun W hW => ?_⟩) ?_; rotate_left
              · (go_simp; first | done | with_reducible rfl)
              try simp only [Act.put, List.setIfInBounds_toArray, List.set_cons_zero, List.set_cons_succ]
              refine btake 10 (oi := _) (v := ?_) (by simp only [List.getElem?_toArray, List.getElem?_cons_succ, List.getElem?_cons_zero]; rfl) (by kernel_rfl) (by exact fun _ _ _ h => h) (by first | assumption | exact KB.refl _) (.inl ⟨by rfl, fun W hW => ?_⟩) ?_; rotate_left
              · (go_simp; first | done | with_reducible rfl)
              try simp only [Act.put, List.setIfInBounds_toArray, List.set_cons_zero, List.set_cons_succ]
              refine btake 11 (oi := _) (v := ?_) (by simp only [List.getElem?_toArray, List.getElem?_cons_succ, List.getElem?_cons_zero]; rfl) (by kernel_rfl) (by exact fun _ _ _ h => h) (by first | assumption | exact KB.refl _) (.inl ⟨by rfl, fun W hW => ?_⟩) ?_; rotate_left
              · (go_simp; first | done | with_reducible rfl)
              try simp only [Act.put, List.setIfInBounds_toArray, List.set_cons_zero, List.set_cons_succ]
              refine btake 12 (oi := _) (v := ?_) (by simp only [List.getElem?_toArray, List.getElem?_cons_succ, List.getElem?_cons_zero]; rfl) (by kernel_rfl) (by exact fun _ _ _ h => h) (by first | assumption | exact KB.refl _) (.inl ⟨by rfl, fun W hW => ?_⟩) ?_; rotate_left
              · (go_simp; first | done | with_reducible rfl)
              try simp only [Act.put, List.setIfInBounds_toArray, List.set_cons_zero, List.set_cons_succ]
              refine btake 13 (oi := _) (v := ?_) (by simp only [List.getElem?_toArray, List.getElem?_cons_succ, List.getElem?_cons_zero]; rfl) (by kernel_rfl) (by exact fun _ _ _ h => h) (by first | assumption | exact KB.refl _) (.inl ⟨by rfl, fun W hW => ?_⟩) ?_; rotate_left
              · (go_simp; first | done | with_reducible rfl)
              try simp only [Act.put, List.setIfInBounds_toArray, List.set_cons_zero, List.set_cons_succ]
              refine btake 14 (oi := _) (v := ?_) (by simp only [List.getElem?_toArray, List.getElem?_cons_succ, List.getElem?_cons_zero]; rfl) (by kernel_rfl) (by exact fun _ _ _ h => h) (by first | assumption | exact KB.refl _) (.inl ⟨by rfl, fun W hW => ?_⟩) ?_; rotate_left
              · (go_simp; first | done | with_reducible rfl)
              try simp only [Act.put, List.setIfInBounds_toArray, List.set_cons_zero, List.set_cons_succ]
              refine btake 15 (oi := _) (v := ?_) (by simp only [List.getElem?_toArray, List.getElem?_cons_succ, List.getElem?_cons_zero]; rfl) (by kernel_rfl) (by exact fun _ _ _ h => h) (by first | assumption | exact KB.refl _) (.inl ⟨by rfl, fun W hW => ?_⟩) ?_; rotate_left
              · (go_simp; first | done | with_reducible rfl)
              try simp only [Act.put, List.setIfInBounds_toArray, List.set_cons_zero, List.set_cons_succ]
              refine btake 16 (oi := _) (v := ?_) (by simp only [List.getElem?_toArray, List.getElem?_cons_succ, List.getElem?_cons_zero]; rfl) (by kernel_rfl) (by exact fun _ _ _ h => h) (by first | assumption | exact KB.refl _) (.inl ⟨by rfl, fun W hW => ?_⟩) ?_; rotate_left
              · (go_simp; first | done | with_reducible rfl)
              try simp only [Act.put, List.setIfInBounds_toArray, List.set_cons_zero, List.set_cons_succ]
              refine btake 17 (oi := _) (v := ?_) (by simp only [List.getElem?_toArray, List.getElem?_cons_succ, List.getElem?_cons_zero]; rfl) (by kernel_rfl) (by exact fun _ _ _ h => h) (by first | assumption | exact KB.refl _) (.inl ⟨by rfl, fun W hW => ?_⟩) ?_; rotate_left
              · (go_simp; first | done | with_reducible rfl)
              try simp only [Act.put, List.setIfInBounds_toArray, List.set_cons_zero, List.set_cons_succ]
              refine btake 18 (oi := _) (v := ?_) (by simp only [List.getElem?_toArray, List.getElem?_cons_succ, List.getElem?_cons_zero]; rfl) (by kernel_rfl) (by exact fun _ _ _ h => h) (by first | assumption | exact KB.refl _) (.inl ⟨by rfl, fun W hW => ?_⟩) ?_; rotate_left
              · (go_simp; first | done | with_reducible rfl)
              try simp only [Act.put, List.setIfInBounds_toArray, List.set_cons_zero, List.set_cons_succ]
              refine btake 19 (oi := _) (v := ?_) (by simp only [List.getElem?_toArray, List.getElem?_cons_succ, List.getElem?_cons_zero]; rfl) (by kernel_rfl) (by exact fun _ _ _ h => h) (by first | assumption | exact KB.refl _) (.inl ⟨by rfl, fun W hW => ?_⟩) ?_; rotate_left
              · (go_simp; first | done | with_reducible rfl)
              try simp only [Act.put, List.setIfInBounds_toArray, List.set_cons_zero, List.set_cons_succ]
              refine btake 20 (oi := _) (v := ?_) (by simp only [List.getElem?_toArray, List.getElem?_cons_succ, List.getElem?_cons_zero]; rfl) (by kernel_rfl) (by exact fun _ _ _ h => h) (by first | assumption | exact KB.refl _) (.inl ⟨by rfl, fun W hW => ?_⟩) ?_; rotate_left
              · (go_simp; first | done | with_reducible rfl)
              try simp only [Act.put, List.setIfInBounds_toArray, List.set_cons_zero, List.set_cons_succ]
              refine btake 21 (oi := _) (v := ?_) (by simp only [List.getElem?_toArray, List.getElem?_cons_succ, List.getElem?_cons_zero]; rfl) (by kernel_rfl) (by exact fun _ _ _ h => h) (by first | assumption | exact KB.refl _) (.inl ⟨by rfl, fun W hW => ?_⟩) ?_; rotate_left
              · (go_simp; first | done | with_reducible rfl)
              try simp only [Act.put, List.setIfInBounds_toArray, List.set_cons_zero, List.set_cons_succ]
              refine btake 22 (oi := _) (v := ?_) (by simp only [List.getElem?_toArray, List.getElem?_cons_succ, List.getElem?_cons_zero]; rfl) (by kernel_rfl) (by exact fun _ _ _ h => h) (by first | assumption | exact KB.refl _) (.inl ⟨by rfl, fun W hW => ?_⟩) ?_; rotate_left
              · (go_simp; first | done | with_reducible rfl)
              try simp only [Act.put, List.setIfInBounds_toArray, List.set_cons_zero, List.set_cons_succ]
              -- 1: newsreel/newsreelref1.turn
              refine bopH 1 (o := _) (by simp only [List.getElem?_toArray, List.getElem?_cons_succ, List.getElem?_cons_zero]; rfl) (by kernel_rfl) (by first | assumption | exact KB.refl _) (by rfl) (fun K hK => ?_)
              go_simp
              refine (turn_any _ y0 2 30 hl0 (by omega) (by omega) rfl 2 rfl).mono ?_
              rintro e w5 ⟨rfl, rfl⟩
              have hkb : KB wz.heap wz.drew.drew := KB.refl wz
              refine hK.out _ _ hkb ?_; clear hK K
              try simp only [Act.put, List.setIfInBounds_toArray, List.set_cons_zero, List.set_cons_succ]
              -- 3: newsreel/newsreelref1.turn
              refine bopH 3 (o := _) (by simp only [List.getElem?_toArray, List.getElem?_cons_succ, List.getElem?_cons_zero]; rfl) (by kernel_rfl) (by first | assumption | exact KB.refl _) (by rfl) (fun K hK => ?_)
              go_simp
              refine (turn_any _ y0 13 19 hl0 (by omega) (by omega) rfl 13 rfl).mono ?_
              rintro e w5 ⟨rfl, rfl⟩
              have hkb : KB wz.heap wz.drew.drew.drew := KB.refl wz
              refine hK.out _ _ hkb ?_; clear hK K
              try simp only [Act.put, List.setIfInBounds_toArray, List.set_cons_zero, List.set_cons_succ]
              refine btake 4 (oi := _) (v := ?_) (by simp only [List.getElem?_toArray, List.getElem?_cons_succ, List.getElem?_cons_zero]; rfl) (by kernel_rfl) (by exact fun _ _ _ h => h) (by first | assumption | exact KB.refl _) (.inl ⟨by rfl, fun W hW => ?_⟩) ?_; rotate_left
              · (go_simp; first | done | with_reducible rfl)
              try simp only [Act.put, List.setIfInBounds_toArray, List.set_cons_zero, List.set_cons_succ]
              -- 6: newsreel/newsreelref1.turn
              refine bopH 6 (o := _) (by simp only [List.getElem?_toArray, List.getElem?_cons_succ, List.getElem?_cons_zero]; rfl) (by kernel_rfl) (by first | assumption | exact KB.refl _) (by rfl) (fun K hK => ?_)
              go_simp
              refine (turn_any _ y0 22 10 hl0 (by omega) (by omega) rfl 22 rfl).mono ?_
              rintro e w5 ⟨rfl, rfl⟩
              have hkb : KB wz.heap wz.drew.drew.drew.drew := KB.refl wz
              refine hK.out _ _ hkb ?_; clear hK K
              try simp only [Act.put, List.setIfInBounds_toArray, List.set_cons_zero, List.set_cons_succ]
              refine btake 7 (oi := _) (v := ?_) (by simp only [List.getElem?_toArray, List.getElem?_cons_succ, List.getElem?_cons_zero]; rfl) (by kernel_rfl) (by exact fun _ _ _ h => h) (by first | assumption | exact KB.refl _) (.inl ⟨by rfl, fun W hW => ?_⟩) ?_; rotate_left
              · (go_simp; first | done | with_reducible rfl)
              try simp only [Act.put, List.setIfInBounds_toArray, List.set_cons_zero, List.set_cons_succ]
              refine btake 23 (oi := _) (v := ?_) (by simp only [List.getElem?_toArray, List.getElem?_cons_succ, List.getElem?_cons_zero]; rfl) (by kernel_rfl) (by exact fun _ _ _ h => h) (by first | assumption | exact KB.refl _) (.inl ⟨by rfl, fun W hW => ?_⟩) ?_; rotate_left
              · (go_simp; first | done | with_reducible rfl)
              try simp only [Act.put, List.setIfInBounds_toArray, List.set_cons_zero, List.set_cons_succ]
              refine btake 24 (oi := _) (v := ?_) (by simp only [List.getElem?_toArray, List.getElem?_cons_succ, List.getElem?_cons_zero]; rfl) (by kernel_rfl) (by exact fun _ _ _ h => h) (by first | assumption | exact KB.refl _) (.inl ⟨by rfl, fun W hW => ?_⟩) ?_; rotate_left
              · (go_simp; first | done | with_reducible rfl)
              try simp only [Act.put, List.setIfInBounds_toArray, List.set_cons_zero, List.set_cons_succ]
              refine bdone (by kernel_rfl) ?_
              have HD : At wz.drew.drew.drew.drew gw S ∧ At wz.drew.drew.drew.drew gv (u32s L) ∧ At wz.drew.drew.drew.drew gh (u32s h) ∧ At wz.drew.drew.drew.drew gr (u32s z8) := ⟨hW, hV, hH, hR⟩
              have HC : wz.drew.drew.drew.drew.cell? ⟨gv, 1, none⟩ = some (.int .u32 (y1 : Int)) ∧ wz.drew.drew.drew.drew.cell? ⟨gv, 2, none⟩ = some (.int .u32 (y2 : Int)) ∧ wz.drew.drew.drew.drew.cell? ⟨gv, 3, none⟩ = some (.int .u32 (y3 : Int)) ∧ wz.drew.drew.drew.drew.cell? ⟨gv, 5, none⟩ = some (.int .u32 (y5 : Int)) ∧ wz.drew.drew.drew.drew.cell? ⟨gv, 6, none⟩ = some (.int .u32 (y6 : Int)) := ⟨v1, v2, v3, v5, v6⟩
              replace hbel := hbel.drew.drew.drew.drew
              clear e1 e2 v1 v2 v3 v5 v6 hW hV hH hR hS0 m11 m12 m13 m14 m15 m16 m17 m18
              generalize wz.drew.drew.drew.drew = wy at hbel HD HC ⊢
              obtain ⟨hW, hV, hH, hR⟩ := HD
              obtain ⟨v1, v2, v3, v5, v6⟩ := HC
              have hV2 := hV.putL (u32s [TU, y0, y1, y2, V3, y4, y5, y6]) (by rw [u32s_len, u32s_len, HVL.out]; rfl)
              have hW2 := hW.putL_other (u32s [TU, y0, y1, y2, V3, y4, y5, y6]) 0 _ nvw
              have hH2 := hH.putL_other (u32s [TU, y0, y1, y2, V3, y4, y5, y6]) 0 _ nvh
              have hR2 := hR.putL_other (u32s [TU, y0, y1, y2, V3, y4, y5, y6]) 0 _ nvr
              have hb2 := below_putL (u32s [TU, y0, y1, y2, V3, y4, y5, y6]) 0 hbel hwgv
              have hfr := fun i hi => (hV.2 i _ (u32s_get L i (by rw [HVL.out]; exact hi)))
              have v0 := (hfr 0 (by omega)).1
              have v4 := (hfr 4 (by omega)).1
              have v7 := (hfr 7 (by omega)).1
              have f0 := (hfr 0 (by omega)).2
              have f1 := (hfr 1 (by omega)).2
              have f2 := (hfr 2 (by omega)).2
              have f3 := (hfr 3 (by omega)).2
              have f4 := (hfr 4 (by omega)).2
              have f5 := (hfr 5 (by omega)).2
              have f6 := (hfr 6 (by omega)).2
              have f7 := (hfr 7 (by omega)).2
              clear hfr hW hV hH hR hbel
              go_wp2_with fail
              go_roundw
              case rel => exact ⟨k + 1, by omega, by go_num, hW2, by rw [HST.out]; exact hV2, hH2, hR2, hb2⟩
              case measure => simp [intOf] <;> omega
            · obtain rfl : k = 64 := by omega
              rw [show (((64 : Nat)) : Int) = (64 : Int) from rfl]
              clear hW
              have hVok := mixR_ok b HX.out.1 64
              obtain ⟨V, hVV⟩ : ∃ V, V = mixR b h 64 := ⟨_, rfl⟩
              have hS8 : mixS h b = addT h V 8 := by rw [hVV]; rfl
              rw [← hVV] at hV hVok
              have HMX := Lib.hid hS8
              clear hVV hS8
              rw [← addT_zero V HX.out.1.1] at hH
              go_wp2_with fail
              go_loopw [16] (fun x16 wr => ∃ k : Nat, k ≤ 8 ∧ x16 = .int .i64 (k : Int) ∧ At wr gv (u32s V) ∧ At wr gh (u32s (addT h V k)) ∧ At wr gr (u32s z8) ∧ Below w.heap.size w wr) (fun x16 _ => 8 - (intOf x16).toNat)
              case atStart => exact ⟨0, by omega, rfl, hV, hH, hR, hbel⟩
              case round =>
                clear hV hH hR hbel hlt
                obtain ⟨k, hk, rfl, hV, hH, hR, hbel⟩ := hrel
                by_cases hlt : k < 8
                · have hd1 : decide ((k : Int) < 8) = true := by rw [decide_eq_true_eq]; omega
                  have i8 : IntKind.i64.wrap (k : Int) = (k : Int) := by rw [IntKind.wrap_i64]; omega
                  have hk0 : (0 : Int) ≤ (k : Int) := by omega
                  have hk1 : (k : Int) < 8 := by omega
                  have hu := u32s_get (addT h V k) k (by rw [addT_len]; exact hlt)
                  have hcH := hH.c k hu
                  have hfH := hH.f k hu
                  have gvv := AtS.e (g := gv) (vs := u32s V) k (u32s_get V k (by rw [hVok.1]; exact hlt))
                  have hh9 : at' (addT h V k) k = at' h k := by rw [addT_get _ _ _ _ hlt, if_neg (by omega)]
                  rw [hh9] at hcH
                  have hst := hH.set k (.int .u32 (((at' h k + at' V k) % 4294967296 : Nat) : Int)) (by rw [u32s_len, addT_len]; exact hlt)
                  rw [addT_succ h V k hlt] at hst
                  have hs9 := add_op (at' h k) (at' V k)
                  generalize (at' h k + at' V k) % 4294967296 = X at *
                  generalize at' h k = yh at *
                  generalize at' V k = yv at *
                  clear hh9 hu
                  have hV2 := hV.set_other k (.int .u32 (X : Int)) (Ne.symm nvh)
                  have hR2 := hR.set_other k (.int .u32 (X : Int)) nhr
                  have hbel2 := hbel.setCell (p := ⟨gh, k, none⟩) hwgh (.int .u32 (X : Int))
                  have HVO := Lib.hid hVok
                  clear hVok
                  go_wp2_with fail
                  have hS0 : AtS gv (u32s V) wr.drew := hV.drew
                  refine bstartS (AtS gv (u32s V)) (by kernel_rfl) ?_
                  refine btakeS 0 (oi := _) (v := ?_) (by simp only [List.getElem?_toArray, List.getElem?_cons_zero]; rfl) (by kernel_rfl) (by exact fun _ _ _ h => h) (by first | assumption | exact KB.refl _) (.inl ⟨by rfl, fun W hW => ?_⟩) ?_; rotate_left
                  · (go_simp; first | done | with_reducible rfl)
                  try simp only [Act.put, List.setIfInBounds_toArray, List.set_cons_zero, List.set_cons_succ]
                  refine btakeS 1 (oi := _) (v := ?_) (by simp only [List.getElem?_toArray, List.getElem?_cons_succ, List.getElem?_cons_zero]; rfl) (by kernel_rfl) (by exact fun _ _ _ h => h) (by first | assumption | exact KB.refl _) (.inl ⟨by rfl, fun W hW => ?_⟩) ?_; rotate_left
                  · (go_simp; first | done | with_reducible rfl)
                  try simp only [Act.put, List.setIfInBounds_toArray, List.set_cons_zero, List.set_cons_succ]
                  refine btakeS 3 (oi := _) (v := ?_) (by simp only [List.getElem?_toArray, List.getElem?_cons_succ, List.getElem?_cons_zero]; rfl) (by kernel_rfl) (by exact fun _ _ _ h => h) (by first | assumption | exact KB.refl _) (.inl ⟨by rfl, fun W hW => ?_⟩) ?_; rotate_left
                  · (go_simp; first | done | with_reducible rfl)
                  try simp only [Act.put, List.setIfInBounds_toArray, List.set_cons_zero, List.set_cons_succ]
                  refine btakeS 4 (oi := _) (v := ?_) (by simp only [List.getElem?_toArray, List.getElem?_cons_succ, List.getElem?_cons_zero]; rfl) (by kernel_rfl) (by exact fun _ _ _ h => h) (by first | assumption | exact KB.refl _) (.inl ⟨by rfl, fun W hW => ?_⟩) ?_; rotate_left
                  · (go_simp; first | done | with_reducible rfl)
                  try simp only [Act.put, List.setIfInBounds_toArray, List.set_cons_zero, List.set_cons_succ]
                  refine btakeS 5 (oi := _) (v := ?_) (by simp only [List.getElem?_toArray, List.getElem?_cons_succ, List.getElem?_cons_zero]; rfl) (by kernel_rfl) (by exact fun _ _ _ h => h) (by first | assumption | exact KB.refl _) (.inl ⟨by rfl, fun W hW => ?_⟩) ?_; rotate_left
                  · (go_simp; first | done | with_reducible rfl)
                  try simp only [Act.put, List.setIfInBounds_toArray, List.set_cons_zero, List.set_cons_succ]
                  -- 2: Op.load 41 (Operand.tmp 159)
                  refine bopS 2 (o := _) (by simp only [List.getElem?_toArray, List.getElem?_cons_succ, List.getElem?_cons_zero]; rfl) (by kernel_rfl) (by rfl) (fun K hK => ?_)
                  go_simp
                  have hkb := hS0
                  refine hK.out _ _ hkb ?_; clear hK K
                  try simp only [Act.put, List.setIfInBounds_toArray, List.set_cons_zero, List.set_cons_succ]
                  refine btakeS 6 (oi := _) (v := ?_) (by simp only [List.getElem?_toArray, List.getElem?_cons_succ, List.getElem?_cons_zero]; rfl) (by kernel_rfl) (by exact fun _ _ _ h => h) (by first | assumption | exact KB.refl _) (.inl ⟨by rfl, fun W hW => ?_⟩) ?_; rotate_left
                  · (go_simp; first | done | with_reducible rfl)
                  try simp only [Act.put, List.setIfInBounds_toArray, List.set_cons_zero, List.set_cons_succ]
                  refine btakeS 7 (oi := _) (v := ?_) (by simp only [List.getElem?_toArray, List.getElem?_cons_succ, List.getElem?_cons_zero]; rfl) (by kernel_rfl) (by exact fun _ _ _ h => h) (by first | assumption | exact KB.refl _) (.inl ⟨by rfl, fun W hW => ?_⟩) ?_; rotate_left
                  · (go_simp; first | done | with_reducible rfl)
                  try simp only [Act.put, List.setIfInBounds_toArray, List.set_cons_zero, List.set_cons_succ]
                  -- 8: Op.store 41 (Operand.tmp 165) (Operand.tmp 164)
                  refine bopS 8 (o := _) (by simp only [List.getElem?_toArray, List.getElem?_cons_succ, List.getElem?_cons_zero]; rfl) (by kernel_rfl) (by rfl) (fun K hK => ?_)
                  go_simp
                  have hkb : AtS gv (u32s V) (wr.setCell ⟨gh, k, none⟩ (.int .u32 (X : Int))).drew := hV2.drew
                  refine hK.out _ _ hkb ?_; clear hK K
                  try simp only [Act.put, List.setIfInBounds_toArray, List.set_cons_zero, List.set_cons_succ]
                  refine bdoneS (by kernel_rfl) ?_
                  have hV3 := hV2.drew
                  have hH3 := hst.drew
                  have hR3 := hR2.drew
                  have hbel3 := hbel2.drew
                  clear hkb hS0 gvv hcH hfH hV hH hR hbel hV2 hst hR2 hbel2 hs9 i8
                  go_wp2_with fail
                  go_roundw
                  case rel => exact ⟨k + 1, by omega, by go_num, hV3, hH3, hR3, hbel3⟩
                  case measure => simp [intOf] <;> omega
                · obtain rfl : k = 8 := by omega
                  rw [show (((8 : Nat)) : Int) = (8 : Int) from rfl]
                  have hl8 : (u32s (addT h V 8)).length = 8 := by rw [u32s_len, addT_len]
                  have hRf := hR.putL (u32s (addT h V 8)) (by rw [hl8]; rfl)
                  have hbf := below_putL (u32s (addT h V 8)) 0 hbel hwgr
                  have HF := Lib.hid (And.intro hRf (And.intro hl8 hbf))
                  have HW := Lib.hid (And.intro hH hR)
                  clear hRf hbf hH hR
                  go_wp2_with (first
                    | (refine opVal rfl (ex_ld8 rfl rfl HW.out.1 HF.out.2.1) ?_)
                    | (refine opSkip rfl (ex_st8 rfl rfl rfl HW.out.2 rfl HF.out.2.1 (u32s_one _)) ?_))
                  exact bodyPost_ret (results_arr8 rfl _ rfl HF.out.1 HF.out.2.1) rfl ⟨by rw [HMX.out], HF.out.2.2⟩
end Go.Proofs.YtjbelkpmbbkhgaaDoor

