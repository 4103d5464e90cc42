/- The walk of VectorSets. -/
import Derived.Test.YtaflikgdlkaefaaM16
import Derived.Test.YtaflikgdlkaefaaM18
import Derived.Test.YtaflikgdlkaefaaM19
open List (getElem?_toArray getElem?_cons_succ getElem?_cons_zero)
namespace Go.Proofs.Ytaflikgdlkaefaa
open Go.RowKit Go.Maps Go.Proofs.Ytaflikgdlkaefaa.Pl Go.Proofs.Ytaflikgdlkaefaa.Sp Go.Proofs.Ytaflikgdlkaefaa.Ve
set_option maxRecDepth 20000

theorem u16info : (Try.prog.info? 23).map (fun i => (i.zero, i.size, i.bytes)) = some (some (.int .u16 0), 1, 2) := by kernel_rfl
def EW : ET Try.prog 22 23 Nat := {
  n := 1
  bytes := 2
  cells := fun n => [.int .u16 (n : Int)]
  zero := 0
  z := .int .u16 0
  ty := Try.underlying22
  info := u16info
  zc := rfl
  pos := by omega
  len := fun _ => rfl
  one := fun x u hu => by
    simp only [List.mem_cons, List.not_mem_nil, or_false] at hu
    rcases hu with rfl; rfl
  small := by omega }
theorem EW_dv : ∀ l : List Nat, EW.dv l = wv l
  | [] => rfl
  | x :: l => by
    rw [ET.dv_cons, EW_dv l]
    rfl
def VecP (V : VL) (v : Value) (w : World) : Prop := ∃ A n c R, v = .agg #[.slice A n c] ∧ VS w A n c R V
theorem VecP.st (V : VL) (v : Value) (w w' : World) (h : VecP V v w) (hb : Below w.heap.size w w') : VecP V v w' := by
  obtain ⟨A, n, c, R, e, h⟩ := h
  exact ⟨A, n, c, R, e, h.below hb⟩
theorem vec64 {w : World} {A : Option Addr} {n c : Nat} {R : List RA} {V : VL} (h : VS w A n c R V) (hr : rightV V = true) : n ≤ 64 := by rw [← h.len]; exact right_length hr
theorem vecX_right (x : List Nat) : rightV (vecX x) = true := ofV_right _
theorem vecX_lim {x : List Nat} (h : x.length ≤ 60) : Lim 120 (vecX x) := ofV_lim.mono (by have := xds_len x; omega)
theorem fldV (A : Option Addr) (l c : Nat) (w : World) : (Instr.field 27 (.agg #[.slice A l c]) 0).run Try.prog w = .ok (.slice A l c) w := by kernel_rfl
theorem countV_bd {V : VL} (h : rightV V = true) : 0 ≤ countV V ∧ countV V ≤ 70368744177664 := by
  have h1 := sumV_bd V
  have h2 := right_length h
  rw [countV, if_pos h]
  omega
theorem sets_count {A B : VL} (ha : rightV A = true) (hb : rightV B = true) : IntKind.i64.wrap (countV (minusV A B) + countV B) = countV (joinV A B) := by
  rw [← count_joinV ha hb, IntKind.wrap_i64]
  have := countV_bd (joinV_right A B)
  omega
set_option maxRecDepth 100000 in
set_option maxHeartbeats 12800000 in
theorem VectorSets_walk (w : World) (A : Option Addr) (c : Nat) (x : List Nat) (hx : Sl w w.heap.size A (wv x)) (hxl : ∀ m ∈ x, m < 65536) (A' : Option Addr) (c' : Nat) (y : List Nat) (hy : Sl w w.heap.size A' (wv y)) (hyl : ∀ m ∈ y, m < 65536) (d : Nat) (hd : d < 65536) :
    Calls Try.prog 3 #[.slice A x.length c, .slice A' y.length c', .int .u16 (d : Int)] w fun e w' => e = .returned (.bool true) ∧ Below w.heap.size w w' := by
  have HK := Lib.hid (vknown_any w)
  obtain ⟨n, hn⟩ : ∃ n, x.length = n := ⟨_, rfl⟩
  obtain ⟨n', hn'⟩ : ∃ n, y.length = n := ⟨_, rfl⟩
  rw [hn, hn']
  have HX := Lib.hid (And.intro hx (And.intro hxl (And.intro hy (And.intro hyl (And.intro hn hn')))))
  clear hx hxl hy hyl hn hn'
  go_enter Try.func3, Try.ntmps3
  go_wp2_with fail
  refine HK.out.mono ?_
  rintro e w1 ⟨rfl, h1⟩
  by_cases q1 : 60 < n
  · have hd1 : decide ((60 : Int) < (n : Int)) = true := by rw [decide_eq_true_eq]; omega
    go_wp2_with fail
    go_ret
    exact ⟨rfl, h1⟩
  have hd1 : decide ((60 : Int) < (n : Int)) = false := by rw [decide_eq_false_iff_not]; omega
  by_cases q2 : 60 < n'
  · have hd2 : decide ((60 : Int) < (n' : Int)) = true := by rw [decide_eq_true_eq]; omega
    go_wp2_with fail
    go_ret
    exact ⟨rfl, h1⟩
  have hd2 : decide ((60 : Int) < (n' : Int)) = false := by rw [decide_eq_false_iff_not]; omega
  have HA := Lib.hid ((SVec_own w1 A n c x ((HX.out.1.below h1).more h1.size) HX.out.2.2.2.2.1.symm (by omega) HX.out.2.1).mono fun _ _ h => h.ans)
  have H1 := Lib.hid h1
  clear h1 HK
  go_wp2_with fail
  refine HA.out.mono ?_
  rintro e w2 ⟨A2, n2, c2, R2, rfl, hv2, h2⟩
  have hb2 := H1.out.trans (h2.mono H1.out.size)
  have HB := Lib.hid ((SVec_own w2 A' n' c' y ((HX.out.2.2.1.below hb2).more hb2.size) HX.out.2.2.2.2.2.symm (by omega) HX.out.2.2.2.1).mono fun _ _ h => h.ans)
  have H2 := Lib.hid (And.intro hv2 hb2)
  clear hv2 h2 hb2 HA
  go_wp2_with fail
  refine HB.out.mono ?_
  rintro e w3 ⟨A3, n3, c3, R3, rfl, hv3, h3⟩
  have H3 := Lib.hid (And.intro (H2.out.1.below h3) (And.intro hv3 (H2.out.2.trans (h3.mono H2.out.2.size))))
  clear hv3 h3 HB
  have hbx := balloc (Below.refl w3.heap.size w3) (.cells #[.slice A2 n2 c2] 27)
  have hby := balloc hbx (.cells #[.slice A3 n3 c3] 27)
  have a7 := (At.new w3 27 #[.slice A2 n2 c2]).alloc (.cells #[.slice A3 n3 c3] 27)
  have a8 := At.new (w3.alloc (.cells #[.slice A2 n2 c2] 27)) 27 #[.slice A3 n3 c3]
  have hs8 : (w3.alloc (.cells #[.slice A2 n2 c2] 27)).heap.size = w3.heap.size + 1 := by simp
  rw [hs8] at a8
  have HW := Lib.hid (And.intro (H3.out.1.below hby) (And.intro (H3.out.2.1.below hby) (And.intro a7 (And.intro a8 (H3.out.2.2.trans (hby.mono H3.out.2.2.size))))))
  have n264 := vec64 H3.out.1 (vecX_right x)
  have n364 := vec64 H3.out.2.1 (vecX_right y)
  clear hbx hby a7 a8 hs8 H3
  go_wp2_with fail
  generalize (w3.alloc (.cells #[.slice A2 n2 c2] 27)).alloc (.cells #[.slice A3 n3 c3] 27) = U at *
  generalize w3.heap.size = g7 at *
  obtain ⟨VA, hVA⟩ : ∃ V, vecX x = V := ⟨_, rfl⟩
  obtain ⟨VB, hVB⟩ : ∃ V, vecX y = V := ⟨_, rfl⟩
  have hra := vecX_right x
  have hrb := vecX_right y
  have hla := vecX_lim (x := x) (by rw [HX.out.2.2.2.2.1]; omega)
  have hlb := vecX_lim (x := y) (by rw [HX.out.2.2.2.2.2]; omega)
  rw [hVA] at HW hra hla
  rw [hVB] at HW hrb hlb
  have HR := Lib.hid (And.intro hra (And.intro hrb (And.intro hla hlb)))
  clear hVA hVB hra hrb hla hlb
  have HJ := Lib.hid (fun W (hW : Below U.heap.size U W) => (VJoin_own W A2 A3 n2 n3 c2 c3 R2 R3 VA VB (HW.out.1.below hW) (HW.out.2.1.below hW) (by omega) (by omega) (HR.out.2.2.1.mono (by omega)) (HR.out.2.2.2.mono (by omega))).mono fun _ _ h => h.ans)
  have HM := Lib.hid (fun W (hW : Below U.heap.size U W) => (VMinus_own W A2 A3 n2 n3 c2 c3 R2 R3 VA VB (HW.out.1.below hW) (HW.out.2.1.below hW) (by omega) (by omega) (HR.out.2.2.1.mono (by omega)) (HR.out.2.2.2.mono (by omega))).mono fun _ _ h => h.ans)
  have e7 := HW.out.2.2.1.e 0 rfl
  have e8 := HW.out.2.2.2.1.e 0 rfl
  have hb0 : Below U.heap.size U U.drew := (Below.refl _ U).drew
  refine bstart (by kernel_rfl) ?_
  refine btake 0 (oi := _) (v := ?_) (by simp only [List.getElem?_toArray, List.getElem?_cons_zero]; rfl) (by kernel_rfl) (by exact fun _ _ _ h => h) (by first | assumption | exact KB.refl _) (.inl ⟨by rfl, fun W hW => ?_⟩) ?_; rotate_left
  · (go_simp; first | done | with_reducible rfl)
  try simp only [Act.put, List.setIfInBounds_toArray, List.set_cons_zero, List.set_cons_succ]
  refine btake 1 (oi := _) (v := ?_) (by simp only [getElem?_toArray, getElem?_cons_succ, getElem?_cons_zero]; rfl) (by kernel_rfl) (by exact fun _ _ _ h => h) (by first | assumption | exact KB.refl _) (.inl ⟨by rfl, fun W hW => ?_⟩) ?_; rotate_left
  · (go_simp; first | done | with_reducible rfl)
  try simp only [Act.put, List.setIfInBounds_toArray, List.set_cons_zero, List.set_cons_succ]
  refine btake 3 (oi := _) (v := ?_) (by simp only [getElem?_toArray, getElem?_cons_succ, getElem?_cons_zero]; rfl) (by kernel_rfl) (by exact fun _ _ _ h => h) (by first | assumption | exact KB.refl _) (.inl ⟨by rfl, fun W hW => ?_⟩) ?_; rotate_left
  · (go_simp; first | done | with_reducible rfl)
  try simp only [Act.put, List.setIfInBounds_toArray, List.set_cons_zero, List.set_cons_succ]
  refine btake 4 (oi := _) (v := ?_) (by simp only [getElem?_toArray, getElem?_cons_succ, getElem?_cons_zero]; rfl) (by kernel_rfl) (by exact fun _ _ _ h => h) (by first | assumption | exact KB.refl _) (.inl ⟨by rfl, fun W hW => ?_⟩) ?_; rotate_left
  · (go_simp; first | done | with_reducible rfl)
  try simp only [Act.put, List.setIfInBounds_toArray, List.set_cons_zero, List.set_cons_succ]
  refine bparV [YldV.sl 2 (some 32) none (VecP (joinV VA VB)) (VecP.st _), YldV.sl 5 (some 35) none (VecP (minusV VA VB)) (VecP.st _), YldV.sl 6 (some 9) none (BxP (.slice none 0 0)) (BxP.st _), YldV.sl 7 (some 10) none (BxP (.slice none 0 0)) (BxP.st _)] 2 rfl (by kernel_rfl) (by kernel_rfl) (fun s hs => ?_) (fun vs W hbW hd hds => ?_)
  · simp only [List.mem_cons, List.not_mem_nil, or_false] at hs
    rcases hs with rfl | rfl | rfl | rfl
    · -- 2: newsreel/vector.Join
      intro vs W hbW hd
      clear hd
      refine parV_of (j := 2) (d := (some 32)) (o := _) (by simp only [getElem?_toArray, getElem?_cons_succ, getElem?_cons_zero]; rfl) (by rfl) (fun K hK => ?_)
      simp only [putv, puts, List.map_cons, List.map_nil, YldV.y, List.foldl_cons, List.foldl_nil, Act.put, List.setIfInBounds_toArray, List.set_cons_zero, List.set_cons_succ, YldV.eq, YldV.at, YldV.sl, YldV.own] at hK ⊢
      go_simp
      refine (HJ.out W (hb0.trans (hbW.mono hb0.size))).mono ?_
      rintro e w4 ⟨A4, n4, c4, R4, rfl, hv4, h4⟩
      exact hK.out _ _ _ (by rfl) (StepV.quiet ⟨_, _, _, _, rfl, hv4⟩ h4 rfl)
    · -- 5: newsreel/vector.Minus
      intro vs W hbW hd
      obtain ⟨h2, b2⟩ : ((YldV.sl 2 (some 32) none (VecP (joinV VA VB)) (VecP.st _)).pr (vs 2) W) ∧ ∀ g, (vs 2).bk = some g → _ := hd _ (.head _) (by kernel_rfl) (by first | exact .inl rfl | exact .inr rfl)
      clear hd
      refine parV_of (j := 5) (d := (some 35)) (o := _) (by simp only [getElem?_toArray, getElem?_cons_succ, getElem?_cons_zero]; rfl) (by rfl) (fun K hK => ?_)
      simp only [putv, puts, List.map_cons, List.map_nil, YldV.y, List.foldl_cons, List.foldl_nil, Act.put, List.setIfInBounds_toArray, List.set_cons_zero, List.set_cons_succ, YldV.eq, YldV.at, YldV.sl, YldV.own] at hK ⊢
      generalize e2 : vs 2 = v2 at hK h2 b2 ⊢
      go_simp
      refine (HM.out W (hb0.trans (hbW.mono hb0.size))).mono ?_
      rintro e w4 ⟨A4, n4, c4, R4, rfl, hv4, h4⟩
      exact hK.out _ _ _ (by rfl) (StepV.quiet ⟨_, _, _, _, rfl, hv4⟩ h4 rfl)
    · -- 6: Op.alloc 27
      intro vs W hbW hd
      clear hd
      refine parV_of (j := 6) (d := (some 9)) (o := _) (by simp only [getElem?_toArray, getElem?_cons_succ, getElem?_cons_zero]; rfl) (by rfl) (fun K hK => ?_)
      simp only [putv, puts, List.map_cons, List.map_nil, YldV.y, List.foldl_cons, List.foldl_nil, Act.put, List.setIfInBounds_toArray, List.set_cons_zero, List.set_cons_succ, YldV.eq, YldV.at, YldV.sl, YldV.own] at hK ⊢
      go_simp
      exact hK.out _ _ _ (by rfl) (StepV.newB (Bx.new W (.slice none 0 0)) (balloc (Below.refl _ _) _) (Nat.le_refl _))
    · -- 7: Op.alloc 27
      intro vs W hbW hd
      clear hd
      refine parV_of (j := 7) (d := (some 10)) (o := _) (by simp only [getElem?_toArray, getElem?_cons_succ, getElem?_cons_zero]; rfl) (by rfl) (fun K hK => ?_)
      simp only [putv, puts, List.map_cons, List.map_nil, YldV.y, List.foldl_cons, List.foldl_nil, Act.put, List.setIfInBounds_toArray, List.set_cons_zero, List.set_cons_succ, YldV.eq, YldV.at, YldV.sl, YldV.own] at hK ⊢
      go_simp
      exact hK.out _ _ _ (by rfl) (StepV.newB (Bx.new W (.slice none 0 0)) (balloc (Below.refl _ _) _) (Nat.le_refl _))
  obtain ⟨h2, b2⟩ : ((YldV.sl 2 (some 32) none (VecP (joinV VA VB)) (VecP.st _)).pr (vs 2) W) ∧ ∀ g, (vs 2).bk = some g → _ := hd _ (.head _) rfl
  obtain ⟨h5, b5⟩ : ((YldV.sl 5 (some 35) none (VecP (minusV VA VB)) (VecP.st _)).pr (vs 5) W) ∧ ∀ g, (vs 5).bk = some g → _ := hd _ (.tail _ (.head _)) rfl
  obtain ⟨h6, b6⟩ : ((YldV.sl 6 (some 9) none (BxP (.slice none 0 0)) (BxP.st _)).pr (vs 6) W) ∧ ∀ g, (vs 6).bk = some g → _ := hd _ (.tail _ (.tail _ (.head _))) rfl
  obtain ⟨h7, b7⟩ : ((YldV.sl 7 (some 10) none (BxP (.slice none 0 0)) (BxP.st _)).pr (vs 7) W) ∧ ∀ g, (vs 7).bk = some g → _ := hd _ (.tail _ (.tail _ (.tail _ (.head _)))) rfl
  have n6_7 : (vs 6).bk = none ∨ (vs 6).bk ≠ (vs 7).bk := hds _ (.tail _ (.tail _ (.head _))) _ (.tail _ (.tail _ (.tail _ (.head _)))) rfl rfl (by simp [YldV.at, YldV.eq, YldV.at, YldV.sl, YldV.own])
  clear hds
  clear hd
  have hKW := KB.of hbW
  simp only [putv, puts, List.map_cons, List.map_nil, YldV.y, List.foldl_cons, List.foldl_nil, Act.put, List.setIfInBounds_toArray, List.set_cons_zero, List.set_cons_succ, YldV.eq, YldV.at, YldV.sl, YldV.own]
  generalize vs 2 = v2 at *
  generalize vs 5 = v5 at *
  generalize vs 6 = v6 at *
  generalize vs 7 = v7 at *
  obtain ⟨A4, n4, c4, R4, rfl, hv4⟩ := h2
  obtain ⟨A5, n5, c5, R5, rfl, hv5⟩ := h5
  obtain ⟨g9, rfl, k9⟩ := h6
  obtain ⟨g10, rfl, k10⟩ := h7
  have ne : g9 ≠ g10 := fun e => by rcases n6_7 with h | h; cases h; exact h (by rw [e])
  have lo9 : U.heap.size ≤ g9 := (b6 g9 rfl).1
  have lo10 : U.heap.size ≤ g10 := (b7 g10 rfl).1
  clear n6_7 b2 b5 b6 b7
  have c9 := k9.at_.c 0 rfl
  have f9 := k9.at_.f 0 rfl
  have hb9 := hbW.setCell (p := ⟨g9, 0, none⟩) lo9 (.slice A4 n4 c4)
  have hkb9 := KB.of hb9
  have k10' := k10.other ne (.slice A4 n4 c4)
  have k9' := k9.set (.slice A4 n4 c4)
  have hv4' := hv4.box k9 (.slice A4 n4 c4)
  have hv5' := hv5.box k9 (.slice A4 n4 c4)
  have c10 := k10'.at_.c 0 rfl
  have f10 := k10'.at_.f 0 rfl
  have hb10 := hb9.setCell (p := ⟨g10, 0, none⟩) lo10 (.slice A5 n5 c5)
  have hkb10 := KB.of hb10
  have hb10' := hb0.trans (hb10.mono hb0.size)
  have k10'' := k10'.set (.slice A5 n5 c5)
  have k9'' := k9'.other (Ne.symm ne) (.slice A5 n5 c5)
  have hv4'' := hv4'.box k10' (.slice A5 n5 c5)
  have hv5'' := hv5'.box k10' (.slice A5 n5 c5)
  -- 8: Op.store 27 (Operand.tmp 9) (Operand.tmp 32)
  refine bopH 8 (o := _) (by simp only [getElem?_toArray, getElem?_cons_succ, getElem?_cons_zero]; rfl) (by kernel_rfl) (by first | assumption | exact KB.refl _) (by rfl) (fun K hK => ?_)
  go_simp
  have hkb := hkb9
  refine hK.out _ _ hkb ?_; clear hK K
  try simp only [Act.put, List.setIfInBounds_toArray, List.set_cons_zero, List.set_cons_succ]
  -- 9: Op.store 27 (Operand.tmp 10) (Operand.tmp 35)
  refine bopH 9 (o := _) (by simp only [getElem?_toArray, getElem?_cons_succ, getElem?_cons_zero]; rfl) (by kernel_rfl) (by first | assumption | exact KB.refl _) (by rfl) (fun K hK => ?_)
  go_simp
  have hkb := hkb10
  refine hK.out _ _ hkb ?_; clear hK K
  try simp only [Act.put, List.setIfInBounds_toArray, List.set_cons_zero, List.set_cons_succ]
  refine bdone (by kernel_rfl) ?_
  have HZ := Lib.hid (And.intro ((HW.out.1.below hb10') ) (And.intro (HW.out.2.1.below hb10') (And.intro hv4'' (And.intro hv5'' (And.intro (HW.out.2.2.1.below hb10') (And.intro (HW.out.2.2.2.1.below hb10') (And.intro k9''.at_ (And.intro k10''.at_ (HW.out.2.2.2.2.trans (hb10'.mono HW.out.2.2.2.2.size))))))))))
  clear hbW hKW hv4 hv5 hv4' hv5' hv4'' hv5'' k9 k10 k9' k10' k9'' k10'' c9 f9 c10 f10 hb9 hb10 hb10' hkb9 hkb10 lo9 lo10 ne e7 e8 hb0 HJ HM HW
  generalize ((W.setCell { block := g9, off := 0 } (Value.slice A4 n4 c4)).setCell { block := g10, off := 0 } (Value.slice A5 n5 c5)) = Z at *
  have ol := ET.Own.lit (E := EW) Z [d] (by simp [maxLen]) (us := #[.int .u16 (d : Int)]) rfl
  have hbl : Below Z.heap.size Z (Z.alloc (.cells #[.int .u16 (d : Int)] 23)) := balloc (Below.refl _ _) _
  have hbl' := HZ.out.2.2.2.2.2.2.2.2.trans (hbl.mono HZ.out.2.2.2.2.2.2.2.2.size)
  have hsx := (HX.out.1.below hbl').more hbl'.size
  have HL := Lib.hid (And.intro ol (And.intro hbl hsx))
  clear ol hbl hbl' hsx
  have hmx : ∀ m ∈ [d] ++ x ++ y, m < 65536 := fun m hm => by
    rcases List.mem_append.1 hm with hm | hm
    · rcases List.mem_append.1 hm with hm | hm
      · rw [List.mem_singleton.1 hm]; exact hd
      · exact HX.out.2.1 m hm
    · exact HX.out.2.2.2.1 m hm
  have hNl : ([d] ++ x ++ y).length ≤ 121 := by rw [List.length_append, List.length_append, HX.out.2.2.2.2.1, HX.out.2.2.2.2.2, List.length_singleton]; omega
  obtain ⟨L, hL⟩ : ∃ L, [d] ++ x ++ y = L := ⟨_, rfl⟩
  rw [hL] at hmx hNl
  obtain ⟨N, hN⟩ : ∃ N, L.length = N := ⟨_, rfl⟩
  rw [hN] at hNl
  have HN := Lib.hid (And.intro hL hN)
  clear hL hN
  go_wp2_with (first
    | (refine appE (E := EW) rfl rfl HL.out.1 (by rw [EW_dv]; exact HL.out.2.2) HX.out.2.2.2.2.1.symm rfl rfl (by rw [HX.out.2.2.2.2.1, List.length_singleton]; omega) HL.out.2.1.size ?_; intro v5 w5 hown5 hg5 hat5; have hb5 := ET.Own.below_of HL.out.1 HL.out.2.1 HL.out.2.1.size hg5; have hb5' := HZ.out.2.2.2.2.2.2.2.2.trans (hb5.mono HZ.out.2.2.2.2.2.2.2.2.size); have H5 := Lib.hid (And.intro hown5 (And.intro hb5 ((HX.out.2.2.1.below hb5').more hb5'.size))); clear hown5 hg5 hat5 hb5 hb5' HL)
    | (refine appE (E := EW) rfl rfl H5.out.1 (by rw [EW_dv]; exact H5.out.2.2) HX.out.2.2.2.2.2.symm rfl rfl (by rw [HX.out.2.2.2.2.2, List.length_append, HX.out.2.2.2.2.1, List.length_singleton]; omega) H5.out.2.1.size ?_; intro v6 w6 hown6 hg6 hat6; have hb6 := ET.Own.below_of H5.out.1 H5.out.2.1 H5.out.2.1.size hg6; rw [HN.out.1] at hown6; obtain ⟨A6, c6, ev6, hle6, hcm6, hsl6, _⟩ := hown6.form; rw [HN.out.2] at ev6; subst ev6; rw [EW_dv] at hsl6; have H6 := Lib.hid (And.intro hsl6 hb6); clear hown6 hg6 hat6 hb6 H5 hsl6 hle6 hcm6))
  have HV := Lib.hid (And.intro (VH.of HZ.out.1 HR.out.2.2.1 HR.out.1) (And.intro (VH.of HZ.out.2.1 HR.out.2.2.2 HR.out.2.1) (And.intro (VH.of HZ.out.2.2.1 (joinV_lim HR.out.2.2.1 HR.out.2.2.2) (joinV_right _ _)) (And.intro (VH.of HZ.out.2.2.2.1 (minusV_lim HR.out.2.2.1 HR.out.2.2.2) (minusV_right _ _)) HZ.out.2.2.2.2))))
  clear HX HZ n264 n364
  go_loopw [43] (fun x3 wr => ∃ (k : Nat), k ≤ N ∧ x3 = .int .i64 (k : Int) ∧ Below Z.heap.size Z wr ∧ Below w6.heap.size w6 wr) (fun x3 _ => N - (intOf x3).toNat)
  case atStart => exact ⟨0, by omega, rfl, H6.out.2, Below.refl _ _⟩
  case round =>
    obtain ⟨k, hk, rfl, hbel, hbe6⟩ := hrel
    have z7 := (HV.out.2.2.2.2.1.below hbel).c 0 rfl
    have z8 := (HV.out.2.2.2.2.2.1.below hbel).c 0 rfl
    have z9 := (HV.out.2.2.2.2.2.2.1.below hbel).c 0 rfl
    have z10 := (HV.out.2.2.2.2.2.2.2.1.below hbel).c 0 rfl
    by_cases hlt : k < N
    · have hkx : k < L.length := by have := HN.out.2; omega
      obtain ⟨b, o, rfl, hbW, c0⟩ := u16At H6.out.1 hkx
      have hm16 := u16_lt hmx k
      generalize L[k]?.getD 0 = m at *
      replace c0 := (hbe6.cell hbW).trans c0
      have hd1 : decide ((k : Int) < (N : Int)) = true := by rw [decide_eq_true_eq]; omega
      have hn0 : (0 : Int) ≤ (k : Int) := by omega
      have hn1 : (k : Int) < (N : Int) := by omega
      have f1 := u16_and3 hm16
      have f2 := u16_and31 hm16
      have g1 : IntKind.i64.wrap ((m : Int) / 4096 % 4) = (m : Int) / 4096 % 4 := by rw [IntKind.wrap_i64]; omega
      have g2 : IntKind.i64.wrap ((m : Int) % 32) = (m : Int) % 32 := by rw [IntKind.wrap_i64]; omega
      have g3 : IntKind.i64.wrap ((m : Int) % 32 + 1) = (m : Int) % 32 + 1 := by rw [IntKind.wrap_i64]; omega
      go_wp2_with fail
      have hb1 := boxD wr ⟨(m : Int) / 4096 % 4, (m : Int) % 32 + 1⟩
      have a13 := At.new wr 32 #[.int .i64 ((m : Int) / 4096 % 4), .int .i64 ((m : Int) % 32 + 1)]
      dsimp only at hb1
      have hz1 := hbel.trans (hb1.mono hbel.size)
      have h61 := hbe6.trans (hb1.mono hbe6.size)
      have hri : i64in ((m : Int) / 4096 % 4) := by unfold i64in; omega
      generalize wr.alloc (.cells #[.int .i64 ((m : Int) / 4096 % 4), .int .i64 ((m : Int) % 32 + 1)] 32) = W1 at *
      generalize wr.heap.size = g13 at *
      generalize (m : Int) / 4096 % 4 = r at *
      generalize (m : Int) % 32 + 1 = q at *
      have HVW := Lib.hid (fun W (hW : Below W1.heap.size W1 W) => have hz := hz1.trans (hW.mono hz1.size); And.intro (HV.out.1.below hz) (And.intro (HV.out.2.1.below hz) (And.intro (HV.out.2.2.1.below hz) (And.intro (HV.out.2.2.2.1.below hz) (And.intro (HV.out.2.2.2.2.2.2.1.below hz) (And.intro (HV.out.2.2.2.2.2.2.2.1.below hz) (And.intro (a13.below hW) (And.intro hz (h61.trans (hW.mono h61.size))))))))))
      have e7 := (HV.out.2.2.2.2.1.below hz1).e 0 rfl
      have e8 := (HV.out.2.2.2.2.2.1.below hz1).e 0 rfl
      have e13 := a13.e 0 rfl
      have e13' := a13.e 1 rfl
      obtain ⟨pa, hpa⟩ : ∃ p, hasV VA ⟨r, q⟩ = p := ⟨_, rfl⟩
      obtain ⟨pb, hpb⟩ : ∃ p, hasV VB ⟨r, q⟩ = p := ⟨_, rfl⟩
      have HJ := Lib.hid (show hasV (joinV VA VB) ⟨r, q⟩ = (pa || pb) by rw [has_joinV HR.out.1 HR.out.2.1, hpa, hpb])
      have HM := Lib.hid (show hasV (minusV VA VB) ⟨r, q⟩ = (pa && !pb) by rw [has_minusV HR.out.1 HR.out.2.1, hpa, hpb])
      have HPA := Lib.hid hpa
      have HPB := Lib.hid hpb
      have hb0 : Below W1.heap.size W1 W1.drew := (Below.refl _ W1).drew
      clear hpa hpb hb1 hbel hbe6 c0 hbW z7 z8 z9 z10 f1 f2 g1 g2 g3 hm16 hz1 h61 a13
      refine bstartH (W1.heap) (by kernel_rfl) ?_
      refine btake 0 (oi := _) (v := ?_) (by simp only [List.getElem?_toArray, List.getElem?_cons_zero]; rfl) (by kernel_rfl) (by exact fun _ _ _ h => h) (by first | assumption | exact KB.refl _) (.inl ⟨by rfl, fun W hW => ?_⟩) ?_; rotate_left
      · (go_simp; first | done | with_reducible rfl)
      try simp only [Act.put, List.setIfInBounds_toArray, List.set_cons_zero, List.set_cons_succ]
      refine btake 1 (oi := _) (v := ?_) (by simp only [getElem?_toArray, getElem?_cons_succ, getElem?_cons_zero]; rfl) (by kernel_rfl) (by exact fun _ _ _ h => h) (by first | assumption | exact KB.refl _) (.inl ⟨by rfl, fun W hW => ?_⟩) ?_; rotate_left
      · (go_simp; first | done | with_reducible rfl)
      try simp only [Act.put, List.setIfInBounds_toArray, List.set_cons_zero, List.set_cons_succ]
      refine btake 3 (oi := _) (v := ?_) (by simp only [getElem?_toArray, getElem?_cons_succ, getElem?_cons_zero]; rfl) (by kernel_rfl) (by exact fun _ _ _ h => h) (by first | assumption | exact KB.refl _) (.inl ⟨by rfl, fun W hW => ?_⟩) ?_; rotate_left
      · (go_simp; first | done | with_reducible rfl)
      try simp only [Act.put, List.setIfInBounds_toArray, List.set_cons_zero, List.set_cons_succ]
      refine btake 4 (oi := _) (v := ?_) (by simp only [getElem?_toArray, getElem?_cons_succ, getElem?_cons_zero]; rfl) (by kernel_rfl) (by exact fun _ _ _ h => h) (by first | assumption | exact KB.refl _) (.inl ⟨by rfl, fun W hW => ?_⟩) ?_; rotate_left
      · (go_simp; first | done | with_reducible rfl)
      try simp only [Act.put, List.setIfInBounds_toArray, List.set_cons_zero, List.set_cons_succ]
      -- 2: newsreel/vector.Has
      refine bopH 2 (o := _) (by simp only [getElem?_toArray, getElem?_cons_succ, getElem?_cons_zero]; rfl) (by kernel_rfl) (by first | assumption | exact KB.refl _) (by rfl) (fun K hK => ?_)
      go_simp
      refine ((HVW.out _ hb0).1.has (by omega) r q hri).mono ?_
      rintro e w8 ⟨rfl, h8⟩
      rw [HPA.out]
      have B2 := Lib.hid (hb0.trans (h8.mono hb0.size))
      have hkb : KB W1.heap w8 := KB.of B2.out
      clear h8
      refine hK.out _ _ hkb ?_; clear hK K
      try simp only [Act.put, List.setIfInBounds_toArray, List.set_cons_zero, List.set_cons_succ]
      -- 5: newsreel/vector.Has
      refine bopH 5 (o := _) (by simp only [getElem?_toArray, getElem?_cons_succ, getElem?_cons_zero]; rfl) (by kernel_rfl) (by first | assumption | exact KB.refl _) (by rfl) (fun K hK => ?_)
      go_simp
      refine ((HVW.out _ B2.out).2.1.has (by omega) r q hri).mono ?_
      rintro e w9 ⟨rfl, h9⟩
      rw [HPB.out]
      have B5 := Lib.hid (B2.out.trans (h9.mono B2.out.size))
      have hkb : KB W1.heap w9 := KB.of B5.out
      clear h9
      refine hK.out _ _ hkb ?_; clear hK K
      try simp only [Act.put, List.setIfInBounds_toArray, List.set_cons_zero, List.set_cons_succ]
      refine btake 6 (oi := _) (v := ?_) (by simp only [getElem?_toArray, getElem?_cons_succ, getElem?_cons_zero]; rfl) (by kernel_rfl) (by exact fun _ _ _ h => h) (by first | assumption | exact KB.refl _) (.inl ⟨by rfl, fun W hW => ?_⟩) ?_; rotate_left
      · (go_simp; first | done | with_reducible rfl)
      try simp only [Act.put, List.setIfInBounds_toArray, List.set_cons_zero, List.set_cons_succ]
      refine btake 7 (oi := _) (v := ?_) (by simp only [getElem?_toArray, getElem?_cons_succ, getElem?_cons_zero]; rfl) (by kernel_rfl) (by exact fun _ _ _ h => h) (by first | assumption | exact KB.refl _) (.inl ⟨by rfl, fun W hW => ?_⟩) ?_; rotate_left
      · (go_simp; first | done | with_reducible rfl)
      try simp only [Act.put, List.setIfInBounds_toArray, List.set_cons_zero, List.set_cons_succ]
      refine bdone (by kernel_rfl) ?_
      have z9 := (HVW.out _ B5.out).2.2.2.2.1.c 0 rfl
      have y0 := (HVW.out _ B5.out).2.2.2.2.2.2.1.c 0 rfl
      have y1 := (HVW.out _ B5.out).2.2.2.2.2.2.1.c 1 rfl
      clear e7 e8 e13 e13' hb0 hkb
      cases pa <;> cases pb
      · go_wp2_with fail
        refine ((HVW.out _ B5.out).2.2.1.has (by omega) r q hri).mono ?_
        rintro e wa ⟨rfl, ha⟩
        rw [HJ.out]
        have Ba := Lib.hid (B5.out.trans (ha.mono B5.out.size))
        have z10 := (HVW.out _ Ba.out).2.2.2.2.2.1.c 0 rfl
        have x0 := (HVW.out _ Ba.out).2.2.2.2.2.2.1.c 0 rfl
        have x1 := (HVW.out _ Ba.out).2.2.2.2.2.2.1.c 1 rfl
        clear ha z9 y0 y1
        go_wp2_with fail
        refine ((HVW.out _ Ba.out).2.2.2.1.has (by omega) r q hri).mono ?_
        rintro e wb ⟨rfl, hb⟩
        rw [HM.out]
        have Bb := Lib.hid (Ba.out.trans (hb.mono Ba.out.size))
        clear hb z10 x0 x1
        go_wp2_with fail
        have hrw := (HVW.out _ Bb.out).2.2.2.2.2.2.2
        go_roundw
        case rel => exact ⟨k + 1, hlt, by go_num, hrw.1, hrw.2⟩
        case measure => simp [intOf]; omega
      · go_wp2_with fail
        refine ((HVW.out _ B5.out).2.2.1.has (by omega) r q hri).mono ?_
        rintro e wa ⟨rfl, ha⟩
        rw [HJ.out]
        have Ba := Lib.hid (B5.out.trans (ha.mono B5.out.size))
        have z10 := (HVW.out _ Ba.out).2.2.2.2.2.1.c 0 rfl
        have x0 := (HVW.out _ Ba.out).2.2.2.2.2.2.1.c 0 rfl
        have x1 := (HVW.out _ Ba.out).2.2.2.2.2.2.1.c 1 rfl
        clear ha z9 y0 y1
        go_wp2_with fail
        refine ((HVW.out _ Ba.out).2.2.2.1.has (by omega) r q hri).mono ?_
        rintro e wb ⟨rfl, hb⟩
        rw [HM.out]
        have Bb := Lib.hid (Ba.out.trans (hb.mono Ba.out.size))
        clear hb z10 x0 x1
        go_wp2_with fail
        have hrw := (HVW.out _ Bb.out).2.2.2.2.2.2.2
        go_roundw
        case rel => exact ⟨k + 1, hlt, by go_num, hrw.1, hrw.2⟩
        case measure => simp [intOf]; omega
      · go_wp2_with fail
        refine ((HVW.out _ B5.out).2.2.1.has (by omega) r q hri).mono ?_
        rintro e wa ⟨rfl, ha⟩
        rw [HJ.out]
        have Ba := Lib.hid (B5.out.trans (ha.mono B5.out.size))
        have z10 := (HVW.out _ Ba.out).2.2.2.2.2.1.c 0 rfl
        have x0 := (HVW.out _ Ba.out).2.2.2.2.2.2.1.c 0 rfl
        have x1 := (HVW.out _ Ba.out).2.2.2.2.2.2.1.c 1 rfl
        clear ha z9 y0 y1
        go_wp2_with fail
        refine ((HVW.out _ Ba.out).2.2.2.1.has (by omega) r q hri).mono ?_
        rintro e wb ⟨rfl, hb⟩
        rw [HM.out]
        have Bb := Lib.hid (Ba.out.trans (hb.mono Ba.out.size))
        clear hb z10 x0 x1
        go_wp2_with fail
        have hrw := (HVW.out _ Bb.out).2.2.2.2.2.2.2
        go_roundw
        case rel => exact ⟨k + 1, hlt, by go_num, hrw.1, hrw.2⟩
        case measure => simp [intOf]; omega
      · go_wp2_with fail
        refine ((HVW.out _ B5.out).2.2.1.has (by omega) r q hri).mono ?_
        rintro e wa ⟨rfl, ha⟩
        rw [HJ.out]
        have Ba := Lib.hid (B5.out.trans (ha.mono B5.out.size))
        have z10 := (HVW.out _ Ba.out).2.2.2.2.2.1.c 0 rfl
        have x0 := (HVW.out _ Ba.out).2.2.2.2.2.2.1.c 0 rfl
        have x1 := (HVW.out _ Ba.out).2.2.2.2.2.2.1.c 1 rfl
        clear ha z9 y0 y1
        go_wp2_with fail
        refine ((HVW.out _ Ba.out).2.2.2.1.has (by omega) r q hri).mono ?_
        rintro e wb ⟨rfl, hb⟩
        rw [HM.out]
        have Bb := Lib.hid (Ba.out.trans (hb.mono Ba.out.size))
        clear hb z10 x0 x1
        go_wp2_with fail
        have hrw := (HVW.out _ Bb.out).2.2.2.2.2.2.2
        go_roundw
        case rel => exact ⟨k + 1, hlt, by go_num, hrw.1, hrw.2⟩
        case measure => simp [intOf]; omega
    · obtain rfl : k = N := by omega
      have hd1 : decide ((k : Int) < (k : Int)) = false := by rw [decide_eq_false_iff_not]; omega
      go_wp2_with fail
      have HVW := Lib.hid (fun W (hW : Below wr.heap.size wr W) => have hz := hbel.trans (hW.mono hbel.size); And.intro (HV.out.1.below hz) (And.intro (HV.out.2.1.below hz) (And.intro (HV.out.2.2.1.below hz) (And.intro (HV.out.2.2.2.1.below hz) (HV.out.2.2.2.2.2.2.2.2.trans (hz.mono HV.out.2.2.2.2.2.2.2.2.size))))))
      have e7 := (HV.out.2.2.2.2.1.below hbel).e 0 rfl
      have e8 := (HV.out.2.2.2.2.2.1.below hbel).e 0 rfl
      have e9 := (HV.out.2.2.2.2.2.2.1.below hbel).e 0 rfl
      have e10 := (HV.out.2.2.2.2.2.2.2.1.below hbel).e 0 rfl
      have hb0 : Below wr.heap.size wr wr.drew := (Below.refl _ wr).drew
      have HC := Lib.hid (count_joinV HR.out.1 HR.out.2.1)
      have hcw : IntKind.i64.wrap (countV (minusV VA VB) + countV VB) = countV (joinV VA VB) := sets_count HR.out.1 HR.out.2.1
      have e1 := join_commV HR.out.1 HR.out.2.1
      have e2 := minus_joinV HR.out.1 HR.out.2.1
      have e3 := join_minusV HR.out.1 HR.out.2.1
      have e4 := join_idemV HR.out.1 HR.out.2.1
      have e5 := minus_selfV HR.out.1
      have HE := Lib.hid (And.intro e1 (And.intro e2 (And.intro e3 (And.intro e4 e5))))
      clear z7 z8 z9 z10 hd1 HC e1 e2 e3 e4 e5
      refine bstartH (wr.heap) (by kernel_rfl) ?_
      refine btake 0 (oi := _) (v := ?_) (by simp only [List.getElem?_toArray, List.getElem?_cons_zero]; rfl) (by kernel_rfl) (by exact fun _ _ _ h => h) (by first | assumption | exact KB.refl _) (.inl ⟨by rfl, fun W hW => ?_⟩) ?_; rotate_left
      · (go_simp; first | done | with_reducible rfl)
      try simp only [Act.put, List.setIfInBounds_toArray, List.set_cons_zero, List.set_cons_succ]
      -- 1: newsreel/vector.Right
      refine bopH 1 (o := _) (by simp only [getElem?_toArray, getElem?_cons_succ, getElem?_cons_zero]; rfl) (by kernel_rfl) (by first | assumption | exact KB.refl _) (by rfl) (fun K hK => ?_)
      go_simp
      refine ((HVW.out _ hb0).2.2.1.right (by omega)).mono ?_
      rintro e u1 ⟨rfl, h1⟩
      have B1 := Lib.hid (hb0.trans (h1.mono hb0.size))
      have hkb : KB wr.heap u1 := KB.of B1.out
      clear h1
      refine hK.out _ _ hkb ?_; clear hK K
      try simp only [Act.put, List.setIfInBounds_toArray, List.set_cons_zero, List.set_cons_succ]
      refine btake 2 (oi := _) (v := ?_) (by simp only [getElem?_toArray, getElem?_cons_succ, getElem?_cons_zero]; rfl) (by kernel_rfl) (by exact fun _ _ _ h => h) (by first | assumption | exact KB.refl _) (.inl ⟨by rfl, fun W hW => ?_⟩) ?_; rotate_left
      · (go_simp; first | done | with_reducible rfl)
      try simp only [Act.put, List.setIfInBounds_toArray, List.set_cons_zero, List.set_cons_succ]
      refine btake 3 (oi := _) (v := ?_) (by simp only [getElem?_toArray, getElem?_cons_succ, getElem?_cons_zero]; rfl) (by kernel_rfl) (by exact fun _ _ _ h => h) (by first | assumption | exact KB.refl _) (.inl ⟨by rfl, fun W hW => ?_⟩) ?_; rotate_left
      · (go_simp; first | done | with_reducible rfl)
      try simp only [Act.put, List.setIfInBounds_toArray, List.set_cons_zero, List.set_cons_succ]
      -- 4: newsreel/vector.Right
      refine bopH 4 (o := _) (by simp only [getElem?_toArray, getElem?_cons_succ, getElem?_cons_zero]; rfl) (by kernel_rfl) (by first | assumption | exact KB.refl _) (by rfl) (fun K hK => ?_)
      go_simp
      refine ((HVW.out _ B1.out).2.2.2.1.right (by omega)).mono ?_
      rintro e u4 ⟨rfl, h4⟩
      have B4 := Lib.hid (B1.out.trans (h4.mono B1.out.size))
      have hkb : KB wr.heap u4 := KB.of B4.out
      clear h4
      refine hK.out _ _ hkb ?_; clear hK K
      try simp only [Act.put, List.setIfInBounds_toArray, List.set_cons_zero, List.set_cons_succ]
      refine btake 5 (oi := _) (v := ?_) (by simp only [getElem?_toArray, getElem?_cons_succ, getElem?_cons_zero]; rfl) (by kernel_rfl) (by exact fun _ _ _ h => h) (by first | assumption | exact KB.refl _) (.inl ⟨by rfl, fun W hW => ?_⟩) ?_; rotate_left
      · (go_simp; first | done | with_reducible rfl)
      try simp only [Act.put, List.setIfInBounds_toArray, List.set_cons_zero, List.set_cons_succ]
      refine btake 6 (oi := _) (v := ?_) (by simp only [getElem?_toArray, getElem?_cons_succ, getElem?_cons_zero]; rfl) (by kernel_rfl) (by exact fun _ _ _ h => h) (by first | assumption | exact KB.refl _) (.inl ⟨by rfl, fun W hW => ?_⟩) ?_; rotate_left
      · (go_simp; first | done | with_reducible rfl)
      try simp only [Act.put, List.setIfInBounds_toArray, List.set_cons_zero, List.set_cons_succ]
      refine btake 7 (oi := _) (v := ?_) (by simp only [getElem?_toArray, getElem?_cons_succ, getElem?_cons_zero]; rfl) (by kernel_rfl) (by exact fun _ _ _ h => h) (by first | assumption | exact KB.refl _) (.inl ⟨by rfl, fun W hW => ?_⟩) ?_; rotate_left
      · (go_simp; first | done | with_reducible rfl)
      try simp only [Act.put, List.setIfInBounds_toArray, List.set_cons_zero, List.set_cons_succ]
      refine btake 9 (oi := _) (v := ?_) (by simp only [getElem?_toArray, getElem?_cons_succ, getElem?_cons_zero]; rfl) (by kernel_rfl) (by exact fun _ _ _ h => h) (by first | assumption | exact KB.refl _) (.inl ⟨by rfl, fun W hW => ?_⟩) ?_; rotate_left
      · (go_simp; first | done | with_reducible rfl)
      try simp only [Act.put, List.setIfInBounds_toArray, List.set_cons_zero, List.set_cons_succ]
      refine btake 11 (oi := _) (v := ?_) (by simp only [getElem?_toArray, getElem?_cons_succ, getElem?_cons_zero]; rfl) (by kernel_rfl) (by exact fun _ _ _ h => h) (by first | assumption | exact KB.refl _) (.inl ⟨by rfl, fun W hW => ?_⟩) ?_; rotate_left
      · (go_simp; first | done | with_reducible rfl)
      try simp only [Act.put, List.setIfInBounds_toArray, List.set_cons_zero, List.set_cons_succ]
      -- 8: newsreel/vector.Count
      refine bopH 8 (o := _) (by simp only [getElem?_toArray, getElem?_cons_succ, getElem?_cons_zero]; rfl) (by kernel_rfl) (by first | assumption | exact KB.refl _) (by rfl) (fun K hK => ?_)
      go_simp
      refine ((HVW.out _ B4.out).2.2.1.count (by omega)).mono ?_
      rintro e u8 ⟨rfl, h8⟩
      have B8 := Lib.hid (B4.out.trans (h8.mono B4.out.size))
      have hkb : KB wr.heap u8 := KB.of B8.out
      clear h8
      refine hK.out _ _ hkb ?_; clear hK K
      try simp only [Act.put, List.setIfInBounds_toArray, List.set_cons_zero, List.set_cons_succ]
      -- 10: newsreel/vector.Count
      refine bopH 10 (o := _) (by simp only [getElem?_toArray, getElem?_cons_succ, getElem?_cons_zero]; rfl) (by kernel_rfl) (by first | assumption | exact KB.refl _) (by rfl) (fun K hK => ?_)
      go_simp
      refine ((HVW.out _ B8.out).2.2.2.1.count (by omega)).mono ?_
      rintro e u10 ⟨rfl, h10⟩
      have B10 := Lib.hid (B8.out.trans (h10.mono B8.out.size))
      have hkb : KB wr.heap u10 := KB.of B10.out
      clear h10
      refine hK.out _ _ hkb ?_; clear hK K
      try simp only [Act.put, List.setIfInBounds_toArray, List.set_cons_zero, List.set_cons_succ]
      -- 12: newsreel/vector.Count
      refine bopH 12 (o := _) (by simp only [getElem?_toArray, getElem?_cons_succ, getElem?_cons_zero]; rfl) (by kernel_rfl) (by first | assumption | exact KB.refl _) (by rfl) (fun K hK => ?_)
      go_simp
      refine ((HVW.out _ B10.out).2.1.count (by omega)).mono ?_
      rintro e u12 ⟨rfl, h12⟩
      have B12 := Lib.hid (B10.out.trans (h12.mono B10.out.size))
      have hkb : KB wr.heap u12 := KB.of B12.out
      clear h12
      refine hK.out _ _ hkb ?_; clear hK K
      try simp only [Act.put, List.setIfInBounds_toArray, List.set_cons_zero, List.set_cons_succ]
      refine btake 13 (oi := _) (v := ?_) (by simp only [getElem?_toArray, getElem?_cons_succ, getElem?_cons_zero]; rfl) (by kernel_rfl) (by exact fun _ _ _ h => h) (by first | assumption | exact KB.refl _) (.inl ⟨by rfl, fun W hW => ?_⟩) ?_; rotate_left
      · (go_simp; first | done | with_reducible rfl)
      try simp only [Act.put, List.setIfInBounds_toArray, List.set_cons_zero, List.set_cons_succ]
      refine btake 14 (oi := _) (v := ?_) (by simp only [getElem?_toArray, getElem?_cons_succ, getElem?_cons_zero]; rfl) (by kernel_rfl) (by exact fun _ _ _ h => h) (by first | assumption | exact KB.refl _) (.inl ⟨by rfl, fun W hW => ?_⟩) ?_; rotate_left
      · (go_simp; first | done | with_reducible rfl)
      try simp only [Act.put, List.setIfInBounds_toArray, List.set_cons_zero, List.set_cons_succ]
      refine btake 15 (oi := _) (v := ?_) (by simp only [getElem?_toArray, getElem?_cons_succ, getElem?_cons_zero]; rfl) (by kernel_rfl) (by exact fun _ _ _ h => h) (by first | assumption | exact KB.refl _) (.inl ⟨by rfl, fun W hW => ?_⟩) ?_; rotate_left
      · (go_simp; first | done | with_reducible rfl)
      try simp only [Act.put, List.setIfInBounds_toArray, List.set_cons_zero, List.set_cons_succ]
      refine btake 16 (oi := _) (v := ?_) (by simp only [getElem?_toArray, getElem?_cons_succ, getElem?_cons_zero]; rfl) (by kernel_rfl) (by exact fun _ _ _ h => h) (by first | assumption | exact KB.refl _) (.inl ⟨by rfl, fun W hW => ?_⟩) ?_; rotate_left
      · (go_simp; first | done | with_reducible rfl)
      try simp only [Act.put, List.setIfInBounds_toArray, List.set_cons_zero, List.set_cons_succ]
      refine btake 17 (oi := _) (v := ?_) (by simp only [getElem?_toArray, getElem?_cons_succ, getElem?_cons_zero]; rfl) (by kernel_rfl) (by exact fun _ _ _ h => h) (by first | assumption | exact KB.refl _) (.inl ⟨by rfl, fun W hW => ?_⟩) ?_; rotate_left
      · (go_simp; first | done | with_reducible rfl)
      try simp only [Act.put, List.setIfInBounds_toArray, List.set_cons_zero, List.set_cons_succ]
      refine btake 18 (oi := _) (v := ?_) (by simp only [getElem?_toArray, getElem?_cons_succ, getElem?_cons_zero]; rfl) (by kernel_rfl) (by exact fun _ _ _ h => h) (by first | assumption | exact KB.refl _) (.inl ⟨by rfl, fun W hW => ?_⟩) ?_; rotate_left
      · (go_simp; first | done | with_reducible rfl)
      try simp only [Act.put, List.setIfInBounds_toArray, List.set_cons_zero, List.set_cons_succ]
      refine btake 19 (oi := _) (v := ?_) (by simp only [getElem?_toArray, getElem?_cons_succ, getElem?_cons_zero]; rfl) (by kernel_rfl) (by exact fun _ _ _ h => h) (by first | assumption | exact KB.refl _) (.inl ⟨by rfl, fun W hW => ?_⟩) ?_; rotate_left
      · (go_simp; first | done | with_reducible rfl)
      try simp only [Act.put, List.setIfInBounds_toArray, List.set_cons_zero, List.set_cons_succ]
      -- 20: newsreel/vector.Join
      refine bopH 20 (o := _) (by simp only [getElem?_toArray, getElem?_cons_succ, getElem?_cons_zero]; rfl) (by kernel_rfl) (by first | assumption | exact KB.refl _) (by rfl) (fun K hK => ?_)
      go_simp
      refine ((HVW.out _ B12.out).2.1.join (HVW.out _ B12.out).1 (by omega)).mono ?_
      rintro e u20 ⟨X20, y20, z20, rfl, v20, h20⟩
      have V20 := Lib.hid v20
      have B20 := Lib.hid (B12.out.trans (h20.mono B12.out.size))
      have hkb : KB wr.heap u20 := KB.of B20.out
      clear h20 v20
      refine hK.out _ _ hkb ?_; clear hK K
      try simp only [Act.put, List.setIfInBounds_toArray, List.set_cons_zero, List.set_cons_succ]
      -- 21: newsreel/vector.Same
      refine bopH 21 (o := _) (by simp only [getElem?_toArray, getElem?_cons_succ, getElem?_cons_zero]; rfl) (by kernel_rfl) (by first | assumption | exact KB.refl _) (by rfl) (fun K hK => ?_)
      go_simp
      refine ((HVW.out _ B20.out).2.2.1.same V20.out (by omega) (by omega) HE.out.1.symm).mono ?_
      rintro e u21 ⟨rfl, h21⟩
      have B21 := Lib.hid (B20.out.trans (h21.mono B20.out.size))
      have hkb : KB wr.heap u21 := KB.of B21.out
      clear h21
      refine hK.out _ _ hkb ?_; clear hK K
      try simp only [Act.put, List.setIfInBounds_toArray, List.set_cons_zero, List.set_cons_succ]
      refine btake 22 (oi := _) (v := ?_) (by simp only [getElem?_toArray, getElem?_cons_succ, getElem?_cons_zero]; rfl) (by kernel_rfl) (by exact fun _ _ _ h => h) (by first | assumption | exact KB.refl _) (.inl ⟨by rfl, fun W hW => ?_⟩) ?_; rotate_left
      · (go_simp; first | done | with_reducible rfl)
      try simp only [Act.put, List.setIfInBounds_toArray, List.set_cons_zero, List.set_cons_succ]
      refine btake 23 (oi := _) (v := ?_) (by simp only [getElem?_toArray, getElem?_cons_succ, getElem?_cons_zero]; rfl) (by kernel_rfl) (by exact fun _ _ _ h => h) (by first | assumption | exact KB.refl _) (.inl ⟨by rfl, fun W hW => ?_⟩) ?_; rotate_left
      · (go_simp; first | done | with_reducible rfl)
      try simp only [Act.put, List.setIfInBounds_toArray, List.set_cons_zero, List.set_cons_succ]
      refine btake 24 (oi := _) (v := ?_) (by simp only [getElem?_toArray, getElem?_cons_succ, getElem?_cons_zero]; rfl) (by kernel_rfl) (by exact fun _ _ _ h => h) (by first | assumption | exact KB.refl _) (.inl ⟨by rfl, fun W hW => ?_⟩) ?_; rotate_left
      · (go_simp; first | done | with_reducible rfl)
      try simp only [Act.put, List.setIfInBounds_toArray, List.set_cons_zero, List.set_cons_succ]
      refine btake 25 (oi := _) (v := ?_) (by simp only [getElem?_toArray, getElem?_cons_succ, getElem?_cons_zero]; rfl) (by kernel_rfl) (by exact fun _ _ _ h => h) (by first | assumption | exact KB.refl _) (.inl ⟨by rfl, fun W hW => ?_⟩) ?_; rotate_left
      · (go_simp; first | done | with_reducible rfl)
      try simp only [Act.put, List.setIfInBounds_toArray, List.set_cons_zero, List.set_cons_succ]
      refine btake 27 (oi := _) (v := ?_) (by simp only [getElem?_toArray, getElem?_cons_succ, getElem?_cons_zero]; rfl) (by kernel_rfl) (by exact fun _ _ _ h => h) (by first | assumption | exact KB.refl _) (.inl ⟨by rfl, fun W hW => ?_⟩) ?_; rotate_left
      · (go_simp; first | done | with_reducible rfl)
      try simp only [Act.put, List.setIfInBounds_toArray, List.set_cons_zero, List.set_cons_succ]
      -- 26: newsreel/vector.Join
      refine bopH 26 (o := _) (by simp only [getElem?_toArray, getElem?_cons_succ, getElem?_cons_zero]; rfl) (by kernel_rfl) (by first | assumption | exact KB.refl _) (by rfl) (fun K hK => ?_)
      go_simp
      refine ((HVW.out _ B21.out).2.2.2.1.join (HVW.out _ B21.out).2.1 (by omega)).mono ?_
      rintro e u26 ⟨X26, y26, z26, rfl, v26, h26⟩
      have V26 := Lib.hid v26
      have B26 := Lib.hid (B21.out.trans (h26.mono B21.out.size))
      have hkb : KB wr.heap u26 := KB.of B26.out
      clear h26 v26
      refine hK.out _ _ hkb ?_; clear hK K
      try simp only [Act.put, List.setIfInBounds_toArray, List.set_cons_zero, List.set_cons_succ]
      -- 28: newsreel/vector.Same
      refine bopH 28 (o := _) (by simp only [getElem?_toArray, getElem?_cons_succ, getElem?_cons_zero]; rfl) (by kernel_rfl) (by first | assumption | exact KB.refl _) (by rfl) (fun K hK => ?_)
      go_simp
      refine (V26.out.same (HVW.out _ B26.out).2.2.1 (by omega) (by omega) HE.out.2.1).mono ?_
      rintro e u28 ⟨rfl, h28⟩
      have B28 := Lib.hid (B26.out.trans (h28.mono B26.out.size))
      have hkb : KB wr.heap u28 := KB.of B28.out
      clear h28
      refine hK.out _ _ hkb ?_; clear hK K
      try simp only [Act.put, List.setIfInBounds_toArray, List.set_cons_zero, List.set_cons_succ]
      refine btake 29 (oi := _) (v := ?_) (by simp only [getElem?_toArray, getElem?_cons_succ, getElem?_cons_zero]; rfl) (by kernel_rfl) (by exact fun _ _ _ h => h) (by first | assumption | exact KB.refl _) (.inl ⟨by rfl, fun W hW => ?_⟩) ?_; rotate_left
      · (go_simp; first | done | with_reducible rfl)
      try simp only [Act.put, List.setIfInBounds_toArray, List.set_cons_zero, List.set_cons_succ]
      refine btake 30 (oi := _) (v := ?_) (by simp only [getElem?_toArray, getElem?_cons_succ, getElem?_cons_zero]; rfl) (by kernel_rfl) (by exact fun _ _ _ h => h) (by first | assumption | exact KB.refl _) (.inl ⟨by rfl, fun W hW => ?_⟩) ?_; rotate_left
      · (go_simp; first | done | with_reducible rfl)
      try simp only [Act.put, List.setIfInBounds_toArray, List.set_cons_zero, List.set_cons_succ]
      refine btake 31 (oi := _) (v := ?_) (by simp only [getElem?_toArray, getElem?_cons_succ, getElem?_cons_zero]; rfl) (by kernel_rfl) (by exact fun _ _ _ h => h) (by first | assumption | exact KB.refl _) (.inl ⟨by rfl, fun W hW => ?_⟩) ?_; rotate_left
      · (go_simp; first | done | with_reducible rfl)
      try simp only [Act.put, List.setIfInBounds_toArray, List.set_cons_zero, List.set_cons_succ]
      refine btake 32 (oi := _) (v := ?_) (by simp only [getElem?_toArray, getElem?_cons_succ, getElem?_cons_zero]; rfl) (by kernel_rfl) (by exact fun _ _ _ h => h) (by first | assumption | exact KB.refl _) (.inl ⟨by rfl, fun W hW => ?_⟩) ?_; rotate_left
      · (go_simp; first | done | with_reducible rfl)
      try simp only [Act.put, List.setIfInBounds_toArray, List.set_cons_zero, List.set_cons_succ]
      refine btake 34 (oi := _) (v := ?_) (by simp only [getElem?_toArray, getElem?_cons_succ, getElem?_cons_zero]; rfl) (by kernel_rfl) (by exact fun _ _ _ h => h) (by first | assumption | exact KB.refl _) (.inl ⟨by rfl, fun W hW => ?_⟩) ?_; rotate_left
      · (go_simp; first | done | with_reducible rfl)
      try simp only [Act.put, List.setIfInBounds_toArray, List.set_cons_zero, List.set_cons_succ]
      -- 33: newsreel/vector.Minus
      refine bopH 33 (o := _) (by simp only [getElem?_toArray, getElem?_cons_succ, getElem?_cons_zero]; rfl) (by kernel_rfl) (by first | assumption | exact KB.refl _) (by rfl) (fun K hK => ?_)
      go_simp
      refine ((HVW.out _ B28.out).2.2.1.minus (HVW.out _ B28.out).2.1 (by omega)).mono ?_
      rintro e u33 ⟨X33, y33, z33, rfl, v33, h33⟩
      have V33 := Lib.hid v33
      have B33 := Lib.hid (B28.out.trans (h33.mono B28.out.size))
      have hkb : KB wr.heap u33 := KB.of B33.out
      clear h33 v33
      refine hK.out _ _ hkb ?_; clear hK K
      try simp only [Act.put, List.setIfInBounds_toArray, List.set_cons_zero, List.set_cons_succ]
      -- 35: newsreel/vector.Same
      refine bopH 35 (o := _) (by simp only [getElem?_toArray, getElem?_cons_succ, getElem?_cons_zero]; rfl) (by kernel_rfl) (by first | assumption | exact KB.refl _) (by rfl) (fun K hK => ?_)
      go_simp
      refine (V33.out.same (HVW.out _ B33.out).2.2.2.1 (by omega) (by omega) HE.out.2.2.1).mono ?_
      rintro e u35 ⟨rfl, h35⟩
      have B35 := Lib.hid (B33.out.trans (h35.mono B33.out.size))
      have hkb : KB wr.heap u35 := KB.of B35.out
      clear h35
      refine hK.out _ _ hkb ?_; clear hK K
      try simp only [Act.put, List.setIfInBounds_toArray, List.set_cons_zero, List.set_cons_succ]
      refine btake 36 (oi := _) (v := ?_) (by simp only [getElem?_toArray, getElem?_cons_succ, getElem?_cons_zero]; rfl) (by kernel_rfl) (by exact fun _ _ _ h => h) (by first | assumption | exact KB.refl _) (.inl ⟨by rfl, fun W hW => ?_⟩) ?_; rotate_left
      · (go_simp; first | done | with_reducible rfl)
      try simp only [Act.put, List.setIfInBounds_toArray, List.set_cons_zero, List.set_cons_succ]
      refine btake 37 (oi := _) (v := ?_) (by simp only [getElem?_toArray, getElem?_cons_succ, getElem?_cons_zero]; rfl) (by kernel_rfl) (by exact fun _ _ _ h => h) (by first | assumption | exact KB.refl _) (.inl ⟨by rfl, fun W hW => ?_⟩) ?_; rotate_left
      · (go_simp; first | done | with_reducible rfl)
      try simp only [Act.put, List.setIfInBounds_toArray, List.set_cons_zero, List.set_cons_succ]
      refine btake 38 (oi := _) (v := ?_) (by simp only [getElem?_toArray, getElem?_cons_succ, getElem?_cons_zero]; rfl) (by kernel_rfl) (by exact fun _ _ _ h => h) (by first | assumption | exact KB.refl _) (.inl ⟨by rfl, fun W hW => ?_⟩) ?_; rotate_left
      · (go_simp; first | done | with_reducible rfl)
      try simp only [Act.put, List.setIfInBounds_toArray, List.set_cons_zero, List.set_cons_succ]
      refine btake 39 (oi := _) (v := ?_) (by simp only [getElem?_toArray, getElem?_cons_succ, getElem?_cons_zero]; rfl) (by kernel_rfl) (by exact fun _ _ _ h => h) (by first | assumption | exact KB.refl _) (.inl ⟨by rfl, fun W hW => ?_⟩) ?_; rotate_left
      · (go_simp; first | done | with_reducible rfl)
      try simp only [Act.put, List.setIfInBounds_toArray, List.set_cons_zero, List.set_cons_succ]
      refine btake 41 (oi := _) (v := ?_) (by simp only [getElem?_toArray, getElem?_cons_succ, getElem?_cons_zero]; rfl) (by kernel_rfl) (by exact fun _ _ _ h => h) (by first | assumption | exact KB.refl _) (.inl ⟨by rfl, fun W hW => ?_⟩) ?_; rotate_left
      · (go_simp; first | done | with_reducible rfl)
      try simp only [Act.put, List.setIfInBounds_toArray, List.set_cons_zero, List.set_cons_succ]
      -- 40: newsreel/vector.Join
      refine bopH 40 (o := _) (by simp only [getElem?_toArray, getElem?_cons_succ, getElem?_cons_zero]; rfl) (by kernel_rfl) (by first | assumption | exact KB.refl _) (by rfl) (fun K hK => ?_)
      go_simp
      refine ((HVW.out _ B35.out).2.2.1.join (HVW.out _ B35.out).1 (by omega)).mono ?_
      rintro e u40 ⟨X40, y40, z40, rfl, v40, h40⟩
      have V40 := Lib.hid v40
      have B40 := Lib.hid (B35.out.trans (h40.mono B35.out.size))
      have hkb : KB wr.heap u40 := KB.of B40.out
      clear h40 v40
      refine hK.out _ _ hkb ?_; clear hK K
      try simp only [Act.put, List.setIfInBounds_toArray, List.set_cons_zero, List.set_cons_succ]
      -- 42: newsreel/vector.Same
      refine bopH 42 (o := _) (by simp only [getElem?_toArray, getElem?_cons_succ, getElem?_cons_zero]; rfl) (by kernel_rfl) (by first | assumption | exact KB.refl _) (by rfl) (fun K hK => ?_)
      go_simp
      refine (V40.out.same (HVW.out _ B40.out).2.2.1 (by omega) (by omega) HE.out.2.2.2.1).mono ?_
      rintro e u42 ⟨rfl, h42⟩
      have B42 := Lib.hid (B40.out.trans (h42.mono B40.out.size))
      have hkb : KB wr.heap u42 := KB.of B42.out
      clear h42
      refine hK.out _ _ hkb ?_; clear hK K
      try simp only [Act.put, List.setIfInBounds_toArray, List.set_cons_zero, List.set_cons_succ]
      refine btake 43 (oi := _) (v := ?_) (by simp only [getElem?_toArray, getElem?_cons_succ, getElem?_cons_zero]; rfl) (by kernel_rfl) (by exact fun _ _ _ h => h) (by first | assumption | exact KB.refl _) (.inl ⟨by rfl, fun W hW => ?_⟩) ?_; rotate_left
      · (go_simp; first | done | with_reducible rfl)
      try simp only [Act.put, List.setIfInBounds_toArray, List.set_cons_zero, List.set_cons_succ]
      refine btake 44 (oi := _) (v := ?_) (by simp only [getElem?_toArray, getElem?_cons_succ, getElem?_cons_zero]; rfl) (by kernel_rfl) (by exact fun _ _ _ h => h) (by first | assumption | exact KB.refl _) (.inl ⟨by rfl, fun W hW => ?_⟩) ?_; rotate_left
      · (go_simp; first | done | with_reducible rfl)
      try simp only [Act.put, List.setIfInBounds_toArray, List.set_cons_zero, List.set_cons_succ]
      refine btake 45 (oi := _) (v := ?_) (by simp only [getElem?_toArray, getElem?_cons_succ, getElem?_cons_zero]; rfl) (by kernel_rfl) (by exact fun _ _ _ h => h) (by first | assumption | exact KB.refl _) (.inl ⟨by rfl, fun W hW => ?_⟩) ?_; rotate_left
      · (go_simp; first | done | with_reducible rfl)
      try simp only [Act.put, List.setIfInBounds_toArray, List.set_cons_zero, List.set_cons_succ]
      refine btake 46 (oi := _) (v := ?_) (by simp only [getElem?_toArray, getElem?_cons_succ, getElem?_cons_zero]; rfl) (by kernel_rfl) (by exact fun _ _ _ h => h) (by first | assumption | exact KB.refl _) (.inl ⟨by rfl, fun W hW => ?_⟩) ?_; rotate_left
      · (go_simp; first | done | with_reducible rfl)
      try simp only [Act.put, List.setIfInBounds_toArray, List.set_cons_zero, List.set_cons_succ]
      -- 47: newsreel/vector.Minus
      refine bopH 47 (o := _) (by simp only [getElem?_toArray, getElem?_cons_succ, getElem?_cons_zero]; rfl) (by kernel_rfl) (by first | assumption | exact KB.refl _) (by rfl) (fun K hK => ?_)
      go_simp
      refine ((HVW.out _ B42.out).1.minus (HVW.out _ B42.out).1 (by omega)).mono ?_
      rintro e u47 ⟨X47, y47, z47, rfl, v47, h47⟩
      have V47 := Lib.hid v47
      have B47 := Lib.hid (B42.out.trans (h47.mono B42.out.size))
      have hkb : KB wr.heap u47 := KB.of B47.out
      clear h47 v47
      have hy : y47 = 0 := by rw [← V47.out.len, HE.out.2.2.2.2]; rfl
      subst hy
      have hfl := fldV X47 0 z47
      refine hK.out _ _ hkb ?_; clear hK K
      try simp only [Act.put, List.setIfInBounds_toArray, List.set_cons_zero, List.set_cons_succ]
      refine btake 48 (oi := _) (v := ?_) (by simp only [getElem?_toArray, getElem?_cons_succ, getElem?_cons_zero]; rfl) (by kernel_rfl) (by exact fun _ _ _ h => h) (by first | assumption | exact KB.refl _) (.inl ⟨by rfl, fun W hW => ?_⟩) ?_; rotate_left
      · (go_simp; first | done | with_reducible rfl)
      try simp only [Act.put, List.setIfInBounds_toArray, List.set_cons_zero, List.set_cons_succ]
      refine btake 49 (oi := _) (v := ?_) (by simp only [getElem?_toArray, getElem?_cons_succ, getElem?_cons_zero]; rfl) (by kernel_rfl) (by exact fun _ _ _ h => h) (by first | assumption | exact KB.refl _) (.inl ⟨by rfl, fun W hW => ?_⟩) ?_; rotate_left
      · (go_simp; first | done | with_reducible rfl)
      try simp only [Act.put, List.setIfInBounds_toArray, List.set_cons_zero, List.set_cons_succ]
      refine btake 50 (oi := _) (v := ?_) (by simp only [getElem?_toArray, getElem?_cons_succ, getElem?_cons_zero]; rfl) (by kernel_rfl) (by exact fun _ _ _ h => h) (by first | assumption | exact KB.refl _) (.inl ⟨by rfl, fun W hW => ?_⟩) ?_; rotate_left
      · (go_simp; first | done | with_reducible rfl)
      try simp only [Act.put, List.setIfInBounds_toArray, List.set_cons_zero, List.set_cons_succ]
      refine btake 51 (oi := _) (v := ?_) (by simp only [getElem?_toArray, getElem?_cons_succ, getElem?_cons_zero]; rfl) (by kernel_rfl) (by exact fun _ _ _ h => h) (by first | assumption | exact KB.refl _) (.inl ⟨by rfl, fun W hW => ?_⟩) ?_; rotate_left
      · (go_simp; first | done | with_reducible rfl)
      try simp only [Act.put, List.setIfInBounds_toArray, List.set_cons_zero, List.set_cons_succ]
      refine btake 52 (oi := _) (v := ?_) (by simp only [getElem?_toArray, getElem?_cons_succ, getElem?_cons_zero]; rfl) (by kernel_rfl) (by exact fun _ _ _ h => h) (by first | assumption | exact KB.refl _) (.inl ⟨by rfl, fun W hW => ?_⟩) ?_; rotate_left
      · (go_simp; first | done | with_reducible rfl)
      try simp only [Act.put, List.setIfInBounds_toArray, List.set_cons_zero, List.set_cons_succ]
      refine bdone (by kernel_rfl) ?_
      have hbz := (HVW.out _ B47.out).2.2.2.2
      go_wp2_with fail
      go_ret
      exact ⟨rfl, hbz⟩
end Go.Proofs.Ytaflikgdlkaefaa
/- 'VectorSets': whatever comes in, the law returns true and leaves it as it was. No condition. -/
namespace Go.Proofs.Ytaflikgdlkaefaa.vectorSets
open Go.RowKit

theorem walk {H : Type} {enc : TypeId × Value → H} (W : World) (args : Array Value) (ds : List (DataW H)) (p : List MemPlace) (h : Args enc Try.f3 W args ds p) :
    Calls Try.prog 3 args W fun e W' => e = .returned (.bool true) ∧ Below W.heap.size W W' := by
  obtain ⟨base, vs, rfl, m0⟩ := h.many (ts := [22, 22, 23]) (by rw [Try.params3])
  obtain ⟨v0, vs1, d0, ds1, p0, q0, rfl, rfl, o0, m1⟩ := m0.cons
  obtain ⟨v1, vs2, d1, ds2, p1, q1, rfl, rfl, o1, m2⟩ := m1.cons
  obtain ⟨v2, vs3, d2, ds3, p2, q2, rfl, rfl, o2, m3⟩ := m2.cons
  obtain ⟨rfl, rfl⟩ := m3.nil
  obtain ⟨A0, c0, l0, rfl, h0a, h0b, h0c, h0e, h0d⟩ := o0.u16s
  obtain ⟨A1, c1, l1, rfl, h1a, h1b, h1c, h1e, h1d⟩ := o1.u16s
  obtain ⟨n2, rfl, h2a⟩ := o2.u16 Try.underlying23
  exact VectorSets_walk W A0 c0 l0 h0a h0e A1 c1 l1 h1a h1e n2 h2a

theorem types : ∀ t ∈ Try.f3.params.toList, Try.prog.readableRec t = true ∧ t < Try.prog.types.size := by
  rw [Try.params3]
  intro t ht
  simp only [List.mem_cons, List.not_mem_nil, or_false] at ht
  rcases ht with rfl | rfl | rfl
  all_goals exact ⟨by kernel_rfl, of_decide_eq_true (by kernel_rfl)⟩
theorem fits (H : Type) (ds : List (DataW H)) (hl : ds.length = Try.f3.params.toList.length) : Rows.vectorSetsSpec.fn H (ds ++ []) = { results := [.lit (.bool true)], args := ds } := by
  rw [Try.params3] at hl
  match ds, hl with
  | [d0, d1, d2], _ => rfl

set_option maxRecDepth 100000 in
theorem over : Rows.vectorSetsRow.holds Try.pinned (OpenSpec.ofChange Rows.vectorSetsSpec) :=
  OpenClaim.holds_of_wide 3 Try.f3 rfl rfl rfl rfl rfl rfl rfl ⟨rfl, rfl, rfl, rfl, rfl⟩ rfl rfl rfl rfl rfl (by kernel_rfl) Try.func3 (by kernel_rfl)
    (of_decide_eq_true (by kernel_rfl)) (by unfold Func.isWrapper; first | (rw [if_pos (by decide +kernel)]; kernel_rfl) | (rw [if_neg (by decide +kernel)]; exact ⟨rfl, rfl⟩))
    (fun os started H enc _ => lifted 3 Try.f3 Rows.vectorSetsSpec Try.func3 (by kernel_rfl) rfl rfl types fits os started H enc
      (ChangeSpec.witness6 (enc := enc) (C := Try.checked) false ⟨#[], #[.slice none 0 0, .slice none 0 0, .int .u16 0], []⟩ 8 (by kernel_rfl) (by kernel_rfl) (by kernel_rfl) (by kernel_rfl))
      (fun W args ds p h => walk W args ds p h))

theorem proved : Rows.VectorSetsSaid := over
end Go.Proofs.Ytaflikgdlkaefaa.vectorSets
