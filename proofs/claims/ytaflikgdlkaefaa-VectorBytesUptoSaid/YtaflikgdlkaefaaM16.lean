/- Vectors: vector.Take. -/
import Derived.RangeFuncBox
import Derived.Test.YtaflikgdlkaefaaM02
import Derived.Test.YtaflikgdlkaefaaM03
import Derived.Test.YtaflikgdlkaefaaM05
import Derived.Test.YtaflikgdlkaefaaM10
import Derived.Test.YtaflikgdlkaefaaM11
import Derived.Test.YtaflikgdlkaefaaM12
import Derived.Test.YtaflikgdlkaefaaM13
import Derived.Test.YtaflikgdlkaefaaM14
import Derived.Test.YtaflikgdlkaefaaM15
open List (getElem?_toArray getElem?_cons_succ getElem?_cons_zero)
namespace Go.Proofs.Ytaflikgdlkaefaa
open Go.RowKit Go.Proofs.Ytaflikgdlkaefaa.Pl Go.Proofs.Ytaflikgdlkaefaa.Sp Go.Proofs.Ytaflikgdlkaefaa.Ve
set_option maxRecDepth 20000

theorem takeV_head {b : List UInt8} {n k1 e1 e2 : Nat} (h1 : numR b 0 0 = (n, k1, e1)) (h2 : askE (decide (n ≤ 64)) e1 = e2) : (e2 ≠ 0 → (takeV b).2.2 = e2) ∧ (e2 = 0 → n ≤ 64 ∧ takeV b = goT b n [] (-1) k1) := by
  unfold numR at h1
  rw [if_pos rfl, List.drop_zero] at h1
  simp only [Prod.mk.injEq, Nat.zero_add] at h1
  obtain ⟨rfl, rfl, rfl⟩ := h1
  unfold takeV
  by_cases h : (takeS b).2.2 = 0
  · rw [h, if_neg (by simp)]
    rw [h] at h2
    by_cases hn : (takeS b).1 ≤ 64
    · rw [decide_eq_true hn, askE_t] at h2
      rw [if_neg (by omega)]
      exact ⟨fun h0 => by omega, fun _ => ⟨hn, rfl⟩⟩
    · rw [decide_eq_false hn, askE_f, if_pos rfl] at h2
      rw [if_pos (by omega)]
      exact ⟨fun _ => h2, fun h0 => by omega⟩
  · have e : e2 = (takeS b).2.2 := by
      rw [← h2]
      unfold askE erS
      rw [if_neg h]
      split <;> rfl
    rw [if_pos h, e]
    exact ⟨fun _ => rfl, fun h0 => absurd h0 h⟩
theorem results_take {w : World} {fn : Func} (h : fn.results = #[.cell 2 27, .tmp 3, .tmp 4]) (tmps : Array Value) {g : Nat} {v x y : Value} (hx : tmps.getD 2 undef = .pointer (some ⟨g, 0, none⟩)) (h3 : tmps.getD 3 undef = x) (h4 : tmps.getD 4 undef = y) (hA : At w g [v]) :
    (results fn tmps).run Try.prog w = .ok (.tuple #[.agg #[v], x, y]) w := by
  have hl := run_loadCells_list (P := Try.prog) w ⟨g, 0, none⟩ [v] (fun j u hu => by rw [addN]; exact hA.c j hu)
  have hx' : tmps[2]?.getD undef = .pointer (some ⟨g, 0, none⟩) := by simpa using hx
  have h3' : tmps[3]?.getD undef = x := by simpa using h3
  have h4' : tmps[4]?.getD undef = y := by simpa using h4
  have hl' : (loadCells ⟨g, 0, none⟩ 1 : Sem (Array Value)).run Try.prog w = .ok #[v] w := hl
  simp [results, h, hx', h3', h4', asAddr, loadVar, hl']
/-- what Take answers -/
def TakeVPost (w : World) (T : VL × Nat × Nat) (e : Ending) (w' : World) : Prop :=
  ∃ A n c R, e = .returned (.tuple #[.agg #[.slice A n c], .int .i64 (T.2.1 : Int), .int .i64 (T.2.2 : Int)]) ∧ VS w' A n c R T.1 ∧ Below w.heap.size w w'
/-- what Take's loop holds -/
def TakeInv (w : World) (g B : Nat) (A : Option Addr) (c : Nat) (b : List UInt8) (T : VL × Nat × Nat) (n gr gv e2 : Nat) (x7 x9 : Value) (wr : World) : Prop :=
  ∃ (i k' e' : Nat) (last : Int) (R : List RA) (v : Value), i ≤ n ∧ x7 = .int .i64 last ∧ x9 = .int .u64 (i : Int) ∧ CuS wr g B A c b k' e' ∧ Below w.heap.size w wr ∧ At wr gr [.slice none 0 0] ∧ At wr gv [v] ∧ VOwn wr (gv + 1) v R ∧ R.length = i ∧
    (e' = 0 → e2 = 0 ∧ goT b (n - i) (R.map RA.p) last k' = T) ∧ (e' ≠ 0 → T.2.2 = e')
theorem below_g {w w1 w2 : World} {g : Nat} (h : Below w.heap.size w w1) (hg : w1.grownBy w2 (some g)) (hlt : w.heap.size ≤ g) : Below w.heap.size w w2 := h.grown hg h.size (fun j e => by have := Option.some.inj e; omega)
set_option maxRecDepth 100000 in
set_option maxHeartbeats 12800000 in
theorem VTake_any (w : World) (A : Option Addr) (n0 c : Nat) (b : List UInt8) (hb : Sl w w.heap.size A (bv b)) (h0 : n0 = b.length) (hc : n0 ≤ c) (hcm : c ≤ maxLen) (hbl : n0 ≤ 100000000) :
    Calls Try.prog 21 #[.slice A n0 c] w (TakeVPost w (takeV b)) := by
  subst h0
  obtain ⟨⟨n, k1, e1⟩, hN⟩ : ∃ r, numR b 0 0 = r := ⟨_, rfl⟩
  obtain ⟨P, hP⟩ : ∃ P, decide (n ≤ 64) = P := ⟨_, rfl⟩
  obtain ⟨e2, he2⟩ : ∃ e, askE P e1 = e := ⟨_, rfl⟩
  have hH := takeV_head (e2 := e2) hN (by rw [hP]; exact he2)
  obtain ⟨T, hT⟩ : ∃ T, takeV b = T := ⟨_, rfl⟩
  have hbad : T.2.2 ≠ 0 → T.1 = [] ∧ T.2.1 = 0 := fun h => by
    rw [← hT] at h ⊢
    rw [takeV_bad h]
    exact ⟨rfl, rfl⟩
  rw [hT] at hH ⊢
  have hn64 : n < 18446744073709551616 := by have := numR_lt b 0 0; rw [hN] at this; exact this
  have hd64 : decide ((n : Int) ≤ 64) = P := by
    rw [← hP]
    by_cases q : n ≤ 64
    · rw [decide_eq_true q, decide_eq_true_eq]; omega
    · rw [decide_eq_false q, decide_eq_false_iff_not]; omega
  have hw0 : Below w.heap.size w (w.alloc (.cells #[.slice none 0 0] 27)) := balloc (Below.refl _ _) _
  have a0 : At (w.alloc (.cells #[.slice none 0 0] 27)) w.heap.size [.slice none 0 0] := At.new w 27 #[.slice none 0 0]
  have HNEW := Lib.hid (CNew_any (w.alloc (.cells #[.slice none 0 0] 27)) A c b ((hb.below hw0).more hw0.size) hc hcm)
  have HN := Lib.hid (fun W g B (hW : CuS W g B A c b 0 0) => CNumber_lit hW hN)
  have HA := Lib.hid (fun W g B (hW : CuS W g B A c b k1 e1) => CAsk_lit hW he2)
  have HH := Lib.hid (And.intro hH (And.intro hbad hbl))
  have HW0 := Lib.hid (And.intro hw0 a0)
  clear hN hP he2 hH hT hbad hb hc hcm hbl hw0 a0
  go_enter Try.func21, Try.ntmps21
  go_wp2_with fail
  refine HNEW.out.mono ?_
  rintro r w1 ⟨rfl, h1, hb1⟩
  have hsz : (w.alloc (.cells #[.slice none 0 0] 27)).heap.size = w.heap.size + 1 := by simp
  rw [hsz] at h1
  have HNN := Lib.hid (HN.out _ _ _ h1)
  have HQ1 := Lib.hid (And.intro (HW0.out.2.below hb1) (HW0.out.1.trans (hb1.mono (by omega))))
  clear h1 hb1 HN HNEW HW0
  go_wp2_with fail
  refine HNN.out.mono ?_
  rintro r w2 ⟨rfl, h2, g2⟩
  have HAA := Lib.hid (HA.out _ _ _ h2)
  have HQ2 := Lib.hid (And.intro (HQ1.out.1.grown g2 (fun e => by have := Option.some.inj e; omega)) (below_g HQ1.out.2 g2 (by omega)))
  clear h2 g2 HNN HA HQ1
  go_wp2_with fail
  refine HAA.out.mono ?_
  rintro r w3 ⟨rfl, h3, g3⟩
  have hA3 := HQ2.out.1.grown g3 (fun e => by have := Option.some.inj e; omega)
  have hB3 := below_g HQ2.out.2 g3 (by omega)
  have hb4 : Below w3.heap.size w3 (w3.alloc (.cells #[.slice none 0 0] 27)) := balloc (Below.refl _ _) _
  have a4 : At (w3.alloc (.cells #[.slice none 0 0] 27)) w3.heap.size [.slice none 0 0] := At.new w3 27 #[.slice none 0 0]
  have hsz4 : (w3.alloc (.cells #[.slice none 0 0] 27)).heap.size = w3.heap.size + 1 := by simp
  have hgv : w.heap.size + 1 < w3.heap.size := h3.at_.lt
  have HQ4 := Lib.hid (And.intro (h3.below hb4) (And.intro (hB3.trans (hb4.mono hB3.size)) (And.intro (hA3.below hb4) a4)))
  clear h3 g3 hA3 hB3 hb4 a4 HAA HQ2
  go_wp2_with fail
  go_loopw [7, 9] (fun x7 x9 wr => TakeInv w (w.heap.size + 1) (w.heap.size + 1) A c b T n w.heap.size w3.heap.size e2 x7 x9 wr) (fun _ x9 _ => n - (intOf x9).toNat)
  case atStart =>
    refine ⟨0, k1, e2, -1, [], _, by omega, rfl, rfl, HQ4.out.1, HQ4.out.2.1, HQ4.out.2.2.1, HQ4.out.2.2.2, VOwn.nil _ _, rfl, fun h0 => ⟨h0, ?_⟩, HH.out.1.1⟩
    rw [(HH.out.1.2 h0).2, Nat.sub_zero]
    rfl
  case round =>
    obtain ⟨i, k', e', last, R, v, hi, rfl, rfl, hC, hB, hr, hv, hO, hRl, hz, hnz⟩ := hrel
    by_cases hlt : i < n
    · have hd1 : decide ((i : Int) < (n : Int)) = true := by rw [decide_eq_true_eq]; omega
      by_cases he : e' = 0
      · subst he
        obtain ⟨z1, z2⟩ := hz rfl
        have hn : n ≤ 64 := (HH.out.1.2 z1).1
        obtain ⟨m, hm⟩ : ∃ m, n - i = m + 1 := ⟨n - i - 1, by omega⟩
        rw [hm, goT_row] at z2
        have HE1 := Lib.hid (CErr_any hC)
        have HR := Lib.hid (VRow_any hC.drew HH.out.2.2 last)
        have hwi : IntKind.u64.wrap ((i : Int) + 1) = (i : Int) + 1 := by rw [IntKind.wrap_u64]; omega
        have HZ := Lib.hid (And.intro hC (And.intro hB (And.intro hr (And.intro hv (And.intro hO (And.intro z2 (And.intro hm hRl)))))))
        have e1' : ∀ W, AtS w3.heap.size [v] W → W.cell? ⟨w3.heap.size, 0, none⟩ = some v := fun W h => h.c 0 rfl
        have hS0 : AtS w3.heap.size [v] wr.drew := hv.drew
        clear hC hB hr hv hO z2 hm hz hnz hRl
        go_wp2_with fail
        refine HE1.out.mono ?_
        rintro r wz ⟨rfl, rfl⟩
        go_wp2_with fail
        refine bstartE (AtS w3.heap.size [v]) 8 (by kernel_rfl) ?_
        refine btakeE 0 [] (oi := _) (v := ?_) (by simp only [getElem?_toArray, getElem?_cons_zero]; rfl) (by kernel_rfl) (by exact fun _ _ _ h => h) (by first | assumption | exact KB.refl _) (.inl ⟨by rfl, fun W hW => ?_⟩) ?_; rotate_left
        · (go_simp; first | done | with_reducible rfl)
        try simp only [Act.put, List.setIfInBounds_toArray, List.set_cons_zero, List.set_cons_succ]
        refine btakeE 1 [] (oi := _) (v := ?_) (by simp only [getElem?_toArray, getElem?_cons_succ, getElem?_cons_zero]; rfl) (by kernel_rfl) (by exact fun _ _ _ h => h) (by first | assumption | exact KB.refl _) (.inl ⟨by rfl, fun W hW => ?_⟩) ?_; rotate_left
        · (go_simp; first | done | with_reducible rfl)
        try simp only [Act.put, List.setIfInBounds_toArray, List.set_cons_zero, List.set_cons_succ]
        refine btakeE 2 [] (oi := _) (v := ?_) (by simp only [getElem?_toArray, getElem?_cons_succ, getElem?_cons_zero]; rfl) (by kernel_rfl) (by exact fun _ _ _ h => h) (by first | assumption | exact KB.refl _) (.inl ⟨by rfl, fun W hW => ?_⟩) ?_; rotate_left
        · (go_simp; first | done | with_reducible rfl)
        try simp only [Act.put, List.setIfInBounds_toArray, List.set_cons_zero, List.set_cons_succ]
        refine btakeE 3 [] (oi := _) (v := ?_) (by simp only [getElem?_toArray, getElem?_cons_succ, getElem?_cons_zero]; rfl) (by kernel_rfl) (by exact fun _ _ _ h => h) (by first | assumption | exact KB.refl _) (.inl ⟨by rfl, fun W hW => ?_⟩) ?_; rotate_left
        · (go_simp; first | done | with_reducible rfl)
        try simp only [Act.put, List.setIfInBounds_toArray, List.set_cons_zero, List.set_cons_succ]
        -- 4: newsreel/vector.row
        refine bopE 4 (o := _) (by simp only [getElem?_toArray, getElem?_cons_succ, getElem?_cons_zero]; rfl) (by kernel_rfl) (by rfl) (fun K hK => ?_)
        go_simp
        refine HR.out.mono ?_
        rintro r w5 ⟨q, k2, rfl, hC5, hg5, hq5, hap, hE⟩
        have hg5' : wr.grownBy w5 (some (w.heap.size + 1)) := grownT (grownB (Below.refl wr.heap.size wr).drew) hg5
        have hO5 := HZ.out.2.2.2.2.1.kept hg5' (by omega)
        have hv5 := HZ.out.2.2.2.1.grown hg5' (fun e => by have := Option.some.inj e; omega)
        have hr5 := HZ.out.2.2.1.grown hg5' (fun e => by have := Option.some.inj e; omega)
        have hB5 := below_g HZ.out.2.1 hg5' (by omega)
        have hkb : AtS w3.heap.size [v] w5 := hv5
        have hvs : w3.heap.size < wr.heap.size := HZ.out.2.2.2.1.lt
        have hw5s : wr.heap.size ≤ w5.heap.size := hg5'.size
        have H5 := Lib.hid (And.intro hC5 (And.intro hO5 (And.intro hr5 (And.intro hB5 (And.intro hq5 (And.intro hap hE))))))
        clear hC5 hO5 hr5 hB5 hq5 hap hE hg5 hg5' hv5
        refine hK.out _ _ hkb ?_; clear hK K
        try simp only [Act.put, List.setIfInBounds_toArray, List.set_cons_zero, List.set_cons_succ]
        -- 5: Op.buildSlice 25 1 #[(0, Operand.tmp 32)]
        refine bopE 5 (o := _) (by simp only [getElem?_toArray, getElem?_cons_succ, getElem?_cons_zero]; rfl) (by kernel_rfl) (by rfl) (fun K hK => ?_)
        refine wpVal (EV.ex_bs1 (by rfl) q (by rfl)) ?_
        have hb6 := balloc (Below.refl w5.heap.size w5) (.cells (EV.cells q).toArray 61)
        have hol := EV.own1 w5 q
        have hkb6 : AtS w3.heap.size [v] (w5.alloc (.cells (EV.cells q).toArray 61)) := hkb.below hb6
        have H6 := Lib.hid (And.intro hb6 hol)
        clear hb6 hol hkb
        have hkb := hkb6
        refine hK.out _ _ hkb ?_; clear hK K
        try simp only [Act.put, List.setIfInBounds_toArray, List.set_cons_zero, List.set_cons_succ]
        -- 6: Op.call { callee := Callee.builtin Builtin.append, args := #[Operand.tmp 29, Operand.tmp 33], argTypes := #[25, 25] }
        refine bopE 6 (o := _) (by simp only [getElem?_toArray, getElem?_cons_succ, getElem?_cons_zero]; rfl) (by kernel_rfl) (by rfl) (fun K hK => ?_)
        have hO6 := H5.out.2.1.below H6.out.1
        have hlen : R.length + 1 ≤ 1000 := by have := HZ.out.2.2.2.2.2.2.2; omega
        refine wp_appE rfl hO6.own (ET.Own.row (c := 1) H6.out.2).sl rfl rfl rfl (by simp; omega) (by have := H6.out.1.size; omega) ?_
        intro v7 w7 hown7 hg7 hat7
        obtain ⟨A7, c7, e7, _, _, _, _⟩ := hown7.form
        have hgr : ∀ r, v.ownBlock = some r → w3.heap.size + 1 ≤ r := fun r e => (hO6.own.lt' r e).1
        have hO7 := hO6.app (q := q) (H5.out.2.2.2.2.1.below H6.out.1) (fun hl b1 o1 s1 e => by
          have x1 := H5.out.2.2.2.2.2.1 _ e
          have x2 : wr.heap.size ≤ b1 := x1
          refine ⟨by omega, fun e' => ?_⟩
          have x3 := (HZ.out.2.2.2.2.1.own.lt' b1 e').2
          omega) hown7 hg7 hat7
        have hkb7 : AtS w3.heap.size [v] w7 := (show At _ _ _ from hkb).grown hg7 (fun e => by have := hgr _ e; omega)
        have hC7 := (H5.out.1.below H6.out.1).grown hg7 (fun r e => by have := hgr r e; omega)
        have hr7 := (H5.out.2.2.1.below H6.out.1).grown hg7 (fun e => by have := hgr _ e; omega)
        have hB7 : Below w.heap.size w w7 := (H5.out.2.2.2.1.trans (H6.out.1.mono H5.out.2.2.2.1.size)).grown hg7 (by have := H5.out.2.2.2.1.size; have := H6.out.1.size; omega) (fun r e => by have := hgr r e; omega)
        have zc := (show At _ _ _ from hkb7).c 0 rfl
        have zf := (show At _ _ _ from hkb7).f 0 rfl
        obtain ⟨n7, hn7⟩ : ∃ n7, (R ++ [q]).length = n7 := ⟨_, rfl⟩
        rw [hn7] at e7
        have hn7' : n7 = i + 1 := by rw [← hn7, List.length_append, List.length_singleton, HZ.out.2.2.2.2.2.2.2]
        subst e7
        subst hn7'
        clear hkb
        have hkb := hkb7
        have H7 := Lib.hid (And.intro hO7 (And.intro hC7 (And.intro hr7 (And.intro hB7 (And.intro hkb7 hn7)))))
        clear hO7 hC7 hr7 hB7 hkb7 hO6 hown7 hg7 hat7 hgr hn7
        refine hK.out _ _ hkb ?_; clear hK K
        try simp only [Act.put, List.setIfInBounds_toArray, List.set_cons_zero, List.set_cons_succ]
        refine btakeE 7 [] (oi := _) (v := ?_) (by simp only [getElem?_toArray, getElem?_cons_succ, getElem?_cons_zero]; rfl) (by kernel_rfl) (by exact fun _ _ _ h => h) (by first | assumption | exact KB.refl _) (.inl ⟨by rfl, fun W hW => ?_⟩) ?_; rotate_left
        · (go_simp; first | done | with_reducible rfl)
        try simp only [Act.put, List.setIfInBounds_toArray, List.set_cons_zero, List.set_cons_succ]
        -- 8: Op.store 25 (Operand.tmp 35) (Operand.tmp 34)
        refine blastE 8 (o := _) (by simp only [getElem?_toArray, getElem?_cons_succ, getElem?_cons_zero]; rfl) (by kernel_rfl) (by rfl) (by rfl) (fun K hK => ?_)
        go_simp
        skip
        refine hK.out _ _ ?_; clear hK K
        try simp only [Act.put, List.setIfInBounds_toArray, List.set_cons_zero, List.set_cons_succ]
        refine bdoneE (by kernel_rfl) ?_
        have q2 := grownC w7 w3.heap.size 0 (.slice A7 (i + 1) c7)
        have O8 := H7.out.1.kept q2 (by omega)
        have C8 := H7.out.2.1.grown q2 (fun r e => by have := Option.some.inj e; omega)
        have r8 := H7.out.2.2.1.grown q2 (fun e => by have := Option.some.inj e; omega)
        have B8 : Below w.heap.size w (w7.setCell ⟨w3.heap.size, 0, none⟩ (.slice A7 (i + 1) c7)) := H7.out.2.2.2.1.setCell (show w.heap.size ≤ w3.heap.size by omega) _
        have a8 : At (w7.setCell ⟨w3.heap.size, 0, none⟩ (.slice A7 (i + 1) c7)) w3.heap.size [.slice A7 (i + 1) c7] := (show At _ _ _ from H7.out.2.2.2.2.1).set 0 _ (by simp)
        clear q2 zc zf
        generalize w7.setCell ⟨w3.heap.size, 0, none⟩ (.slice A7 (i + 1) c7) = w8 at *
        obtain ⟨A8, c8, e8, hvs⟩ := O8.vs
        injection e8 with e8a e8b e8c
        clear e8b
        subst e8a
        subst e8c
        obtain ⟨q', bb, oo, hq', _, _, rfl, _, c0, _⟩ := hvs.at_ (k := i) (by rw [H7.out.2.2.2.2.2]; omega)
        rw [List.getElem?_append_right (by rw [HZ.out.2.2.2.2.2.2.2]; omega), HZ.out.2.2.2.2.2.2.2, Nat.sub_self] at hq'
        have hqq : q = q' := Option.some.inj hq'
        subst hqq
        have y0 := a8.c 0 rfl
        have hn0 : (0 : Int) ≤ (i : Int) := by omega
        have hn1 : (i : Int) < (i : Int) + 1 := by omega
        have HW := Lib.hid (And.intro O8 (And.intro C8 (And.intro r8 (And.intro B8 a8))))
        clear O8 C8 r8 B8 a8 hvs hq'
        go_wp2_with fail
        go_roundw
        case rel =>
          refine ⟨i + 1, k2, _, q.r, R ++ [q], _, by omega, rfl, by go_num, HW.out.2.1, HW.out.2.2.2.1, HW.out.2.2.1, HW.out.2.2.2.2, HW.out.1, H7.out.2.2.2.2.2, fun h0 => ⟨z1, ?_⟩, fun h0 => ?_⟩
          · obtain ⟨t1, t2, t3⟩ := H5.out.2.2.2.2.2.2 h0
            have z2 := HZ.out.2.2.2.2.2.1
            rw [if_neg (by omega)] at z2
            rw [← z2, List.map_append, List.map_cons, List.map_nil, RA.p, t1, t2, t3]
            congr 1
            have := HZ.out.2.2.2.2.2.2.1
            omega
          · have z2 := HZ.out.2.2.2.2.2.1
            rw [if_pos h0] at z2
            rw [← z2]
        case measure => simp [intOf]; omega
      · have hb0 : ((e' : Int) == 0) = false := by rw [beq_eq_false_iff_ne]; omega
        have hb1 : ((e' : Int) != 0) = true := by rw [bne_iff_ne]; omega
        have HE1 := Lib.hid (CErr_any hC)
        have HT := Lib.hid (hnz he)
        have r0 := hr.c 0 rfl
        have f0 := hr.f 0 rfl
        have hrs := hr.set 0 (.slice none 0 0) (by simp)
        have hBs : Below w.heap.size w (wr.setCell ⟨w.heap.size, 0, none⟩ (.slice none 0 0)) := hB.setCell (Nat.le_refl _) _
        have HF := Lib.hid (And.intro hrs hBs)
        have HNE := Lib.hid he
        clear hC hB hr hv hO hz hnz he hrs hBs
        go_wp2_with fail
        refine HE1.out.mono ?_
        rintro r wz ⟨rfl, rfl⟩
        go_wp2_with fail
        refine HE1.out.mono ?_
        rintro r wz ⟨rfl, rfl⟩
        go_wp2_with fail
        refine HE1.out.mono ?_
        rintro r wz ⟨rfl, rfl⟩
        go_wp2_with fail
        obtain ⟨p1, p2⟩ := HH.out.2.1 (by rw [HT.out]; exact HNE.out)
        exact bodyPost_ret (v := .tuple #[.agg #[.slice none 0 0], .int .i64 0, .int .i64 (e' : Int)]) (results_take rfl _ rfl rfl rfl HF.out.1) rfl ⟨none, 0, 0, [], by rw [p2, HT.out]; rfl, ⟨rfl, Nat.le_refl _, by simp [maxLen], .inl rfl, by simp, by rw [p1]; rfl⟩, HF.out.2⟩
    · obtain rfl : i = n := by omega
      have hd1 : decide ((i : Int) < (i : Int)) = false := by rw [decide_eq_false_iff_not]; omega
      have HE1 := Lib.hid (CErr_any hC)
      by_cases he : e' = 0
      · subst he
        obtain ⟨z1, z2⟩ := hz rfl
        obtain ⟨A', c', rfl, hvs⟩ := hO.vs
        have hrs := hr.set 0 (.slice A' R.length c') (by simp)
        have hBs : Below w.heap.size w (wr.setCell ⟨w.heap.size, 0, none⟩ (.slice A' R.length c')) := hB.setCell (Nat.le_refl _) _
        have hO2 := hO.kept (grownC wr w.heap.size 0 (.slice A' R.length c')) (by omega)
        obtain ⟨A2, c2, e2', hvs2⟩ := hO2.vs
        injection e2' with e2a e2b e2c
        clear e2b
        subst e2a
        subst e2c
        have HVS := Lib.hid hvs2
        clear hO2 hvs2
        have HZ := Lib.hid (And.intro hC (And.intro hB (And.intro hr (And.intro hv (And.intro hO (And.intro z2 (And.intro hrs hBs)))))))
        have e1' : ∀ W, AtS w3.heap.size [.slice A' R.length c'] W → W.cell? ⟨w3.heap.size, 0, none⟩ = some (.slice A' R.length c') := fun W h => h.c 0 rfl
        have hS0 : AtS w3.heap.size [.slice A' R.length c'] wr.drew := hv.drew
        have zc : wr.drew.cell? ⟨w.heap.size, 0, none⟩ = some (.slice none 0 0) := hr.c 0 rfl
        have zf : wr.drew.frozen? ⟨w.heap.size, 0, none⟩ = false := hr.f 0 rfl
        have HAT := Lib.hid (CAt_any hC.drew)
        clear hC hB hr hv hO hz hnz hvs z2 hrs hBs hRl
        go_wp2_with fail
        refine HE1.out.mono ?_
        rintro r wz ⟨rfl, rfl⟩
        go_wp2_with fail
        refine bstartS (AtS w3.heap.size [.slice A' R.length c']) (by kernel_rfl) ?_
        refine btakeS 0 (oi := _) (v := ?_) (by simp only [List.getElem?_toArray, List.getElem?_cons_zero]; rfl) (by kernel_rfl) (by exact fun _ _ _ h => h) (by first | assumption | exact KB.refl _) (.inl ⟨by rfl, fun W hW => ?_⟩) ?_; rotate_left
        · (go_simp; first | done | with_reducible rfl)
        try simp only [Act.put, List.setIfInBounds_toArray, List.set_cons_zero, List.set_cons_succ]
        refine btakeS 1 (oi := _) (v := ?_) (by simp only [getElem?_toArray, getElem?_cons_succ, getElem?_cons_zero]; rfl) (by kernel_rfl) (by exact fun _ _ _ h => h) (by first | assumption | exact KB.refl _) (.inl ⟨by rfl, fun W hW => ?_⟩) ?_; rotate_left
        · (go_simp; first | done | with_reducible rfl)
        try simp only [Act.put, List.setIfInBounds_toArray, List.set_cons_zero, List.set_cons_succ]
        -- 2: (*newsreel/cursor.Cursor).At
        refine bopS 2 (o := _) (by simp only [getElem?_toArray, getElem?_cons_succ, getElem?_cons_zero]; rfl) (by kernel_rfl) (by rfl) (fun K hK => ?_)
        go_simp
        refine HAT.out.mono ?_
        rintro r wz ⟨rfl, rfl⟩
        have hkb := hS0
        refine hK.out _ _ hkb ?_; clear hK K
        try simp only [Act.put, List.setIfInBounds_toArray, List.set_cons_zero, List.set_cons_succ]
        -- 3: Op.store 27 (Operand.tmp 2) (Operand.tmp 48)
        refine bopS 3 (o := _) (by simp only [getElem?_toArray, getElem?_cons_succ, getElem?_cons_zero]; rfl) (by kernel_rfl) (by rfl) (fun K hK => ?_)
        go_simp
        have hkb : AtS w3.heap.size [.slice A' R.length c'] (wr.drew.setCell ⟨w.heap.size, 0, none⟩ (.slice A' R.length c')) := hS0.set_other _ _ (by omega)
        refine hK.out _ _ hkb ?_; clear hK K
        try simp only [Act.put, List.setIfInBounds_toArray, List.set_cons_zero, List.set_cons_succ]
        refine btakeS 4 (oi := _) (v := ?_) (by simp only [getElem?_toArray, getElem?_cons_succ, getElem?_cons_zero]; rfl) (by kernel_rfl) (by exact fun _ _ _ h => h) (by first | assumption | exact KB.refl _) (.inl ⟨by rfl, fun W hW => ?_⟩) ?_; rotate_left
        · (go_simp; first | done | with_reducible rfl)
        try simp only [Act.put, List.setIfInBounds_toArray, List.set_cons_zero, List.set_cons_succ]
        refine btakeS 5 (oi := _) (v := ?_) (by simp only [getElem?_toArray, getElem?_cons_succ, getElem?_cons_zero]; rfl) (by kernel_rfl) (by exact fun _ _ _ h => h) (by first | assumption | exact KB.refl _) (.inl ⟨by rfl, fun W hW => ?_⟩) ?_; rotate_left
        · (go_simp; first | done | with_reducible rfl)
        try simp only [Act.put, List.setIfInBounds_toArray, List.set_cons_zero, List.set_cons_succ]
        refine bdoneS (by kernel_rfl) ?_
        go_wp2_with fail
        have z2x := HZ.out.2.2.2.2.2.1
        rw [Nat.sub_self, goT] at z2x
        have hT1 : T.1 = R.map RA.p := by rw [← z2x]
        have hT2 : T.2.1 = k' := by rw [← z2x]
        have hT3 : T.2.2 = 0 := by rw [← z2x]
        exact bodyPost_ret (v := .tuple #[.agg #[.slice A' R.length c'], .int .i64 (k' : Int), .int .i64 0]) (results_take rfl _ rfl rfl rfl HZ.out.2.2.2.2.2.2.1.drew) rfl ⟨A', R.length, c', R, by rw [hT2, hT3]; rfl, by rw [hT1]; exact HVS.out.drew, HZ.out.2.2.2.2.2.2.2.drew⟩
      · have hb1 : ((e' : Int) != 0) = true := by rw [bne_iff_ne]; omega
        have HT := Lib.hid (hnz he)
        have r0 := hr.c 0 rfl
        have f0 := hr.f 0 rfl
        have hrs := hr.set 0 (.slice none 0 0) (by simp)
        have hBs : Below w.heap.size w (wr.setCell ⟨w.heap.size, 0, none⟩ (.slice none 0 0)) := hB.setCell (Nat.le_refl _) _
        have HF := Lib.hid (And.intro hrs hBs)
        have HNE := Lib.hid he
        clear hC hB hr hv hO hz hnz he hrs hBs
        go_wp2_with fail
        refine HE1.out.mono ?_
        rintro r wz ⟨rfl, rfl⟩
        go_wp2_with fail
        refine HE1.out.mono ?_
        rintro r wz ⟨rfl, rfl⟩
        go_wp2_with fail
        obtain ⟨p1, p2⟩ := HH.out.2.1 (by rw [HT.out]; exact HNE.out)
        exact bodyPost_ret (v := .tuple #[.agg #[.slice none 0 0], .int .i64 0, .int .i64 (e' : Int)]) (results_take rfl _ rfl rfl rfl HF.out.1) rfl ⟨none, 0, 0, [], by rw [p2, HT.out]; rfl, ⟨rfl, Nat.le_refl _, by simp [maxLen], .inl rfl, by simp, by rw [p1]; rfl⟩, HF.out.2⟩
end Go.Proofs.Ytaflikgdlkaefaa
/- Ranges: the document's SpanHas. -/
namespace Go.Proofs.Ytaflikgdlkaefaa
open Go.RowKit Go.Proofs.Ytaflikgdlkaefaa.Pl Go.Proofs.Ytaflikgdlkaefaa.Sp
set_option maxRecDepth 20000

theorem has_take_succ {l : List Rg} {k : Nat} (hk : k < l.length) (m : Int) : has (l.take (k + 1)) m = (has (l.take k) m || (l[k]?.getD ⟨0, 0⟩).in_ m) := by
  rw [List.take_succ_eq_append_getElem hk, has_append, List.getElem?_eq_getElem hk, Option.getD_some]
  simp [has]
theorem has_take_true {l : List Rg} {k : Nat} {m : Int} (h : has (l.take k) m = true) : has l m = true := by
  rw [← List.take_append_drop k l, has_append, h]; rfl
end Go.Proofs.Ytaflikgdlkaefaa
/- Ranges: span.Has. -/
namespace Go.Proofs.Ytaflikgdlkaefaa
open Go.RowKit Go.Proofs.Ytaflikgdlkaefaa.Pl Go.Proofs.Ytaflikgdlkaefaa.Sp
set_option maxRecDepth 20000

set_option maxRecDepth 100000 in
theorem hasC_any (w : World) (r : Rg) (g : Nat) (m : Int) (hg : w.cell? ⟨g, 0, none⟩ = some (.int .i64 m)) :
    Calls Try.prog 60 #[r.v, .pointer (some ⟨g, 0, none⟩)] w fun e w' => e = .returned (.bool (r.in_ m)) ∧ Below w.heap.size w w' := by
  unfold Rg.v Rg.in_
  obtain ⟨a, b⟩ := r
  have hb := boxR w ⟨a, b⟩
  have hlt := World.block_lt_of_cell? _ _ hg
  have hg' := (hb.cell hlt).trans hg
  go_enter Try.func60, Try.ntmps60
  by_cases h : a ≤ m
  · have d1 : decide (a ≤ m) = true := by rw [decide_eq_true_eq]; exact h
    go_wp2_with fail
    go_ret
    exact ⟨ret_b (by simp), hb⟩
  · have d1 : decide (a ≤ m) = false := by rw [decide_eq_false_iff_not]; exact h
    go_wp2_with fail
    go_ret
    exact ⟨ret_b (by simp), hb⟩
set_option maxRecDepth 100000 in
theorem IndexFR_any (w : World) (A : Option Addr) (n c : Nat) (l : List Rg) (g : Nat) (m : Int) (hb : Sl w w.heap.size A (rv l)) (h0 : n = l.length) (hl : n ≤ 1000000000) (hg : w.cell? ⟨g, 0, none⟩ = some (.int .i64 m)) :
    Calls Try.prog 76 #[.slice A n c, .func (.func 60) #[] #[.pointer (some ⟨g, 0, none⟩)]] w fun e w' => ∃ z : Int, e = .returned (.int .i64 z) ∧ decide (0 ≤ z) = has l m ∧ Below w.heap.size w w' := by
  have HN := Lib.hid h0
  clear h0
  have hgw := World.block_lt_of_cell? _ _ hg
  go_enter Try.func76, Try.ntmps76
  go_wp2_with fail
  go_loopw [8] (fun x8 wr => ∃ k : Nat, k ≤ n ∧ x8 = .int .i64 (k : Int) ∧ has (l.take k) m = false ∧ Below w.heap.size w wr) (fun x8 _ => n - (intOf x8).toNat)
  case atStart => exact ⟨0, by omega, rfl, rfl, Below.refl _ _⟩
  case round =>
    obtain ⟨k, hk, rfl, hno, hbel⟩ := hrel
    by_cases hlt : k < n
    · have hkl : k < l.length := by have := HN.out; omega
      obtain ⟨b, o, rfl, _, hbW, c0, c1⟩ := rgAt hb hkl
      replace c0 := (hbel.cell hbW).trans c0
      replace c1 := (hbel.cell hbW).trans c1
      have hts := has_take_succ hkl m
      generalize l[k]?.getD ⟨0, 0⟩ = x at *
      have hd1 : decide ((k : Int) < (n : Int)) = true := by rw [decide_eq_true_eq]; omega
      have hn0 : (0 : Int) ≤ (k : Int) := by omega
      have hn1 : (k : Int) < (n : Int) := by omega
      have HC := Lib.hid (hasC_any wr x g m ((hbel.cell hgw).trans hg))
      unfold Rg.v at HC
      rw [hno, Bool.false_or] at hts
      obtain ⟨q, hq⟩ : ∃ q, x.in_ m = q := ⟨_, rfl⟩
      rw [hq] at HC hts
      have HT := Lib.hid hts
      clear hts hno hq
      go_wp2_with fail
      refine HC.out.mono ?_
      rintro e w1 ⟨rfl, h1⟩
      have hbz := hbel.trans (h1.mono hbel.size)
      cases q with
      | true =>
        go_wp2_with fail
        go_ret
        exact ⟨_, rfl, by rw [has_take_true HT.out]; simp, hbz⟩
      | false =>
        go_wp2_with fail
        go_roundw
        case rel => exact ⟨k + 1, by omega, by go_num, HT.out, hbz⟩
        case measure => simp [intOf]; omega
    · obtain rfl : k = n := by omega
      have hd1 : decide ((k : Int) < (k : Int)) = false := by rw [decide_eq_false_iff_not]; omega
      have HE := Lib.hid (show has l m = false by rw [← List.take_length (l := l), ← HN.out]; exact hno)
      clear hno
      go_wp2_with fail
      go_ret
      exact ⟨_, rfl, by rw [HE.out]; rfl, hbel⟩
set_option maxRecDepth 100000 in
theorem ContainsFR_any (w : World) (A : Option Addr) (n c : Nat) (l : List Rg) (g : Nat) (m : Int) (hb : Sl w w.heap.size A (rv l)) (h0 : n = l.length) (hl : n ≤ 1000000000) (hg : w.cell? ⟨g, 0, none⟩ = some (.int .i64 m)) :
    Calls Try.prog 59 #[.slice A n c, .func (.func 60) #[] #[.pointer (some ⟨g, 0, none⟩)]] w fun e w' => e = .returned (.bool (has l m)) ∧ Below w.heap.size w w' := by
  have HI := Lib.hid (IndexFR_any w A n c l g m hb h0 hl hg)
  clear hb h0 hg
  go_enter Try.func59, Try.ntmps59
  go_wp2_with fail
  refine HI.out.mono ?_
  rintro e w1 ⟨z, rfl, hz, h1⟩
  have HZ := Lib.hid hz
  clear hz
  go_wp2_with fail
  go_ret
  exact ⟨ret_b HZ.out, h1⟩
set_option maxRecDepth 100000 in
theorem RHas_any (w : World) (A : Option Addr) (n c : Nat) (l : List Rg) (hb : Sl w w.heap.size A (rv l)) (h0 : n = l.length) (hl : n ≤ 1000000000) (m : Int) :
    Calls Try.prog 32 #[.slice A n c, .int .i64 m] w fun e w' => e = .returned (.bool (hasS l m)) ∧ Below w.heap.size w w' := by
  have hbx := balloc (Below.refl w.heap.size w) (.cells #[.int .i64 m] 2)
  have HR := Lib.hid (RRight_any _ A n c l ((hb.below hbx).more hbx.size) h0 hl)
  have hA := At.new w 2 #[.int .i64 m]
  have HI := Lib.hid (fun W (hW : Below (w.alloc (.cells #[.int .i64 m] 2)).heap.size (w.alloc (.cells #[.int .i64 m] 2)) W) => ContainsFR_any W A n c l w.heap.size m ((hb.below (hbx.trans (hW.mono hbx.size))).more (hbx.trans (hW.mono hbx.size)).size) h0 hl ((hA.below hW).c 0 rfl))
  have HS := Lib.hid (show hasS l m = (right l && has l m) from rfl)
  generalize right l = q at *
  clear h0 hb hA
  cases q with
  | false =>
    go_enter Try.func32, Try.ntmps32
    go_wp2_with fail
    refine HR.out.mono ?_
    rintro e w1 ⟨rfl, h1⟩
    have hbz := hbx.trans (h1.mono hbx.size)
    go_wp2_with fail
    go_ret
    exact ⟨ret_b (by rw [HS.out]; rfl), hbz⟩
  | true =>
    go_enter Try.func32, Try.ntmps32
    go_wp2_with fail
    refine HR.out.mono ?_
    rintro e w1 ⟨rfl, h1⟩
    have hbz := hbx.trans (h1.mono hbx.size)
    go_wp2_with fail
    refine (HI.out _ h1).mono ?_
    rintro e w2 ⟨rfl, h2⟩
    have hby := hbz.trans (h2.mono hbz.size)
    go_wp2_with fail
    go_ret
    exact ⟨ret_b (by rw [HS.out]; rfl), hby⟩
end Go.Proofs.Ytaflikgdlkaefaa
/- Vectors: vector.Has. -/
namespace Go.Proofs.Ytaflikgdlkaefaa
open Go.RowKit Go.Maps Go.Proofs.Ytaflikgdlkaefaa.Pl Go.Proofs.Ytaflikgdlkaefaa.Sp Go.Proofs.Ytaflikgdlkaefaa.Ve
set_option maxRecDepth 20000
theorem hasS_bool (V : VL) (d : Dt.D2) {p q : Bool} (hp : rightV V = p) (hq : d.right = q) : hasV V d = (p && q && hasS (partV V d.r) d.q) := by rw [hasV, hp, hq]
set_option maxRecDepth 100000 in
set_option maxHeartbeats 6400000 in
theorem Has_any (w : World) (A : Option Addr) (n c : Nat) (R : List RA) (V : VL) (hv : VS w A n c R V) (hl : n ≤ 1000000) (hm : Lim 1000000 V) (d : Dt.D2) (hr : i64in d.r) :
    Calls Try.prog 11 #[.agg #[.slice A n c], d.v] w fun e w' => e = .returned (.bool (hasV V d)) ∧ Below w.heap.size w w' := by
  have hb0 : Below w.heap.size w (w.alloc (.cells #[.slice A n c] 27)) := balloc (Below.refl _ _) _
  have hb1 := balloc hb0 (.cells #[.int .i64 d.r, .int .i64 d.q] 32)
  have x0 : (w.alloc (.cells #[.slice A n c] 27)).cell? ⟨w.heap.size, 0, none⟩ = some (.slice A n c) := by simp
  have xs : (w.alloc (.cells #[.slice A n c] 27)).heap.size = w.heap.size + 1 := by simp
  have x1 := ((Below.refl _ (w.alloc (.cells #[.slice A n c] 27))).alloc (Nat.le_refl _) (.cells #[.int .i64 d.r, .int .i64 d.q] 32)).cell (p := ⟨w.heap.size, 0, none⟩) (by simp) |>.trans x0
  obtain ⟨z0, z1⟩ := cell2 (w.alloc (.cells #[.slice A n c] 27)) 32 (.int .i64 d.r) (.int .i64 d.q)
  rw [xs] at z0 z1
  unfold Dt.D2.v
  have hdr := fun W => DRight_any W d
  unfold Dt.D2.v at hdr
  obtain ⟨p, hp⟩ : ∃ p, rightV V = p := ⟨_, rfl⟩
  obtain ⟨q, hq⟩ : ∃ q, d.right = q := ⟨_, rfl⟩
  rw [hq] at hdr
  have hF := hasS_bool V d hp hq
  have hR := fun W (h : Below w.heap.size w W) => VRight_any W A n c R V (hv.below h) hl hm
  rw [hp] at hR
  go_enter Try.func11, Try.ntmps11
  go_wp2_with fail
  generalize (w.alloc (.cells #[.slice A n c] 27)).alloc (.cells #[.int .i64 d.r, .int .i64 d.q] 32) = W at *
  have e0 := cellB x1
  have e1 := cellB z0
  have e2 := cellB z1
  have HR := Lib.hid hR
  have HD := Lib.hid hdr
  have HT := Lib.hid (fun W (hW : Below w.heap.size w W) => fun h => table_any W A n c R V (hv.below hW) h)
  have HL := Lib.hid (hm.part d.r)
  have HF := Lib.hid hF
  have HP := Lib.hid hp
  clear hR hdr hv hm hF hp hq
  cases p with
  | false =>
    refine bstartH (W.heap) (by kernel_rfl) ?_
    refine btake 0 (oi := _) (v := ?_) (by simp only [List.getElem?_toArray, List.getElem?_cons_zero]; rfl) (by kernel_rfl) (by exact fun _ _ _ h => h) (by first | assumption | exact KB.refl _) (.inl ⟨by rfl, fun W hW => ?_⟩) ?_; rotate_left
    · (go_simp; first | done | with_reducible rfl)
    try simp only [Act.put, List.setIfInBounds_toArray, List.set_cons_zero, List.set_cons_succ]
    -- 1: newsreel/vector.Right
    refine bopH 1 (o := _) (by simp only [getElem?_toArray, getElem?_cons_succ, getElem?_cons_zero]; rfl) (by kernel_rfl) (by first | assumption | exact KB.refl _) (by rfl) (fun K hK => ?_)
    go_simp
    refine (HR.out _ hb1.drew).mono ?_
    rintro e w2 ⟨rfl, h2⟩
    have hkb : KB W.heap w2 := KB.of ((Below.refl _ W).drew.trans h2)
    have H2 := Lib.hid (hb1.drew.trans (h2.mono hb1.size))
    have K2 := Lib.hid hkb
    clear h2
    refine hK.out _ _ hkb ?_; clear hK K
    try simp only [Act.put, List.setIfInBounds_toArray, List.set_cons_zero, List.set_cons_succ]
    refine btake 2 (oi := _) (v := ?_) (by simp only [getElem?_toArray, getElem?_cons_succ, getElem?_cons_zero]; rfl) (by kernel_rfl) (by exact fun _ _ _ h => h) (by first | assumption | exact KB.refl _) (.inl ⟨by rfl, fun W hW => ?_⟩) ?_; rotate_left
    · (go_simp; first | done | with_reducible rfl)
    try simp only [Act.put, List.setIfInBounds_toArray, List.set_cons_zero, List.set_cons_succ]
    refine btake 3 (oi := _) (v := undef) (by simp only [getElem?_toArray, getElem?_cons_succ, getElem?_cons_zero]; rfl) (by kernel_rfl) (by exact fun _ _ _ h => h) (by first | assumption | exact KB.refl _) (.inr ⟨by rfl, rfl⟩) ?_
    try simp only [Act.put, List.setIfInBounds_toArray, List.set_cons_zero, List.set_cons_succ]
    refine btake 4 (oi := _) (v := undef) (by simp only [getElem?_toArray, getElem?_cons_succ, getElem?_cons_zero]; rfl) (by kernel_rfl) (by exact fun _ _ _ h => h) (by first | assumption | exact KB.refl _) (.inr ⟨by rfl, rfl⟩) ?_
    try simp only [Act.put, List.setIfInBounds_toArray, List.set_cons_zero, List.set_cons_succ]
    refine btake 5 (oi := _) (v := ?_) (by simp only [getElem?_toArray, getElem?_cons_succ, getElem?_cons_zero]; rfl) (by kernel_rfl) (by exact fun _ _ _ h => h) (by first | assumption | exact KB.refl _) (.inl ⟨by rfl, fun W hW => ?_⟩) ?_; rotate_left
    · (go_simp; first | done | with_reducible rfl)
    try simp only [Act.put, List.setIfInBounds_toArray, List.set_cons_zero, List.set_cons_succ]
    refine btake 6 (oi := _) (v := ?_) (by simp only [getElem?_toArray, getElem?_cons_succ, getElem?_cons_zero]; rfl) (by kernel_rfl) (by exact fun _ _ _ h => h) (by first | assumption | exact KB.refl _) (.inl ⟨by rfl, fun W hW => ?_⟩) ?_; rotate_left
    · (go_simp; first | done | with_reducible rfl)
    try simp only [Act.put, List.setIfInBounds_toArray, List.set_cons_zero, List.set_cons_succ]
    refine btake 7 (oi := _) (v := undef) (by simp only [getElem?_toArray, getElem?_cons_succ, getElem?_cons_zero]; rfl) (by kernel_rfl) (by exact fun _ _ _ h => h) (by first | assumption | exact KB.refl _) (.inr ⟨by rfl, rfl⟩) ?_
    try simp only [Act.put, List.setIfInBounds_toArray, List.set_cons_zero, List.set_cons_succ]
    refine btake 8 (oi := _) (v := undef) (by simp only [getElem?_toArray, getElem?_cons_succ, getElem?_cons_zero]; rfl) (by kernel_rfl) (by exact fun _ _ _ h => h) (by first | assumption | exact KB.refl _) (.inr ⟨by rfl, rfl⟩) ?_
    try simp only [Act.put, List.setIfInBounds_toArray, List.set_cons_zero, List.set_cons_succ]
    refine btake 9 (oi := _) (v := undef) (by simp only [getElem?_toArray, getElem?_cons_succ, getElem?_cons_zero]; rfl) (by kernel_rfl) (by exact fun _ _ _ h => h) (by first | assumption | exact KB.refl _) (.inr ⟨by rfl, rfl⟩) ?_
    try simp only [Act.put, List.setIfInBounds_toArray, List.set_cons_zero, List.set_cons_succ]
    refine btake 10 (oi := _) (v := undef) (by simp only [getElem?_toArray, getElem?_cons_succ, getElem?_cons_zero]; rfl) (by kernel_rfl) (by exact fun _ _ _ h => h) (by first | assumption | exact KB.refl _) (.inr ⟨by rfl, rfl⟩) ?_
    try simp only [Act.put, List.setIfInBounds_toArray, List.set_cons_zero, List.set_cons_succ]
    refine btake 11 (oi := _) (v := undef) (by simp only [getElem?_toArray, getElem?_cons_succ, getElem?_cons_zero]; rfl) (by kernel_rfl) (by exact fun _ _ _ h => h) (by first | assumption | exact KB.refl _) (.inr ⟨by rfl, rfl⟩) ?_
    try simp only [Act.put, List.setIfInBounds_toArray, List.set_cons_zero, List.set_cons_succ]
    refine btake 12 (oi := _) (v := undef) (by simp only [getElem?_toArray, getElem?_cons_succ, getElem?_cons_zero]; rfl) (by kernel_rfl) (by exact fun _ _ _ h => h) (by first | assumption | exact KB.refl _) (.inr ⟨by rfl, rfl⟩) ?_
    try simp only [Act.put, List.setIfInBounds_toArray, List.set_cons_zero, List.set_cons_succ]
    refine btake 13 (oi := _) (v := undef) (by simp only [getElem?_toArray, getElem?_cons_succ, getElem?_cons_zero]; rfl) (by kernel_rfl) (by exact fun _ _ _ h => h) (by first | assumption | exact KB.refl _) (.inr ⟨by rfl, rfl⟩) ?_
    try simp only [Act.put, List.setIfInBounds_toArray, List.set_cons_zero, List.set_cons_succ]
    refine btake 14 (oi := _) (v := undef) (by simp only [getElem?_toArray, getElem?_cons_succ, getElem?_cons_zero]; rfl) (by kernel_rfl) (by exact fun _ _ _ h => h) (by first | assumption | exact KB.refl _) (.inr ⟨by rfl, rfl⟩) ?_
    try simp only [Act.put, List.setIfInBounds_toArray, List.set_cons_zero, List.set_cons_succ]
    refine btake 15 (oi := _) (v := ?_) (by simp only [getElem?_toArray, getElem?_cons_succ, getElem?_cons_zero]; rfl) (by kernel_rfl) (by exact fun _ _ _ h => h) (by first | assumption | exact KB.refl _) (.inl ⟨by rfl, fun W hW => ?_⟩) ?_; rotate_left
    · (go_simp; first | done | with_reducible rfl)
    try simp only [Act.put, List.setIfInBounds_toArray, List.set_cons_zero, List.set_cons_succ]
    refine btake 16 (oi := _) (v := ?_) (by simp only [getElem?_toArray, getElem?_cons_succ, getElem?_cons_zero]; rfl) (by kernel_rfl) (by exact fun _ _ _ h => h) (by first | assumption | exact KB.refl _) (.inl ⟨by rfl, fun W hW => ?_⟩) ?_; rotate_left
    · (go_simp; first | done | with_reducible rfl)
    try simp only [Act.put, List.setIfInBounds_toArray, List.set_cons_zero, List.set_cons_succ]
    refine bdone (by kernel_rfl) ?_
    have hbz := H2.out
    have HG := Lib.hid (show hasV V d = false by rw [HF.out]; rfl)
    go_wp2_with fail
    go_ret
    exact ⟨ret_b HG.out.symm, hbz⟩
  | true =>
    cases q with
    | false =>
      have HG := Lib.hid (show hasV V d = false by rw [HF.out]; rfl)
      refine bstartH (W.heap) (by kernel_rfl) ?_
      refine btake 0 (oi := _) (v := ?_) (by simp only [List.getElem?_toArray, List.getElem?_cons_zero]; rfl) (by kernel_rfl) (by exact fun _ _ _ h => h) (by first | assumption | exact KB.refl _) (.inl ⟨by rfl, fun W hW => ?_⟩) ?_; rotate_left
      · (go_simp; first | done | with_reducible rfl)
      try simp only [Act.put, List.setIfInBounds_toArray, List.set_cons_zero, List.set_cons_succ]
      -- 1: newsreel/vector.Right
      refine bopH 1 (o := _) (by simp only [getElem?_toArray, getElem?_cons_succ, getElem?_cons_zero]; rfl) (by kernel_rfl) (by first | assumption | exact KB.refl _) (by rfl) (fun K hK => ?_)
      go_simp
      refine (HR.out _ hb1.drew).mono ?_
      rintro e w2 ⟨rfl, h2⟩
      have hkb : KB W.heap w2 := KB.of ((Below.refl _ W).drew.trans h2)
      have H2 := Lib.hid (hb1.drew.trans (h2.mono hb1.size))
      have K2 := Lib.hid hkb
      clear h2
      refine hK.out _ _ hkb ?_; clear hK K
      try simp only [Act.put, List.setIfInBounds_toArray, List.set_cons_zero, List.set_cons_succ]
      refine btake 2 (oi := _) (v := ?_) (by simp only [getElem?_toArray, getElem?_cons_succ, getElem?_cons_zero]; rfl) (by kernel_rfl) (by exact fun _ _ _ h => h) (by first | assumption | exact KB.refl _) (.inl ⟨by rfl, fun W hW => ?_⟩) ?_; rotate_left
      · (go_simp; first | done | with_reducible rfl)
      try simp only [Act.put, List.setIfInBounds_toArray, List.set_cons_zero, List.set_cons_succ]
      refine btake 3 (oi := _) (v := ?_) (by simp only [getElem?_toArray, getElem?_cons_succ, getElem?_cons_zero]; rfl) (by kernel_rfl) (by exact fun _ _ _ h => h) (by first | assumption | exact KB.refl _) (.inl ⟨by rfl, fun W hW => ?_⟩) ?_; rotate_left
      · (go_simp; first | done | with_reducible rfl)
      try simp only [Act.put, List.setIfInBounds_toArray, List.set_cons_zero, List.set_cons_succ]
      -- 4: newsreel/dot.Right
      refine bopH 4 (o := _) (by simp only [getElem?_toArray, getElem?_cons_succ, getElem?_cons_zero]; rfl) (by kernel_rfl) (by first | assumption | exact KB.refl _) (by rfl) (fun K hK => ?_)
      go_simp
      refine (HD.out w2).mono ?_
      rintro e w3 ⟨rfl, h3⟩
      have hkb : KB W.heap w3 := K2.out.trans (KB.of h3)
      have H3 := Lib.hid (H2.out.trans (h3.mono H2.out.size))
      have K3 := Lib.hid hkb
      clear h3
      refine hK.out _ _ hkb ?_; clear hK K
      try simp only [Act.put, List.setIfInBounds_toArray, List.set_cons_zero, List.set_cons_succ]
      refine btake 5 (oi := _) (v := ?_) (by simp only [getElem?_toArray, getElem?_cons_succ, getElem?_cons_zero]; rfl) (by kernel_rfl) (by exact fun _ _ _ h => h) (by first | assumption | exact KB.refl _) (.inl ⟨by rfl, fun W hW => ?_⟩) ?_; rotate_left
      · (go_simp; first | done | with_reducible rfl)
      try simp only [Act.put, List.setIfInBounds_toArray, List.set_cons_zero, List.set_cons_succ]
      refine btake 6 (oi := _) (v := ?_) (by simp only [getElem?_toArray, getElem?_cons_succ, getElem?_cons_zero]; rfl) (by kernel_rfl) (by exact fun _ _ _ h => h) (by first | assumption | exact KB.refl _) (.inl ⟨by rfl, fun W hW => ?_⟩) ?_; rotate_left
      · (go_simp; first | done | with_reducible rfl)
      try simp only [Act.put, List.setIfInBounds_toArray, List.set_cons_zero, List.set_cons_succ]
      refine btake 7 (oi := _) (v := undef) (by simp only [getElem?_toArray, getElem?_cons_succ, getElem?_cons_zero]; rfl) (by kernel_rfl) (by exact fun _ _ _ h => h) (by first | assumption | exact KB.refl _) (.inr ⟨by rfl, rfl⟩) ?_
      try simp only [Act.put, List.setIfInBounds_toArray, List.set_cons_zero, List.set_cons_succ]
      refine btake 8 (oi := _) (v := undef) (by simp only [getElem?_toArray, getElem?_cons_succ, getElem?_cons_zero]; rfl) (by kernel_rfl) (by exact fun _ _ _ h => h) (by first | assumption | exact KB.refl _) (.inr ⟨by rfl, rfl⟩) ?_
      try simp only [Act.put, List.setIfInBounds_toArray, List.set_cons_zero, List.set_cons_succ]
      refine btake 9 (oi := _) (v := undef) (by simp only [getElem?_toArray, getElem?_cons_succ, getElem?_cons_zero]; rfl) (by kernel_rfl) (by exact fun _ _ _ h => h) (by first | assumption | exact KB.refl _) (.inr ⟨by rfl, rfl⟩) ?_
      try simp only [Act.put, List.setIfInBounds_toArray, List.set_cons_zero, List.set_cons_succ]
      refine btake 10 (oi := _) (v := undef) (by simp only [getElem?_toArray, getElem?_cons_succ, getElem?_cons_zero]; rfl) (by kernel_rfl) (by exact fun _ _ _ h => h) (by first | assumption | exact KB.refl _) (.inr ⟨by rfl, rfl⟩) ?_
      try simp only [Act.put, List.setIfInBounds_toArray, List.set_cons_zero, List.set_cons_succ]
      refine btake 11 (oi := _) (v := undef) (by simp only [getElem?_toArray, getElem?_cons_succ, getElem?_cons_zero]; rfl) (by kernel_rfl) (by exact fun _ _ _ h => h) (by first | assumption | exact KB.refl _) (.inr ⟨by rfl, rfl⟩) ?_
      try simp only [Act.put, List.setIfInBounds_toArray, List.set_cons_zero, List.set_cons_succ]
      refine btake 12 (oi := _) (v := undef) (by simp only [getElem?_toArray, getElem?_cons_succ, getElem?_cons_zero]; rfl) (by kernel_rfl) (by exact fun _ _ _ h => h) (by first | assumption | exact KB.refl _) (.inr ⟨by rfl, rfl⟩) ?_
      try simp only [Act.put, List.setIfInBounds_toArray, List.set_cons_zero, List.set_cons_succ]
      refine btake 13 (oi := _) (v := undef) (by simp only [getElem?_toArray, getElem?_cons_succ, getElem?_cons_zero]; rfl) (by kernel_rfl) (by exact fun _ _ _ h => h) (by first | assumption | exact KB.refl _) (.inr ⟨by rfl, rfl⟩) ?_
      try simp only [Act.put, List.setIfInBounds_toArray, List.set_cons_zero, List.set_cons_succ]
      refine btake 14 (oi := _) (v := undef) (by simp only [getElem?_toArray, getElem?_cons_succ, getElem?_cons_zero]; rfl) (by kernel_rfl) (by exact fun _ _ _ h => h) (by first | assumption | exact KB.refl _) (.inr ⟨by rfl, rfl⟩) ?_
      try simp only [Act.put, List.setIfInBounds_toArray, List.set_cons_zero, List.set_cons_succ]
      refine btake 15 (oi := _) (v := ?_) (by simp only [getElem?_toArray, getElem?_cons_succ, getElem?_cons_zero]; rfl) (by kernel_rfl) (by exact fun _ _ _ h => h) (by first | assumption | exact KB.refl _) (.inl ⟨by rfl, fun W hW => ?_⟩) ?_; rotate_left
      · (go_simp; first | done | with_reducible rfl)
      try simp only [Act.put, List.setIfInBounds_toArray, List.set_cons_zero, List.set_cons_succ]
      refine btake 16 (oi := _) (v := ?_) (by simp only [getElem?_toArray, getElem?_cons_succ, getElem?_cons_zero]; rfl) (by kernel_rfl) (by exact fun _ _ _ h => h) (by first | assumption | exact KB.refl _) (.inl ⟨by rfl, fun W hW => ?_⟩) ?_; rotate_left
      · (go_simp; first | done | with_reducible rfl)
      try simp only [Act.put, List.setIfInBounds_toArray, List.set_cons_zero, List.set_cons_succ]
      refine bdone (by kernel_rfl) ?_
      have hbz := H3.out
      go_wp2_with fail
      go_ret
      exact ⟨ret_b HG.out.symm, hbz⟩
    | true =>
      have HG := Lib.hid (show hasV V d = hasS (partV V d.r) d.q by rw [HF.out]; rfl)
      refine bstartH (W.heap) (by kernel_rfl) ?_
      refine btake 0 (oi := _) (v := ?_) (by simp only [List.getElem?_toArray, List.getElem?_cons_zero]; rfl) (by kernel_rfl) (by exact fun _ _ _ h => h) (by first | assumption | exact KB.refl _) (.inl ⟨by rfl, fun W hW => ?_⟩) ?_; rotate_left
      · (go_simp; first | done | with_reducible rfl)
      try simp only [Act.put, List.setIfInBounds_toArray, List.set_cons_zero, List.set_cons_succ]
      -- 1: newsreel/vector.Right
      refine bopH 1 (o := _) (by simp only [getElem?_toArray, getElem?_cons_succ, getElem?_cons_zero]; rfl) (by kernel_rfl) (by first | assumption | exact KB.refl _) (by rfl) (fun K hK => ?_)
      go_simp
      refine (HR.out _ hb1.drew).mono ?_
      rintro e w2 ⟨rfl, h2⟩
      have hkb : KB W.heap w2 := KB.of ((Below.refl _ W).drew.trans h2)
      have H2 := Lib.hid (hb1.drew.trans (h2.mono hb1.size))
      have K2 := Lib.hid hkb
      clear h2
      refine hK.out _ _ hkb ?_; clear hK K
      try simp only [Act.put, List.setIfInBounds_toArray, List.set_cons_zero, List.set_cons_succ]
      refine btake 2 (oi := _) (v := ?_) (by simp only [getElem?_toArray, getElem?_cons_succ, getElem?_cons_zero]; rfl) (by kernel_rfl) (by exact fun _ _ _ h => h) (by first | assumption | exact KB.refl _) (.inl ⟨by rfl, fun W hW => ?_⟩) ?_; rotate_left
      · (go_simp; first | done | with_reducible rfl)
      try simp only [Act.put, List.setIfInBounds_toArray, List.set_cons_zero, List.set_cons_succ]
      refine btake 3 (oi := _) (v := ?_) (by simp only [getElem?_toArray, getElem?_cons_succ, getElem?_cons_zero]; rfl) (by kernel_rfl) (by exact fun _ _ _ h => h) (by first | assumption | exact KB.refl _) (.inl ⟨by rfl, fun W hW => ?_⟩) ?_; rotate_left
      · (go_simp; first | done | with_reducible rfl)
      try simp only [Act.put, List.setIfInBounds_toArray, List.set_cons_zero, List.set_cons_succ]
      -- 4: newsreel/dot.Right
      refine bopH 4 (o := _) (by simp only [getElem?_toArray, getElem?_cons_succ, getElem?_cons_zero]; rfl) (by kernel_rfl) (by first | assumption | exact KB.refl _) (by rfl) (fun K hK => ?_)
      go_simp
      refine (HD.out w2).mono ?_
      rintro e w3 ⟨rfl, h3⟩
      have hkb : KB W.heap w3 := K2.out.trans (KB.of h3)
      have H3 := Lib.hid (H2.out.trans (h3.mono H2.out.size))
      have K3 := Lib.hid hkb
      clear h3
      refine hK.out _ _ hkb ?_; clear hK K
      try simp only [Act.put, List.setIfInBounds_toArray, List.set_cons_zero, List.set_cons_succ]
      refine btake 5 (oi := _) (v := ?_) (by simp only [getElem?_toArray, getElem?_cons_succ, getElem?_cons_zero]; rfl) (by kernel_rfl) (by exact fun _ _ _ h => h) (by first | assumption | exact KB.refl _) (.inl ⟨by rfl, fun W hW => ?_⟩) ?_; rotate_left
      · (go_simp; first | done | with_reducible rfl)
      try simp only [Act.put, List.setIfInBounds_toArray, List.set_cons_zero, List.set_cons_succ]
      refine btake 6 (oi := _) (v := ?_) (by simp only [getElem?_toArray, getElem?_cons_succ, getElem?_cons_zero]; rfl) (by kernel_rfl) (by exact fun _ _ _ h => h) (by first | assumption | exact KB.refl _) (.inl ⟨by rfl, fun W hW => ?_⟩) ?_; rotate_left
      · (go_simp; first | done | with_reducible rfl)
      try simp only [Act.put, List.setIfInBounds_toArray, List.set_cons_zero, List.set_cons_succ]
      refine btake 7 (oi := _) (v := ?_) (by simp only [getElem?_toArray, getElem?_cons_succ, getElem?_cons_zero]; rfl) (by kernel_rfl) (by exact fun _ _ _ h => h) (by first | assumption | exact KB.refl _) (.inl ⟨by rfl, fun W hW => ?_⟩) ?_; rotate_left
      · (go_simp; first | done | with_reducible rfl)
      try simp only [Act.put, List.setIfInBounds_toArray, List.set_cons_zero, List.set_cons_succ]
      refine btake 9 (oi := _) (v := ?_) (by simp only [getElem?_toArray, getElem?_cons_succ, getElem?_cons_zero]; rfl) (by kernel_rfl) (by exact fun _ _ _ h => h) (by first | assumption | exact KB.refl _) (.inl ⟨by rfl, fun W hW => ?_⟩) ?_; rotate_left
      · (go_simp; first | done | with_reducible rfl)
      try simp only [Act.put, List.setIfInBounds_toArray, List.set_cons_zero, List.set_cons_succ]
      refine btake 10 (oi := _) (v := ?_) (by simp only [getElem?_toArray, getElem?_cons_succ, getElem?_cons_zero]; rfl) (by kernel_rfl) (by exact fun _ _ _ h => h) (by first | assumption | exact KB.refl _) (.inl ⟨by rfl, fun W hW => ?_⟩) ?_; rotate_left
      · (go_simp; first | done | with_reducible rfl)
      try simp only [Act.put, List.setIfInBounds_toArray, List.set_cons_zero, List.set_cons_succ]
      refine btake 12 (oi := _) (v := ?_) (by simp only [getElem?_toArray, getElem?_cons_succ, getElem?_cons_zero]; rfl) (by kernel_rfl) (by exact fun _ _ _ h => h) (by first | assumption | exact KB.refl _) (.inl ⟨by rfl, fun W hW => ?_⟩) ?_; rotate_left
      · (go_simp; first | done | with_reducible rfl)
      try simp only [Act.put, List.setIfInBounds_toArray, List.set_cons_zero, List.set_cons_succ]
      refine btake 13 (oi := _) (v := ?_) (by simp only [getElem?_toArray, getElem?_cons_succ, getElem?_cons_zero]; rfl) (by kernel_rfl) (by exact fun _ _ _ h => h) (by first | assumption | exact KB.refl _) (.inl ⟨by rfl, fun W hW => ?_⟩) ?_; rotate_left
      · (go_simp; first | done | with_reducible rfl)
      try simp only [Act.put, List.setIfInBounds_toArray, List.set_cons_zero, List.set_cons_succ]
      -- 8: newsreel/vector.table
      refine bopH 8 (o := _) (by simp only [getElem?_toArray, getElem?_cons_succ, getElem?_cons_zero]; rfl) (by kernel_rfl) (by first | assumption | exact KB.refl _) (by rfl) (fun K hK => ?_)
      go_simp
      refine (HT.out w3 H3.out HP.out).mono ?_
      rintro e w4 ⟨b, T, rfl, hms, hpt, hbb, h4⟩
      obtain ⟨A', c', hlk, hst⟩ := hms.look1 hpt d.r hr
      have hkb : KB W.heap w4 := K3.out.trans (KB.of h4)
      have H4 := Lib.hid (H3.out.trans (h4.mono H3.out.size))
      have K4 := Lib.hid hkb
      clear hms hpt hbb h4
      refine hK.out _ _ hkb ?_; clear hK K
      try simp only [Act.put, List.setIfInBounds_toArray, List.set_cons_zero, List.set_cons_succ]
      -- 11: Op.lookup 58 (Operand.tmp 13) (Operand.tmp 15) false
      refine bopH 11 (o := _) (by simp only [getElem?_toArray, getElem?_cons_succ, getElem?_cons_zero]; rfl) (by kernel_rfl) (by first | assumption | exact KB.refl _) (by rfl) (fun K hK => ?_)
      go_simp
      have hkb : KB W.heap w4 := K4.out
      refine hK.out _ _ hkb ?_; clear hK K
      try simp only [Act.put, List.setIfInBounds_toArray, List.set_cons_zero, List.set_cons_succ]
      -- 14: newsreel/span.Has
      refine bopH 14 (o := _) (by simp only [getElem?_toArray, getElem?_cons_succ, getElem?_cons_zero]; rfl) (by kernel_rfl) (by first | assumption | exact KB.refl _) (by rfl) (fun K hK => ?_)
      go_simp
      refine (RHas_any w4 A' _ c' (partV V d.r) hst.1 rfl (by have := HL.out; omega) d.q).mono ?_
      rintro e w5 ⟨rfl, h5⟩
      have hkb : KB W.heap w5 := K4.out.trans (KB.of h5)
      have H5 := Lib.hid (H4.out.trans (h5.mono H4.out.size))
      clear h5
      refine hK.out _ _ hkb ?_; clear hK K
      try simp only [Act.put, List.setIfInBounds_toArray, List.set_cons_zero, List.set_cons_succ]
      refine btake 15 (oi := _) (v := ?_) (by simp only [getElem?_toArray, getElem?_cons_succ, getElem?_cons_zero]; rfl) (by kernel_rfl) (by exact fun _ _ _ h => h) (by first | assumption | exact KB.refl _) (.inl ⟨by rfl, fun W hW => ?_⟩) ?_; rotate_left
      · (go_simp; first | done | with_reducible rfl)
      try simp only [Act.put, List.setIfInBounds_toArray, List.set_cons_zero, List.set_cons_succ]
      refine btake 16 (oi := _) (v := ?_) (by simp only [getElem?_toArray, getElem?_cons_succ, getElem?_cons_zero]; rfl) (by kernel_rfl) (by exact fun _ _ _ h => h) (by first | assumption | exact KB.refl _) (.inl ⟨by rfl, fun W hW => ?_⟩) ?_; rotate_left
      · (go_simp; first | done | with_reducible rfl)
      try simp only [Act.put, List.setIfInBounds_toArray, List.set_cons_zero, List.set_cons_succ]
      refine bdone (by kernel_rfl) ?_
      have hbz := H5.out
      go_wp2_with fail
      go_ret
      exact ⟨ret_b HG.out.symm, hbz⟩
end Go.Proofs.Ytaflikgdlkaefaa
/- Vectors: the run that every law begins with. -/
namespace Go.Proofs.Ytaflikgdlkaefaa
open Go.RowKit Go.Proofs.Ytaflikgdlkaefaa.Pl Go.Proofs.Ytaflikgdlkaefaa.Sp Go.Proofs.Ytaflikgdlkaefaa.Ve
set_option maxRecDepth 20000

def kvD : List Dt.D2 := [⟨1, 1⟩, ⟨1, 5⟩, ⟨1, 2⟩, ⟨0, 0⟩]
def kvV : VL := [(1, [⟨1, 2⟩, ⟨5, 5⟩])]
def kvB : List UInt8 := [1, 1, 2, 1, 1, 0]
theorem kv_of : ofV kvD = kvV := by kernel_rfl
theorem kv_right : rightV kvV = true := by kernel_rfl
theorem kv_base : baseV kvV 1 = 2 := by kernel_rfl
theorem kv_extra : extraV kvV 1 = [⟨5, 5⟩] := by kernel_rfl
theorem kv_count : countV kvV = 3 := by kernel_rfl
theorem kv_has : hasV kvV ⟨1, 5⟩ = true := by kernel_rfl
theorem kv_bytes : bytesV kvV = kvB := by kernel_rfl
theorem kv_take : takeV (kvB ++ [7]) = (kvV, 6, 0) := by kernel_rfl
theorem kv_same : sameV kvV kvV = true := by kernel_rfl
theorem kv_lim (m : Nat) (h : 2 ≤ m) : Lim m kvV := fun p hp => by
  obtain rfl := List.mem_singleton.1 hp
  exact h
theorem kv_str : ∀ w : World, (binOp .eql 9 (.string ⟨kvB.toArray⟩) (.string ⟨#[1, 1, 2, 1, 1, 0]⟩)).run Try.prog w = .ok (.bool true) w := fun w => by
  go_simp
  rfl
set_option maxRecDepth 100000 in
set_option maxHeartbeats 6400000 in
theorem vknown_any (w : World) : Calls Try.prog 7 #[] w fun e w' => e = .returned (.bool true) ∧ Below w.heap.size w w' := by
  have hb0 := balloc (Below.refl w.heap.size w) (.cells #[.int .i64 1, .int .i64 1, .int .i64 1, .int .i64 5, .int .i64 1, .int .i64 2, .int .i64 0, .int .i64 0] 32)
  have hs0 := (Sl.new w 32 #[.int .i64 1, .int .i64 1, .int .i64 1, .int .i64 5, .int .i64 1, .int .i64 2, .int .i64 0, .int .i64 0] (0, 0)).more (B' := (w.alloc (.cells #[.int .i64 1, .int .i64 1, .int .i64 1, .int .i64 5, .int .i64 1, .int .i64 2, .int .i64 0, .int .i64 0] 32)).heap.size) (by simp)
  have hO := VOf_own _ (some ⟨w.heap.size, 0, none⟩) 4 4 kvD hs0 rfl (by omega)
  rw [kv_of] at hO
  have HO := Lib.hid hO
  clear hO hs0
  go_enter Try.func7, Try.ntmps7
  go_wp2_with fail
  refine HO.out.mono ?_
  rintro e w1 ⟨A1, c1, R1, rfl, hv1, hR1, h1⟩
  obtain ⟨Ax, cx, ex, hvs⟩ := hv1.vs
  injection ex with ex1 ex2 ex3
  clear ex2
  subst ex1
  subst ex3
  rw [hR1] at hvs
  obtain ⟨n1, hn1⟩ : ∃ m, R1.length = m := ⟨_, rfl⟩
  rw [hn1] at hvs ⊢
  obtain rfl : n1 = 1 := hvs.len.symm
  have hbb := balloc (Below.refl w1.heap.size w1) (.cells #[.slice A1 1 c1] 27)
  have a1 := At.new w1 27 #[.slice A1 1 c1]
  have HV1 := Lib.hid (And.intro (hvs.below hbb) (And.intro a1 ((hb0.trans (h1.mono hb0.size)).trans (hbb.mono (Nat.le_trans hb0.size h1.size)))))
  have y0 := a1.c 0 rfl
  clear hvs hv1 hR1 h1 hb0 HO hn1 hbb a1
  go_wp2_with fail
  generalize w1.alloc (.cells #[.slice A1 1 c1] 27) = w2 at *
  generalize w1.heap.size = g1 at *
  have hX := Extra_any w2 A1 1 c1 R1 kvV HV1.out.1 (by omega) (kv_lim _ (by omega)) 1 (by unfold i64in; omega)
  rw [kv_extra] at hX
  have HX := Lib.hid hX
  clear hX
  refine HX.out.mono ?_
  rintro e w3 ⟨A3, c3, rfl, hs3, hl3, hc3, h3⟩
  rw [show ([⟨5, 5⟩] : List Rg).length = 1 from rfl]
  have hB := VBytes_any w3 A1 1 c1 R1 kvV (HV1.out.1.below h3) (by omega) (kv_lim _ (by omega))
  rw [kv_bytes] at hB
  have HB := Lib.hid hB
  have H3 := Lib.hid (And.intro (HV1.out.2.1.below h3) (And.intro hs3 h3))
  have y1 := H3.out.1.c 0 rfl
  clear hB hs3 hl3 hc3 h3 HX y0
  go_wp2_with fail
  refine HB.out.mono ?_
  rintro e w4 ⟨A4, c4, rfl, hown4, h4⟩
  rw [show kvB.length = 6 from rfl] at hown4 ⊢
  have H4 := Lib.hid (And.intro hown4 h4)
  have hs34 : w3.heap.size ≤ w4.heap.size := h4.size
  clear hown4 h4 HB y1
  go_wp2_with (at_builtin; refine appN rfl rfl H4.out.1 (one_bv 7 (by omega)) rfl rfl rfl (by decide) hs34 ?_; intro v5 w5 hown5 hg5 hat5; obtain ⟨A5, c5, e5, f5, g5, h5, _⟩ := hown5.form; rw [show (kvB ++ [UInt8.ofNat 7]).length = 7 from rfl] at e5; subst e5; have H5 := Lib.hid (And.intro hg5 (And.intro f5 (And.intro g5 (And.intro h5 hown5)))); clear hown5 hg5 hat5 f5 g5 h5)
  have hb35 := own_below H4.out.2 hs34 H4.out.1 H5.out.1
  have hT := VTake_any w5 A5 7 c5 (kvB ++ [UInt8.ofNat 7]) H5.out.2.2.2.1 rfl H5.out.2.1 H5.out.2.2.1 (by omega)
  rw [show takeV (kvB ++ [UInt8.ofNat 7]) = (kvV, 6, 0) from kv_take] at hT
  have HT := Lib.hid hT
  have HB5 := Lib.hid hb35
  clear hT hb35
  refine HT.out.mono ?_
  rintro e w6 ⟨A6, n6, c6, R6, rfl, hv6, h6⟩
  obtain rfl : n6 = 1 := hv6.len.symm
  have hbb := balloc (Below.refl w6.heap.size w6) (.cells #[.slice A6 1 c6] 27)
  have a6 := At.new w6 27 #[.slice A6 1 c6]
  have hb36 : Below w3.heap.size w3 w6 := HB5.out.trans (h6.mono HB5.out.size)
  have hb37 := hb36.trans (hbb.mono hb36.size)
  have hb27 := H3.out.2.2.trans (hb37.mono H3.out.2.2.size)
  have hsl : Sl (w6.alloc (.cells #[.slice A6 1 c6] 27)) (w6.alloc (.cells #[.slice A6 1 c6] 27)).heap.size A3 (rv [⟨5, 5⟩]) := (H3.out.2.1.below hb37).more hb37.size
  have HQ := Lib.hid (fun W (hW : Below (w6.alloc (.cells #[.slice A6 1 c6] 27)).heap.size (w6.alloc (.cells #[.slice A6 1 c6] 27)) W) => And.intro ((HV1.out.1.below hb27).below hW) (And.intro ((hv6.below hbb).below hW) (And.intro ((HV1.out.2.1.below hb27).below hW) (And.intro (a6.below hW) (And.intro ((hsl.below hW).more hW.size) ((HV1.out.2.2.trans (hb27.mono HV1.out.2.2.size)).trans (hW.mono (Nat.le_trans HV1.out.2.2.size hb27.size))))))))
  have y7 := ((HV1.out.2.1.below hb27)).c 0 rfl
  clear hbb a6 hb36 hb37 hb27 hv6 h6 HT hsl
  go_wp2_with fail
  generalize w6.alloc (.cells #[.slice A6 1 c6] 27) = w7 at *
  generalize w6.heap.size = g3 at *
  have HR := Lib.hid (fun W hW => VRight_any W A1 1 c1 R1 kvV (HQ.out W hW).1 (by omega) (kv_lim _ (by omega)))
  have HBs := Lib.hid (fun W hW => Base_any W A1 1 c1 R1 kvV (HQ.out W hW).1 (by omega) (kv_lim _ (by omega)) 1 (by unfold i64in; omega))
  have HC := Lib.hid (fun W hW => Count_any W A1 1 c1 R1 kvV (HQ.out W hW).1 (by omega) (kv_lim _ (by omega)))
  have HH := Lib.hid (fun W hW => Has_any W A1 1 c1 R1 kvV (HQ.out W hW).1 (by omega) (kv_lim _ (by omega)) ⟨1, 5⟩ (by unfold i64in; dsimp only; omega))
  have HY := Lib.hid (fun W hW => VBytes_any W A1 1 c1 R1 kvV (HQ.out W hW).1 (by omega) (kv_lim _ (by omega)))
  have HS := Lib.hid (fun W hW => Same_any W A1 A6 1 1 c1 c6 R1 R6 kvV kvV (HQ.out W hW).1 (HQ.out W hW).2.1 (by omega) (by omega) (kv_lim _ (by omega)) (kv_lim _ (by omega)))
  rw [kv_right] at HR
  rw [kv_base] at HBs
  rw [kv_count] at HC
  rw [kv_has] at HH
  rw [kv_bytes] at HY
  rw [kv_same] at HS
  unfold Dt.D2.v at HH
  have hstr := kv_str
  have hrg := eq2R
  unfold Rg.v at hrg
  refine (HR.out w7 (Below.refl _ _)).mono ?_
  rintro e w8 ⟨rfl, h8⟩
  have y8 := (HQ.out w8 h8).2.2.1.c 0 rfl
  clear y7
  go_wp2_with fail
  refine (HBs.out w8 h8).mono ?_
  rintro e w9 ⟨rfl, h9⟩
  have k9 := h8.trans (h9.mono h8.size)
  have y9 := (HQ.out w9 k9).2.2.1.c 0 rfl
  obtain ⟨bx, ox, rfl, _, _, x0, x1⟩ := rgAt (HQ.out w9 k9).2.2.2.2.1 (k := 0) (by simp)
  simp only [Nat.zero_mul, Nat.add_zero, List.getElem?_cons_zero, Option.getD_some] at x0 x1
  clear y8 h8 h9
  go_wp2_with fail
  refine (HC.out w9 k9).mono ?_
  rintro e wa ⟨rfl, ha⟩
  have ka := k9.trans (ha.mono k9.size)
  have ya := (HQ.out wa ka).2.2.1.c 0 rfl
  clear y9 x0 x1 k9 ha
  go_wp2_with fail
  refine (HH.out wa ka).mono ?_
  rintro e wb ⟨rfl, hb⟩
  have kb := ka.trans (hb.mono ka.size)
  have yb := (HQ.out wb kb).2.2.1.c 0 rfl
  clear ya ka hb
  go_wp2_with fail
  refine (HY.out wb kb).mono ?_
  rintro e wc ⟨Ac, cc, rfl, hownc, hc⟩
  have kc := kb.trans (hc.mono kb.size)
  have yc := (HQ.out wc kc).2.2.1.c 0 rfl
  have yd := (HQ.out wc kc).2.2.2.1.c 0 rfl
  obtain ⟨Az, cz, ez, _, _, hsz, _⟩ := hownc.form
  injection ez with ez1 ez2 ez3
  subst ez1
  have hcv := conv hsz 6 cc rfl
  rw [show kvB.length = 6 from rfl]
  clear yb kb hc hownc ez2 ez3 hsz
  go_wp2_with fail
  refine (HS.out wc kc).mono ?_
  rintro e wd ⟨rfl, hd⟩
  have kd := kc.trans (hd.mono kc.size)
  have hbz := (HQ.out wd kd).2.2.2.2.2
  clear yc yd kc hd hcv
  go_wp2_with fail
  go_ret
  exact ⟨rfl, hbz⟩
end Go.Proofs.Ytaflikgdlkaefaa
/- Vectors: the block of an array, known whole. -/
namespace Go.Proofs.Ytaflikgdlkaefaa
open Go.RowKit Go.Maps Go.Proofs.Ytaflikgdlkaefaa.Pl Go.Proofs.Ytaflikgdlkaefaa.Sp Go.Proofs.Ytaflikgdlkaefaa.Ve
set_option maxRecDepth 20000

/-- the array's block -/
def Ar (w : World) (g : Nat) (us : List Value) : Prop := w.heap[g]? = some (.cells us.toArray 83)
theorem Ar.new (w : World) (us : List Value) : Ar (w.alloc (.cells us.toArray 83)) w.heap.size us := World.alloc_heap_new w _
theorem Ar.lt {w : World} {g : Nat} {us : List Value} (h : Ar w g us) : g < w.heap.size := (Array.getElem?_eq_some_iff.1 h).1
theorem Ar.cell {w : World} {g : Nat} {us : List Value} (h : Ar w g us) (o : Nat) : w.cell? ⟨g, o, none⟩ = us[o]? := by
  unfold Ar at h
  simp [World.cell?, h]
theorem Ar.at_ {w : World} {g : Nat} {us : List Value} (h : Ar w g us) : At w g us := ⟨h.lt, fun i v hv => ⟨(h.cell i).trans hv, by simp [World.frozen?, show w.heap[g]? = _ from h]⟩⟩
theorem Ar.set {w : World} {g : Nat} {us : List Value} (h : Ar w g us) (r : Nat) (v : Value) : Ar (w.setCell ⟨g, r, none⟩ v) g (us.set r v) := by
  obtain ⟨hlt, hk⟩ := Array.getElem?_eq_some_iff.1 h
  show (w.heap.modify g _)[g]? = _
  rw [Array.getElem?_eq_getElem (by rw [Array.size_modify]; exact hlt), Array.getElem_modify_self, hk]
  simp
theorem Ar.grown {w w' : World} {g : Nat} {us : List Value} (h : Ar w g us) {row : Option Nat} (hg : w.grownBy w' row) (hne : row ≠ some g) : Ar w' g us := (hg.block g h.lt (fun e => hne e.symm)).trans h
theorem Ar.below {w w' : World} {g : Nat} {us : List Value} (h : Ar w g us) (hb : Below w.heap.size w w') : Ar w' g us := (hb.block g h.lt).trans h
/-- ranges do not lie in it -/
theorem RSt.apart {w : World} {g : Nat} {X : List RSl} (h : Ar w g (XA.us X)) {q : RA} (hq : RSt w q) (hl : q.l ≠ []) {b o : Nat} {s : Option Nat} (e : q.A = some ⟨b, o, s⟩) : b ≠ g := by
  intro hb
  subst hb
  rcases hq.1 with h1 | ⟨b', o', e', _, _, h3⟩
  · obtain ⟨x, t, hx⟩ := List.exists_cons_of_ne_nil hl
    rw [hx] at h1
    have := congrArg List.length h1
    rw [rv_len] at this
    simp at this
  · rw [e] at e'
    injection e' with e'
    injection e' with e1 e2
    subst e1
    obtain ⟨x, t, hx⟩ := List.exists_cons_of_ne_nil hl
    have h4 := h3 0 (.int .i64 x.a) (by rw [hx]; rfl)
    rw [Nat.add_zero, h.cell, XA.us, List.getElem?_map] at h4
    cases hX : X[o']? with
    | none => rw [hX] at h4; cases h4
    | some y => rw [hX] at h4; cases h4
/-- a slice is stored into the array -/
theorem XA.store {w : World} {g : Nat} {X : List RSl} {f f' : Int → List Rg} (hX : XA w X f) (hA : Ar w g (XA.us X)) {r : Nat} (hr : r < 64) {s : RSl} (hs : s.n = (f' r).length) (hst : RSt w ⟨r, s.A, s.c, f' r⟩) (hf : ∀ i : Nat, i < 64 → i ≠ r → f' i = f i) :
    XA (w.setCell ⟨g, r, none⟩ s.v) (X.set r s) f' ∧ Ar (w.setCell ⟨g, r, none⟩ s.v) g (XA.us (X.set r s)) := by
  have key : ∀ q : RA, RSt w q → RSt (w.setCell ⟨g, r, none⟩ s.v) q := fun q hq => hq.grown (grownS w g r s.v) fun hl b o s' e e' => RSt.apart hA hq hl e (Option.some.inj e').symm
  refine ⟨XA.set (f := f) ⟨hX.1, fun i hi => ?_⟩ hr hs (key _ hst) hf, ?_⟩
  · obtain ⟨s', h1, h2, h3⟩ := hX.2 i hi
    exact ⟨s', h1, h2, key _ h3⟩
  · have := hA.set r s.v
    rw [XA.us, List.map_set]
    exact this
end Go.Proofs.Ytaflikgdlkaefaa
