/- Vectors: the document's row. -/
import Derived.Test.YtaflikgdlkaefaaGreatT09
import Derived.Test.YtaflikgdlkaefaaGreatT11
import Derived.Test.YtaflikgdlkaefaaGreatT15
namespace Go.Proofs.YtaflikgdlkaefaaGreat
open Go.RowKit Go.Proofs.YtaflikgdlkaefaaGreat.Pl Go.Proofs.YtaflikgdlkaefaaGreat.Sp Go.Proofs.YtaflikgdlkaefaaGreat.Ve
set_option maxRecDepth 20000

theorem results_rowT {w : World} {fn : Func} (h : fn.results = #[.cell 2 60, .tmp 3, .tmp 4]) (tmps : Array Value) {g : Nat} {u v x y : Value} (hx : tmps.getD 2 undef = .pointer (some ⟨g, 0, none⟩)) (h3 : tmps.getD 3 undef = x) (h4 : tmps.getD 4 undef = y) (hA : At w g [u, v]) :
  (results fn tmps).run Tryz.prog w = .ok (.tuple #[.agg #[u, v], x, y]) w := by
 have hl := run_loadCells_list (P := Tryz.prog) w ⟨g, 0, none⟩ [u, v] (fun j z hz => by rw [addN]; exact hA.c j hz)
 have hx' : tmps[2]?.getD undef = .pointer (some ⟨g, 0, none⟩) := by simpa using hx
 have h3' : tmps[3]?.getD undef = x := by simpa using h3
 have h4' : tmps[4]?.getD undef = y := by simpa using h4
 have hl' : (loadCells ⟨g, 0, none⟩ 2 : Sem (Array Value)).run Tryz.prog w = .ok #[u, v] w := hl
 simp [results, h, hx', h3', h4', asAddr, loadVar, hl']
/-- what row answers -/
def RowPostD (w : World) (x0 : Nat) (G : List Rg × Nat × Nat) (e : Ending) (w' : World) : Prop :=
 ∃ r v, e = .returned (.tuple #[.agg #[.int .i64 r, v], .int .i64 (G.2.1 : Int), .int .i64 (G.2.2 : Int)]) ∧ OwnR w' w.heap.size v G.1 ∧ (G.2.2 = 0 → r = (x0 : Int)) ∧ Below w.heap.size w w'
/-- what row's loop holds -/
def RowInvD (w : World) (b : List UInt8) (G : List Rg × Nat × Nat) (X : Nat) (x6 x7 x10 : Value) (wr : World) : Prop :=
 ∃ (m en k : Nat) (o : List Rg) (v : Value), x6 = .int .u64 (m : Int) ∧ x7 = .int .i64 (k : Int) ∧ x10 = .int .i64 (en : Int) ∧ m < 18446744073709551616 ∧ en ≤ 1099511627775 ∧ k ≤ b.length ∧ o.length ≤ k ∧ goG b m o en k = G ∧
  At wr w.heap.size [.int .i64 0, .slice none 0 0] ∧ At wr (w.heap.size + 1) [.int .i64 (X : Int), v] ∧ OwnR wr (w.heap.size + 2) v o ∧ Below w.heap.size w wr
set_option maxRecDepth 100000 in
set_option maxHeartbeats 12800000 in
theorem RRow_any (w : World) (A : Option Addr) (n c : Nat) (b : List UInt8) (X : Nat) (hX : at_ b 0 = X) (hX8 : X < 256) (hn : 0 < n) (hb : Sl w w.heap.size A (bv b)) (h0 : n = b.length) (hc : n ≤ c) (hcm : c ≤ maxLen) (hbl : n ≤ 100000000) :
    Calls Tryz.prog 65 #[.slice A n c] w (RowPostD w X (rowS b 1)) := by
  obtain ⟨G, hG⟩ : ∃ G, rowS b 1 = G := ⟨_, rfl⟩
  rw [hG]
  obtain ⟨A1, hsl1, hS1⟩ := sl_postB A n c 1 (by omega) hc
  obtain ⟨⟨bs, mn, n1, e1⟩, ht⟩ : ∃ r, twoS (b.drop 1) = r := ⟨_, rfl⟩
  have hb1 : Below w.heap.size w (w.alloc (.cells #[.int .i64 0, .slice none 0 0] 60)) := balloc (Below.refl _ _) _
  have a2 : At (w.alloc (.cells #[.int .i64 0, .slice none 0 0] 60)) w.heap.size [.int .i64 0, .slice none 0 0] := At.new w 60 #[.int .i64 0, .slice none 0 0]
  have hsz : (w.alloc (.cells #[.int .i64 0, .slice none 0 0] 60)).heap.size = w.heap.size + 1 := by simp
  have hbA := (hb.below hb1).more hb1.size
  have hT := RTwo_any _ A1 (n - 1) (c - 1) (b.drop 1) (hS1 _ _ b h0.symm hbA) (by rw [List.length_drop]; omega) (by omega) (by omega)
  rw [ht] at hT
  have hlt := twoS_drop_le b (k := 1) (by omega)
  rw [ht] at hlt
  dsimp only at hlt
  obtain ⟨bb, oo, eA, _, _, hcell⟩ := hbA.at_ (k := 0) (by simp [bv]; omega)
  have hx0 := hcell 0 (.int .u8 (X : Int)) (by
    rw [← hX]
    unfold at_
    cases b with
    | nil => simp at h0; omega
    | cons x t => simp [bv, u8v])
  rw [Nat.add_zero] at hx0
  have hrs : rowS b 1 = if e1 ≠ 0 then ([], 0, e1) else if Mx < bs ∨ bs = 0 ∧ mn = 0 then ([], 0, 21) else goG b mn (baseR bs) bs (1 + n1) := by unfold rowS; rw [ht]
  rw [hG] at hrs
  have htk : e1 = 0 → bs < 18446744073709551616 ∧ mn < 18446744073709551616 := fun h => by
    subst h
    have := twoS_ok ht
    exact ⟨this.2.2.2.1, this.2.2.2.2⟩
  have hpb := sl_postB A n c
  have HT := Lib.hid hT
  have HSL := Lib.hid hsl1
  have HB := Lib.hid (And.intro hb (And.intro h0 (And.intro hc (And.intro hcm (And.intro hbl (And.intro hpb (And.intro hrs htk)))))))
  have HA := Lib.hid (And.intro a2 hb1)
  clear hT hsl1 hS1 hb h0 hc hcm hbl hrs hG ht htk hbA hcell hX hpb a2 hb1
  subst eA
  go_enter Tryz.func65, Tryz.ntmps65
  go_wp2_with (refine mval rfl (exec_postB rfl rfl rfl HSL.out _) ?_)
  generalize w.alloc (.cells #[.int .i64 0, .slice none 0 0] 60) = W1 at *
  refine HT.out.mono ?_
  rintro e w1 ⟨rfl, rfl⟩
  have p0 := HA.out.1.c 0 rfl
  have p1 := HA.out.1.c 1 rfl
  have f0 := HA.out.1.f 0 rfl
  have f1 := HA.out.1.f 1 rfl
  have hz2 := (HA.out.1.set 0 (.int .i64 0) (by simp)).set 1 (.slice none 0 0) (by simp)
  have hzb : Below w.heap.size w ((W1.setCell ⟨w.heap.size, 0, none⟩ (.int .i64 0)).setCell ⟨w.heap.size, 1, none⟩ (.slice none 0 0)) := (HA.out.2.setCell (Nat.le_refl _) _).setCell (Nat.le_refl _) _
  have HZ := Lib.hid (And.intro hz2 hzb)
  clear hz2 hzb
  by_cases he : e1 = 0
  · subst he
    obtain ⟨hbs, hmn⟩ := HB.out.2.2.2.2.2.2.2 rfl
    by_cases q1 : Mx < bs
    · have HG := Lib.hid (show G = ([], 0, 21) by rw [HB.out.2.2.2.2.2.2.1, if_neg (by simp), if_pos (.inl q1)])
      unfold Mx at q1
      have d1 : decide ((1099511627775 : Int) < (bs : Int)) = true := by rw [decide_eq_true_eq]; omega
      go_wp2_with fail
      exact bodyPost_ret (results_rowT rfl _ rfl rfl rfl HZ.out.1) rfl ⟨0, .slice none 0 0, by rw [HG.out]; rfl, by rw [HG.out]; exact OwnR.nil _ _, (fun h => by rw [HG.out] at h; cases h), HZ.out.2⟩
    · have d1 : decide ((1099511627775 : Int) < (bs : Int)) = false := by unfold Mx at q1; rw [decide_eq_false_iff_not]; omega
      by_cases q2 : bs = 0 ∧ mn = 0
      · have HG := Lib.hid (show G = ([], 0, 21) by rw [HB.out.2.2.2.2.2.2.1, if_neg (by simp), if_pos (.inr q2)])
        obtain ⟨rfl, rfl⟩ := q2
        go_wp2_with fail
        exact bodyPost_ret (results_rowT rfl _ rfl rfl rfl HZ.out.1) rfl ⟨0, .slice none 0 0, by rw [HG.out]; rfl, by rw [HG.out]; exact OwnR.nil _ _, (fun h => by rw [HG.out] at h; cases h), HZ.out.2⟩
      · have HG := Lib.hid (show G = goG b mn (baseR bs) bs (1 + n1) by rw [HB.out.2.2.2.2.2.2.1, if_neg (by simp), if_neg (by rintro (h | h); exact q1 h; exact q2 h)])
        have hcx : IntKind.i64.wrap (X : Int) = (X : Int) := by rw [IntKind.wrap_i64]; omega
        unfold Mx at q1
        have hwb : IntKind.i64.wrap (bs : Int) = (bs : Int) := by rw [IntKind.wrap_i64]; omega
        have hbl := HB.out.2.2.2.2.1
        have hnl := HB.out.2.1
        have hwk : IntKind.i64.wrap ((n1 : Int) + 1) = ((1 + n1 : Nat) : Int) := by rw [IntKind.wrap_i64]; omega
        have hk1 : 1 + n1 ≤ b.length := hlt
        have hb5 : Below W1.heap.size W1 (W1.alloc (.cells #[.int .i64 (X : Int), .slice none 0 0] 60)) := balloc (Below.refl _ _) _
        have a5 : At (W1.alloc (.cells #[.int .i64 (X : Int), .slice none 0 0] 60)) (w.heap.size + 1) [.int .i64 (X : Int), .slice none 0 0] := by
          have := At.new W1 60 #[.int .i64 (X : Int), .slice none 0 0]
          rw [hsz] at this
          exact this
        have a25 := HA.out.1.below hb5
        have hw5 := HA.out.2.trans (hb5.mono HA.out.2.size)
        have y1 := a5.c 1 rfl
        have hn0 : (0 : Int) < (n : Int) := by omega
        have hn1 : 0 < n := hn
        have HOW : OwnR ((W1.alloc (.cells #[.int .i64 (X : Int), .slice none 0 0] 60)).alloc (.cells #[.int .i64 1, .int .i64 (bs : Int)] 58)) (w.heap.size + 2) (.slice none 0 0) [] := OwnR.nil _ _
        have hsb : w.heap.size + 2 ≤ ((W1.alloc (.cells #[.int .i64 (X : Int), .slice none 0 0] 60)).alloc (.cells #[.int .i64 1, .int .i64 (bs : Int)] 58)).heap.size := by simp; omega
        have hso : Sl ((W1.alloc (.cells #[.int .i64 (X : Int), .slice none 0 0] 60)).alloc (.cells #[.int .i64 1, .int .i64 (bs : Int)] 58)) ((W1.alloc (.cells #[.int .i64 (X : Int), .slice none 0 0] 60)).alloc (.cells #[.int .i64 1, .int .i64 (bs : Int)] 58)).heap.size (some ⟨w.heap.size + 1 + 1, 0, none⟩) (rv [⟨1, (bs : Int)⟩]) := by
          have := Sl.oneR (W1.alloc (.cells #[.int .i64 (X : Int), .slice none 0 0] 60)) ⟨1, (bs : Int)⟩
          rw [World.size_alloc W1, hsz] at this
          exact this
        have HSO := Lib.hid hso
        clear hso
        have HQ := Lib.hid (And.intro a25 (And.intro a5 hw5))
        have HK := Lib.hid (And.intro hk1 hmn)
        clear a25 a5 hw5 hb5 HZ p0 p1 f0 f1 hlt hk1
        have hcs : (decide ((0 : Int) < (bs : Int)) = false ∧ decide (0 < bs) = false ∧ bs = 0 ∧ mn ≠ 0 ∧ ((mn : Int) == 0) = false ∧ decide (mn = 0) = false ∧ decide ((mn : Int) = 0) = false) ∨ (decide ((0 : Int) < (bs : Int)) = true ∧ decide (0 < bs) = true ∧ 0 < bs ∧ ((bs : Int) == 0) = false ∧ decide (bs = 0) = false ∧ decide ((bs : Int) = 0) = false ∧ True) := by
          by_cases q : bs = 0
          · have hm : mn ≠ 0 := fun h => q2 ⟨q, h⟩
            refine .inl ⟨by rw [decide_eq_false_iff_not]; omega, by rw [decide_eq_false_iff_not]; omega, q, hm, by rw [beq_eq_false_iff_ne]; omega, by rw [decide_eq_false_iff_not]; omega, by rw [decide_eq_false_iff_not]; omega⟩
          · refine .inr ⟨by rw [decide_eq_true_eq]; omega, by rw [decide_eq_true_eq]; omega, by omega, by rw [beq_eq_false_iff_ne]; omega, by rw [decide_eq_false_iff_not]; omega, by rw [decide_eq_false_iff_not]; omega, trivial⟩
        clear q2 hnl
        rcases hcs with ⟨c1, c2, rfl, c4, c5, c6, c7⟩ | ⟨c1, c2, c3, c4, c5, c6, c7⟩
        all_goals
          go_wp2_with (at_builtin; refine appR rfl rfl HOW HSO.out rfl rfl rfl (by simp) hsb ?_; intro v7 w7 h7 hg7 hat7; obtain ⟨A7, d7, e7, _⟩ := h7.form; obtain ⟨n7, hn7⟩ : ∃ m, ([] ++ [(⟨1, (bs : Int)⟩ : Rg)]).length = m := ⟨_, rfl⟩; rw [hn7] at e7; clear hn7; subst e7; have H7 := Lib.hid (And.intro h7 hg7); clear h7 hat7; have A57 := (HQ.out.2.1.below (boxR _ ⟨1, (bs : Int)⟩)).grown hg7 (by simp [Value.ownBlock]); clear hg7; have z7 := A57.c 1 rfl; have f7 := A57.f 1 rfl)
          go_loopw [6, 7, 10] (fun x6 x7 x10 wr => RowInvD w b G X x6 x7 x10 wr) (fun x6 _ _ _ => (intOf x6).toNat)
          case atStart =>
            first
            | exact (by
                have hc3 := c3
                have q2 := grownC w7 (w.heap.size + 1) 1 (.slice A7 n7 d7)
                have q3 := ((HQ.out.1.below (boxR _ ⟨1, (bs : Int)⟩)).grown H7.out.2 (by simp [Value.ownBlock])).grown q2 (fun e => by have := Option.some.inj e; omega)
                have q5 := H7.out.1
                rw [List.nil_append] at q5
                have q6 : Below w.heap.size w w7 := (HQ.out.2.2.trans ((boxR _ ⟨1, (bs : Int)⟩).mono HQ.out.2.2.size)).grown H7.out.2 (Nat.le_trans HQ.out.2.2.size (boxR _ ⟨1, (bs : Int)⟩).size) (fun r e => by simp [Value.ownBlock] at e)
                exact ⟨mn, bs, 1 + n1, [⟨1, (bs : Int)⟩], _, rfl, rfl, rfl, HK.out.2, by omega, HK.out.1, by simp, by rw [HG.out, baseR, if_pos c3], q3, A57.set 1 _ (by simp), q5.grown q2 (fun r e => by have := Option.some.inj e; omega), q6.setCell (show w.heap.size ≤ w.heap.size + 1 by omega) _⟩)
            | exact ⟨mn, 0, 1 + n1, [], _, rfl, rfl, rfl, HK.out.2, by omega, HK.out.1, by simp, HG.out.symm, HQ.out.1, HQ.out.2.1, OwnR.nil _ _, HQ.out.2.2⟩
          case round =>
            clear HOW hsb HQ HK c1 c2 c4 c5 c6 c7 hwb hwk y1 HG
            obtain ⟨m, en, k, o, v, rfl, rfl, rfl, hm, hen, hk, hol, hgo, h2, h9, hO, hbel⟩ := hrel
            have p0 := h2.c 0 rfl
            have p1 := h2.c 1 rfl
            have f0 := h2.f 0 rfl
            have f1 := h2.f 1 rfl
            by_cases hlt : 0 < m
            · obtain ⟨m', hm'⟩ : ∃ m', m = m' + 1 := ⟨m - 1, by omega⟩
              have hd1 : decide ((0 : Int) < (m : Int)) = true := by rw [decide_eq_true_eq]; omega
              have hd2 : decide (0 < m) = true := by rw [decide_eq_true_eq]; omega
              obtain ⟨⟨x1, y1, n2, e2⟩, ht⟩ : ∃ r, twoS (b.drop k) = r := ⟨_, rfl⟩
              have hnb := HB.out.2.1
              obtain ⟨A3, hsl3, hS3⟩ := HB.out.2.2.2.2.2.1 k (by omega) HB.out.2.2.1
              have hbW := (HB.out.1.below hbel).more hbel.size
              have hT := RTwo_any wr A3 (n - k) (c - k) (b.drop k) (hS3 wr _ b HB.out.2.1.symm hbW) (by rw [List.length_drop]; omega) (by have := HB.out.2.2.1; omega) (by have := HB.out.2.2.2.1; omega)
              rw [ht] at hT
              have hle := twoS_drop_le b hk
              rw [ht] at hle
              dsimp only at hle
              have hstep : goG b (m' + 1) o en k = if e2 ≠ 0 then ([], 0, e2) else if Mx < en + 2 + min x1 Mx + min y1 Mx then ([], 0, 21) else goG b m' (o ++ [⟨((en + 2 + x1 : Nat) : Int), ((en + 2 + x1 + y1 : Nat) : Int)⟩]) (en + 2 + x1 + y1) (k + n2) := by simp only [goG, ht]
              rw [← hm', hgo] at hstep
              have htk : e2 = 0 → 2 ≤ n2 ∧ x1 < 18446744073709551616 ∧ y1 < 18446744073709551616 := fun h => by
                subst h
                have := twoS_ok ht
                exact ⟨this.1, this.2.2.2.1, this.2.2.2.2⟩
              have hz2 := (h2.set 0 (.int .i64 0) (by simp)).set 1 (.slice none 0 0) (by simp)
              have hzb : Below w.heap.size w ((wr.setCell ⟨w.heap.size, 0, none⟩ (.int .i64 0)).setCell ⟨w.heap.size, 1, none⟩ (.slice none 0 0)) := (hbel.setCell (Nat.le_refl _) _).setCell (Nat.le_refl _) _
              have HZ := Lib.hid (And.intro hz2 hzb)
              have HT := Lib.hid hT
              have HSL := Lib.hid hsl3
              have HST := Lib.hid (And.intro hstep (And.intro hm' hgo))
              clear hz2 hzb hT hsl3 hS3 hbW ht hstep hm' hgo hnb
              go_wp2_with (refine mval rfl (exec_postB rfl rfl rfl HSL.out _) ?_)
              refine HT.out.mono ?_
              rintro e w1 ⟨rfl, rfl⟩
              by_cases he2 : e2 = 0
              · subst he2
                obtain ⟨tn, tx, ty⟩ := htk rfl
                have wx : x1 ≤ 1099511627775 → IntKind.i64.wrap (x1 : Int) = (x1 : Int) := fun h => by rw [IntKind.wrap_i64]; omega
                have wy : y1 ≤ 1099511627775 → IntKind.i64.wrap (y1 : Int) = (y1 : Int) := fun h => by rw [IntKind.wrap_i64]; omega
                by_cases q3 : 1099511627775 < x1
                · have HG := Lib.hid (show G = ([], 0, 21) by rw [HST.out.1, if_neg (by simp), if_pos (by unfold Mx; omega)])
                  have d3 : decide ((1099511627775 : Int) < (x1 : Int)) = true := by rw [decide_eq_true_eq]; omega
                  go_wp2_with fail
                  exact bodyPost_ret (results_rowT rfl _ rfl rfl rfl HZ.out.1) rfl ⟨0, .slice none 0 0, by rw [HG.out]; rfl, by rw [HG.out]; exact OwnR.nil _ _, (fun h => by rw [HG.out] at h; cases h), HZ.out.2⟩
                have d3 : decide ((1099511627775 : Int) < (x1 : Int)) = false := by rw [decide_eq_false_iff_not]; omega
                by_cases q4 : 1099511627775 < y1
                · have HG := Lib.hid (show G = ([], 0, 21) by rw [HST.out.1, if_neg (by simp), if_pos (by unfold Mx; omega)])
                  have d4 : decide ((1099511627775 : Int) < (y1 : Int)) = true := by rw [decide_eq_true_eq]; omega
                  go_wp2_with fail
                  exact bodyPost_ret (results_rowT rfl _ rfl rfl rfl HZ.out.1) rfl ⟨0, .slice none 0 0, by rw [HG.out]; rfl, by rw [HG.out]; exact OwnR.nil _ _, (fun h => by rw [HG.out] at h; cases h), HZ.out.2⟩
                have d4 : decide ((1099511627775 : Int) < (y1 : Int)) = false := by rw [decide_eq_false_iff_not]; omega
                have wx' := wx (by omega)
                have wy' := wy (by omega)
                have w3 : IntKind.i64.wrap ((x1 : Int) + (y1 : Int)) = (x1 : Int) + (y1 : Int) := by rw [IntKind.wrap_i64]; omega
                have w4 : IntKind.i64.wrap ((x1 : Int) + (y1 : Int) + (en : Int)) = (x1 : Int) + (y1 : Int) + (en : Int) := by rw [IntKind.wrap_i64]; omega
                have w5 : IntKind.i64.wrap ((x1 : Int) + (y1 : Int) + (en : Int) + 2) = (x1 : Int) + (y1 : Int) + (en : Int) + 2 := by rw [IntKind.wrap_i64]; omega
                by_cases q5 : 1099511627775 < x1 + y1 + en + 2
                · have HG := Lib.hid (show G = ([], 0, 21) by rw [HST.out.1, if_neg (by simp), if_pos (by unfold Mx; omega)])
                  have d5 : decide ((1099511627775 : Int) < (x1 : Int) + (y1 : Int) + (en : Int) + 2) = true := by rw [decide_eq_true_eq]; omega
                  go_wp2_with fail
                  exact bodyPost_ret (results_rowT rfl _ rfl rfl rfl HZ.out.1) rfl ⟨0, .slice none 0 0, by rw [HG.out]; rfl, by rw [HG.out]; exact OwnR.nil _ _, (fun h => by rw [HG.out] at h; cases h), HZ.out.2⟩
                have d5 : decide ((1099511627775 : Int) < (x1 : Int) + (y1 : Int) + (en : Int) + 2) = false := by rw [decide_eq_false_iff_not]; omega
                obtain ⟨fr, hfr⟩ : ∃ z, en + 2 + x1 = z := ⟨_, rfl⟩
                obtain ⟨en', hen'⟩ : ∃ z, fr + y1 = z := ⟨_, rfl⟩
                have HN := Lib.hid (show G = goG b m' (o ++ [⟨(fr : Int), (en' : Int)⟩]) en' (k + n2) by rw [HST.out.1, if_neg (by simp), if_neg (by unfold Mx; omega), hfr, hen'])
                have w6 : IntKind.i64.wrap ((en : Int) + 2) = (en : Int) + 2 := by rw [IntKind.wrap_i64]; omega
                have w7 : IntKind.i64.wrap ((en : Int) + 2 + (x1 : Int)) = (fr : Int) := by rw [IntKind.wrap_i64]; omega
                have w8 : IntKind.i64.wrap ((fr : Int) + (y1 : Int)) = (en' : Int) := by rw [IntKind.wrap_i64]; omega
                have w9 : IntKind.i64.wrap ((k : Int) + (n2 : Int)) = ((k + n2 : Nat) : Int) := by have := HB.out.2.1; rw [IntKind.wrap_i64]; omega
                have wm : IntKind.u64.wrap ((m : Int) - 1) = (m' : Int) := by have := HST.out.2.1; rw [IntKind.wrap_u64]; omega
                have y0 := h9.c 1 rfl
                have hOW := hO.below (boxR wr ⟨(fr : Int), (en' : Int)⟩)
                have hsb : w.heap.size + 2 ≤ (wr.alloc (.cells #[.int .i64 (fr : Int), .int .i64 (en' : Int)] 58)).heap.size := by have := h9.lt; simp; omega
                have B5a := h9.below (boxR wr ⟨(fr : Int), (en' : Int)⟩)
                have HLN := Lib.hid (show o.length + 1 ≤ 1000000000 ∧ o.length + 1 ≤ k + n2 ∧ k + n2 ≤ b.length ∧ en' ≤ 1099511627775 ∧ m' < m by have := HB.out.2.1; have := HST.out.2.1; omega)
                have HQ := Lib.hid (And.intro h2 hbel)
                clear h2 h9 hO hbel hfr hen' q3 q4 q5 tx ty tn wx wy hle HZ p0 p1 f0 f1
                go_wp2_with (at_builtin; refine appR rfl rfl hOW (Sl.oneR wr ⟨(fr : Int), (en' : Int)⟩) rfl rfl rfl (by rw [List.length_singleton]; exact HLN.out.1) hsb ?_; intro v7 w7 h7 hg7 hat7; obtain ⟨A7, d7, e7, _⟩ := h7.form; obtain ⟨n7, hn7⟩ : ∃ m, (o ++ [(⟨(fr : Int), (en' : Int)⟩ : Rg)]).length = m := ⟨_, rfl⟩; rw [hn7] at e7; clear hn7; subst e7; have hgr : ∀ r, v.ownBlock = some r → w.heap.size + 2 ≤ r := (fun r e => (World.ownsRow.lt hOW r e).1); have H7 := Lib.hid (And.intro h7 (And.intro hg7 hgr)); clear h7 hat7; have B57 := B5a.grown hg7 (fun e => by have := hgr _ e; omega); clear hg7 hgr; have z7 := B57.c 1 rfl; have f7 := B57.f 1 rfl)
                go_roundw
                case rel =>
                  have q2 := grownC w7 (w.heap.size + 1) 1 (.slice A7 n7 d7)
                  have q3 := ((HQ.out.1.below (boxR wr ⟨(fr : Int), (en' : Int)⟩)).grown H7.out.2.1 (fun e => by have := H7.out.2.2 _ e; omega)).grown q2 (fun e => by have := Option.some.inj e; omega)
                  have q6 : Below w.heap.size w w7 := (HQ.out.2.trans ((boxR wr ⟨(fr : Int), (en' : Int)⟩).mono HQ.out.2.size)).grown H7.out.2.1 (Nat.le_trans HQ.out.2.size (boxR wr ⟨(fr : Int), (en' : Int)⟩).size) (fun r e => by have := H7.out.2.2 r e; omega)
                  exact ⟨m', en', k + n2, o ++ [⟨(fr : Int), (en' : Int)⟩], _, by go_num, rfl, rfl, by have := HLN.out; omega, HLN.out.2.2.2.1, HLN.out.2.2.1, by rw [List.length_append, List.length_singleton]; exact HLN.out.2.1, HN.out.symm, q3, B57.set 1 _ (by simp), H7.out.1.grown q2 (fun r e => by have := Option.some.inj e; omega), q6.setCell (show w.heap.size ≤ w.heap.size + 1 by omega) _⟩
                case measure => have := HLN.out; simp [intOf]; omega
              · have HG := Lib.hid (show G = ([], 0, e2) by rw [HST.out.1, if_pos he2])
                have z1 : ((e2 : Int) == 0) = false := by rw [beq_eq_false_iff_ne]; omega
                have z2 : decide ((e2 : Int) = 0) = false := by rw [decide_eq_false_iff_not]; omega
                go_wp2_with fail
                exact bodyPost_ret (results_rowT rfl _ rfl rfl rfl HZ.out.1) rfl ⟨0, .slice none 0 0, by rw [HG.out]; rfl, by rw [HG.out]; exact OwnR.nil _ _, (fun h => by rw [HG.out] at h; exact absurd h he2), HZ.out.2⟩
            · obtain rfl : m = 0 := by omega
              have HG := Lib.hid (show G = (o, k, 0) by rw [← hgo]; rfl)
              obtain ⟨A', d', rfl, _⟩ := hO.form
              have r0 := h9.c 0 rfl
              have r1 := h9.c 1 rfl
              have h4z := (h2.set 0 (.int .i64 (X : Int)) (by simp)).set 1 (.slice A' o.length d') (by simp)
              have q2a := grownC wr w.heap.size 0 (.int .i64 (X : Int))
              have q2b := grownC (wr.setCell ⟨w.heap.size, 0, none⟩ (.int .i64 (X : Int))) w.heap.size 1 (.slice A' o.length d')
              have hOz := (hO.grown q2a (fun r e => by have := Option.some.inj e; omega)).grown q2b (fun r e => by have := Option.some.inj e; omega)
              have hzb : Below w.heap.size w ((wr.setCell ⟨w.heap.size, 0, none⟩ (.int .i64 (X : Int))).setCell ⟨w.heap.size, 1, none⟩ (.slice A' o.length d')) := (hbel.setCell (Nat.le_refl _) _).setCell (Nat.le_refl _) _
              have HF := Lib.hid (And.intro h4z (And.intro (hOz.lower (base' := w.heap.size) (by omega)) hzb))
              clear h4z q2a q2b hOz hzb h2 h9 hO hbel hgo
              go_wp2_with fail
              exact bodyPost_ret (results_rowT rfl _ rfl rfl rfl HF.out.1) rfl ⟨(X : Int), .slice A' o.length d', by rw [HG.out]; rfl, by rw [HG.out]; exact HF.out.2.1, (fun _ => rfl), HF.out.2.2⟩
  · have HG := Lib.hid (show G = ([], 0, e1) by rw [HB.out.2.2.2.2.2.2.1, if_pos he])
    have z1 : ((e1 : Int) == 0) = false := by rw [beq_eq_false_iff_ne]; omega
    have z2 : decide ((e1 : Int) = 0) = false := by rw [decide_eq_false_iff_not]; omega
    go_wp2_with fail
    exact bodyPost_ret (results_rowT rfl _ rfl rfl rfl HZ.out.1) rfl ⟨0, .slice none 0 0, by rw [HG.out]; rfl, by rw [HG.out]; exact OwnR.nil _ _, (fun h => by rw [HG.out] at h; exact absurd h he), HZ.out.2⟩
end Go.Proofs.YtaflikgdlkaefaaGreat
/- Vectors: a row that is read from where it begins. -/
namespace Go.Proofs.YtaflikgdlkaefaaGreat.Ve
open Go.Proofs.YtaflikgdlkaefaaGreat.Sp Go.Proofs.YtaflikgdlkaefaaGreat.Dt Go.Proofs.YtaflikgdlkaefaaGreat.Pl

/-- what is read further on -/
def sh (k : Nat) (G : List Rg × Nat × Nat) : List Rg × Nat × Nat := (G.1, if G.2.2 = 0 then k + G.2.1 else 0, G.2.2)
theorem goG_drop (b : List UInt8) (k : Nat) : ∀ (m : Nat) (o : List Rg) (e j : Nat), goG b m o e (k + j) = sh k (goG (b.drop k) m o e j)
 | 0, o, e, j => by simp [goG, sh]
 | m + 1, o, e, j => by
  have hd : b.drop (k + j) = (b.drop k).drop j := by rw [List.drop_drop]
  unfold goG
  rw [hd]
  split
  ·rename_i h
   simp only [sh, if_neg h]
  ·split
   ·simp [sh]
   ·rw [Nat.add_assoc k j, goG_drop b k m]
theorem rowS_drop (b : List UInt8) (k : Nat) : rowS b (k + 1) = sh k (rowS (b.drop k) 1) := by
 have hd : b.drop (k + 1) = (b.drop k).drop 1 := by rw [List.drop_drop]
 unfold rowS
 rw [hd]
 split
 ·rename_i h
  simp only [sh, if_neg h]
 ·split
  ·simp [sh]
  ·rw [Nat.add_assoc k 1, goG_drop]
theorem at_drop0 (b : List UInt8) (k : Nat) : at_ (b.drop k) 0 = at_ b k := by
 unfold at_
 simp
end Go.Proofs.YtaflikgdlkaefaaGreat.Ve
