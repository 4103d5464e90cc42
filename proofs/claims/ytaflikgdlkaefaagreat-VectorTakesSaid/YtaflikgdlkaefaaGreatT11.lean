/- Vectors: a row taken by the cursor. -/
import Derived.Test.YtaflikgdlkaefaaGreatT02
import Derived.Test.YtaflikgdlkaefaaGreatT06
import Derived.Test.YtaflikgdlkaefaaGreatT10
namespace Go.Proofs.YtaflikgdlkaefaaGreat
open Go.RowKit Go.Proofs.YtaflikgdlkaefaaGreat.Pl Go.Proofs.YtaflikgdlkaefaaGreat.Sp Go.Proofs.YtaflikgdlkaefaaGreat.Ve
set_option maxRecDepth 20000

theorem results_row {w : World} {fn : Func} {t : Tmp} (h : fn.results = #[.cell t 60]) (tmps : Array Value) {g : Nat} {u v : Value} (hx : tmps.getD t undef = .pointer (some ⟨g, 0, none⟩)) (hA : At w g [u, v]) :
  (results fn tmps).run Tryz.prog w = .ok (.agg #[u, v]) w := by
 have hl := run_loadCells_list (P := Tryz.prog) w ⟨g, 0, none⟩ [u, v] (fun j z hz => by rw [addN]; exact hA.c j hz)
 have hx' : tmps[t]?.getD undef = .pointer (some ⟨g, 0, none⟩) := by simpa using hx
 have hl' : (loadCells ⟨g, 0, none⟩ 2 : Sem (Array Value)).run Tryz.prog w = .ok #[u, v] w := hl
 simp [results, h, hx', asAddr, loadVar, hl']
theorem OwnR.grown {w w' : World} {base : Nat} {v : Value} {l : List Rg} (h : OwnR w base v l) {row : Option Nat} (hg : w.grownBy w' row) (hr : ∀ r, row = some r → r < base) : OwnR w' base v l :=
 World.ownsRow.kept h hg (by
  cases hv : v.ownBlock with
  | none => exact .inl rfl
  | some x =>
   refine .inr fun e => ?_
   have h1 := hr x e.symm
   have h2 := (World.ownsRow.lt h x hv).1
   omega)
theorem CNumber_lit {w : World} {g B : Nat} {A : Option Addr} {c : Nat} {b : List UInt8} {k e x k2 e2 : Nat} (h : CuS w g B A c b k e) (t : numR b k e = (x, k2, e2)) :
  Calls Tryz.prog 59 #[.pointer (some ⟨g, 0, none⟩)] w fun r w' => r = .returned (.int .u64 (x : Int)) ∧ CuS w' g B A c b k2 e2 ∧ w.grownBy w' (some g) := by
 have := CNumber_any h
 rw [t] at this
 exact this
theorem CAsk_lit {w : World} {g B : Nat} {A : Option Addr} {c : Nat} {b : List UInt8} {k e e2 : Nat} (h : CuS w g B A c b k e) {p : Bool} (t : askE p e = e2) :
  Calls Tryz.prog 60 #[.pointer (some ⟨g, 0, none⟩), .bool p] w fun r w' => r = .returned (.tuple #[]) ∧ CuS w' g B A c b k e2 ∧ w.grownBy w' (some g) := by
 have := CAsk_any h p
 rw [show (if p = true then e else erS e 21) = e2 from t] at this
 exact this
theorem CByte_lit {w : World} {g B : Nat} {A : Option Addr} {c : Nat} {b : List UInt8} {k x k2 e2 : Nat} (h : CuS w g B A c b k 0) (t : byteR b k = (x, k2, e2)) :
  Calls Tryz.prog 78 #[.pointer (some ⟨g, 0, none⟩)] w fun r w' => r = .returned (.int .u8 (x : Int)) ∧ CuS w' g B A c b k2 e2 ∧ w.grownBy w' (some g) := by
 have := CByte_any h
 rw [t] at this
 exact this
/-- what a row answers -/
def RowPost (w : World) (g B : Nat) (A : Option Addr) (c : Nat) (b : List UInt8) (E : List Rg × Nat × Nat) (x : Int) (r : Ending) (w' : World) : Prop :=
 ∃ (q : RA) (k' : Nat), r = .returned (.agg #[.int .i64 q.r, .slice q.A q.l.length q.c]) ∧ CuS w' g B A c b k' E.2.2 ∧ w.grownBy w' (some g) ∧ RSt w' q ∧ (∀ a, q.A = some a → w.heap.size ≤ a.block) ∧ (E.2.2 = 0 → q.l = E.1 ∧ k' = E.2.1 ∧ q.r = x)
def baseO (base : Nat) : List Rg := if 0 < base then [⟨1, IntKind.i64.wrap (base : Int)⟩] else []
theorem min_run (x : Nat) (W : World) : (Builtin.min_ #[45, 45] 45 #[.int .u64 (x : Int), .int .u64 1099511627775]).run Tryz.prog W = .ok (.int .u64 ((min x Mx : Nat) : Int)) W := by
 rw [run_min_int2]
 congr 2
 unfold Mx
 split <;> omega
/-- what a row's loop holds -/
def RowInv (w : World) (g B : Nat) (A : Option Addr) (c : Nat) (b : List UInt8) (E : List Rg × Nat × Nat) (n x g4 g5 e5 : Nat) (x8 x9 : Value) (wr : World) : Prop :=
 ∃ (i ed k' e' : Nat) (o : List Rg) (v : Value), i ≤ n ∧ x8 = .int .u64 (ed : Int) ∧ x9 = .int .u64 (i : Int) ∧ CuS wr g B A c b k' e' ∧ w.grownBy wr (some g) ∧ At wr g4 [.int .i64 0, .slice none 0 0] ∧ At wr g5 [.int .i64 (x : Int), v] ∧ OwnR wr (g5 + 1) v o ∧
  (e' = 0 → ed ≤ Mx ∧ o.length ≤ k' + 1 ∧ e5 = 0 ∧ goG b (n - i) o ed k' = E) ∧ (e' ≠ 0 → E.2.2 = e')
theorem RowInv.fin {w : World} {g B : Nat} {A : Option Addr} {c : Nat} {b : List UInt8} {E : List Rg × Nat × Nat} {n x g4 g5 e5 k' e' i ed : Nat} {o : List Rg} {v : Value} {wr : World} {X : Int}
  (hC : CuS wr g B A c b k' e') (hG : w.grownBy wr (some g)) (hO : OwnR wr (g5 + 1) v o) (h45 : At wr g4 [.int .i64 (x : Int), v]) (_ : g4 = w.heap.size) (hg5 : w.heap.size ≤ g5) (hx : e5 = 0 → (x : Int) = X)
  (hz : e' = 0 → e5 = 0 ∧ i = n ∧ goG b (n - i) o ed k' = E) (hnz : e' ≠ 0 → E.2.2 = e') : ∃ A' c', v = .slice A' o.length c' ∧ RowPost w g B A c b E X (.returned (.agg #[.int .i64 (x : Int), v])) wr := by
 obtain ⟨A', c', rfl, f1, f2, f3, _, f5⟩ := hO.form
 refine ⟨A', c', rfl, ⟨(x : Int), A', c', o⟩, k', rfl, ?_, hG, ⟨f3, f1, f2⟩, fun a ha => by have := (f5 a ha).1; omega, fun h0 => ?_⟩
 ·by_cases he : e' = 0
  ·obtain ⟨_, h2, h3⟩ := hz he
   subst h2
   rw [Nat.sub_self, goG] at h3
   rw [← h3, ← he]
   exact hC
  ·rw [hnz he]; exact hC
 ·have he : e' = 0 := by
   by_cases he : e' = 0
   ·exact he
   ·rw [hnz he] at h0; exact h0
  obtain ⟨h1, h2, h3⟩ := hz he
  subst h2
  rw [Nat.sub_self, goG] at h3
  rw [← h3]
  exact ⟨rfl, rfl, hx h1⟩
set_option maxRecDepth 100000 in
set_option maxHeartbeats 12800000 in
theorem VRow_any {w : World} {g B : Nat} {A : Option Addr} {c : Nat} {b : List UInt8} {k : Nat} (h : CuS w g B A c b k 0) (hbl : b.length ≤ 100000000) (last : Int) :
    Calls Tryz.prog 62 #[.pointer (some ⟨g, 0, none⟩), .int .i64 last] w (RowPost w g B A c b (rowE b last k) (at_ b k : Int)) := by
  have hkb := h.hk
  obtain ⟨⟨x, k1, e1⟩, hB⟩ : ∃ r, byteR b k = r := ⟨_, rfl⟩
  obtain ⟨P1, hP1⟩ : ∃ P, (decide (last < (x : Int)) && decide ((x : Int) < 64)) = P := ⟨_, rfl⟩
  obtain ⟨e2, he2⟩ : ∃ e, askE P1 e1 = e := ⟨_, rfl⟩
  obtain ⟨⟨base, k2, e3⟩, hN1⟩ : ∃ r, numR b k1 e2 = r := ⟨_, rfl⟩
  obtain ⟨⟨n, k3, e4⟩, hN2⟩ : ∃ r, numR b k2 e3 = r := ⟨_, rfl⟩
  obtain ⟨P2, hP2⟩ : ∃ P, (decide (base ≤ Mx) && (decide (0 < base) || decide (0 < n))) = P := ⟨_, rfl⟩
  obtain ⟨e5, he5⟩ : ∃ e, askE P2 e4 = e := ⟨_, rfl⟩
  have hH := rowE_head hB (e2 := e2) (last := last) (by rw [hP1]; exact he2.symm) hN1 hN2 (e5 := e5) (by rw [hP2]; exact he5.symm)
  obtain ⟨E, hE⟩ : ∃ E, rowE b last k = E := ⟨_, rfl⟩
  rw [hE] at hH ⊢
  obtain ⟨X, hX⟩ : ∃ X, (at_ b k : Int) = X := ⟨_, rfl⟩
  rw [hX]
  have hbase : base < 18446744073709551616 := by have := numR_lt b k1 e2; rw [hN1] at this; exact this
  have hn64 : n < 18446744073709551616 := by have := numR_lt b k2 e3; rw [hN2] at this; exact this
  have hx256 : x < 256 := by
    have : (byteR b k).1 < 256 := by
      unfold byteR
      split
      · exact Nat.zero_lt_succ _
      · exact UInt8.toNat_lt _
    rw [hB] at this
    exact this
  have HB := Lib.hid (fun W (hW : Below w.heap.size w W) => CByte_lit (h.below hW) hB)
  have HA1 := Lib.hid (fun W (hW : CuS W g B A c b k1 e1) => CAsk_lit hW he2)
  have HN1 := Lib.hid (fun W (hW : CuS W g B A c b k1 e2) => CNumber_lit hW hN1)
  have HN2 := Lib.hid (fun W (hW : CuS W g B A c b k2 e3) => CNumber_lit hW hN2)
  have HA2 := Lib.hid (fun W (hW : CuS W g B A c b k3 e4) => CAsk_lit hW he5)
  have HH := Lib.hid (And.intro hH (And.intro hX hbl))
  have hgl : g < w.heap.size := h.at_.lt
  have hcx : IntKind.i64.wrap (x : Int) = (x : Int) := by rw [IntKind.wrap_i64]; omega
  have hc1 : (decide (last < (x : Int)) = false ∧ P1 = false) ∨ (decide (last < (x : Int)) = true ∧ decide ((x : Int) < 64) = P1) := by
    cases hp : decide (last < (x : Int)) with
    | false => exact .inl ⟨rfl, by rw [← hP1, hp]; rfl⟩
    | true => exact .inr ⟨rfl, by rw [← hP1, hp]; rfl⟩
  have hc2 : (decide ((base : Int) ≤ 1099511627775) = false ∧ decide (0 < base) = true ∧ P2 = false) ∨ (decide ((base : Int) ≤ 1099511627775) = true ∧ decide (0 < base) = true ∧ P2 = true) ∨ (decide ((base : Int) ≤ 1099511627775) = true ∧ decide (0 < base) = false ∧ decide (0 < n) = P2) := by
    unfold Mx at hP2
    by_cases q1 : base ≤ 1099511627775
    · by_cases q2 : 0 < base
      · refine .inr (.inl ⟨by rw [decide_eq_true_eq]; omega, by rw [decide_eq_true_eq]; omega, ?_⟩)
        rw [← hP2, decide_eq_true q1, decide_eq_true q2]; rfl
      · refine .inr (.inr ⟨by rw [decide_eq_true_eq]; omega, by rw [decide_eq_false_iff_not]; omega, ?_⟩)
        rw [← hP2, decide_eq_true q1, decide_eq_false q2, Bool.true_and, Bool.false_or]
    · refine .inl ⟨by rw [decide_eq_false_iff_not]; omega, by rw [decide_eq_true_eq]; omega, ?_⟩
      rw [← hP2, decide_eq_false q1]; rfl
  have HK := Lib.hid hkb
  clear hB hP1 he2 hN1 hN2 hP2 he5 hH hE hX h hkb hbl
  rcases hc1 with ⟨hp1, rfl⟩ | ⟨hp1, hq1⟩
  all_goals
    have h0 : Below w.heap.size w (w.alloc (.cells #[.int .i64 0, .slice none 0 0] 60)) := balloc (Below.refl _ _) _
    have a0 : At (w.alloc (.cells #[.int .i64 0, .slice none 0 0] 60)) w.heap.size [.int .i64 0, .slice none 0 0] := At.new w 60 #[.int .i64 0, .slice none 0 0]
    have HB0 := Lib.hid (HB.out _ h0)
    go_enter Tryz.func62, Tryz.ntmps62
    go_wp2_with fail
    refine HB0.out.mono ?_
    rintro r w1 ⟨rfl, h1, g1⟩
    have a1 := a0.grown g1 (fun e => by have := Option.some.inj e; omega)
    have g1' : w.grownBy w1 (some g) := grownT (grownB h0) g1
    have hs1 : w.heap.size < w1.heap.size := a1.lt
    have hb1 : Below w1.heap.size w1 (w1.alloc (.cells #[.int .i64 (x : Int), .slice none 0 0] 60)) := balloc (Below.refl _ _) _
    have hC1 := h1.below hb1
    have a5 : At (w1.alloc (.cells #[.int .i64 (x : Int), .slice none 0 0] 60)) w1.heap.size [.int .i64 (x : Int), .slice none 0 0] := At.new w1 60 #[.int .i64 (x : Int), .slice none 0 0]
    have hsz : (w1.alloc (.cells #[.int .i64 (x : Int), .slice none 0 0] 60)).heap.size = w1.heap.size + 1 := by simp
    have HQ1 := Lib.hid (And.intro hC1 (And.intro (a1.below hb1) (And.intro a5 (grownT g1' (grownB hb1)))))
    have HA := Lib.hid (HA1.out _ hC1)
    clear a1 a0 h0 h1 g1 g1' hb1 hC1 a5 HA1 HB HB0
    go_wp2_with fail
    refine HA.out.mono ?_
    rintro r w3 ⟨rfl, h3, g3⟩
    have HQ3 := Lib.hid (And.intro (HQ1.out.2.1.grown g3 (fun e => by have := Option.some.inj e; omega)) (And.intro (HQ1.out.2.2.1.grown g3 (fun e => by have := Option.some.inj e; omega)) (grownT HQ1.out.2.2.2 g3)))
    have HN := Lib.hid (HN1.out _ h3)
    clear h3 g3 HA HN1 HQ1
    go_wp2_with fail
    refine HN.out.mono ?_
    rintro r w4 ⟨rfl, h4, g4⟩
    have HQ4 := Lib.hid (And.intro (HQ3.out.1.grown g4 (fun e => by have := Option.some.inj e; omega)) (And.intro (HQ3.out.2.1.grown g4 (fun e => by have := Option.some.inj e; omega)) (grownT HQ3.out.2.2 g4)))
    have HNN := Lib.hid (HN2.out _ h4)
    clear h4 g4 HN HN2 HQ3
    go_wp2_with fail
    refine HNN.out.mono ?_
    rintro r w5 ⟨rfl, h5, g5⟩
    have HQ5 := Lib.hid (And.intro (HQ4.out.1.grown g5 (fun e => by have := Option.some.inj e; omega)) (And.intro (HQ4.out.2.1.grown g5 (fun e => by have := Option.some.inj e; omega)) (grownT HQ4.out.2.2 g5)))
    have HAA := Lib.hid (HA2.out _ h5)
    clear h5 g5 HNN HA2 HQ4
    rcases hc2 with ⟨hb1, hb2, rfl⟩ | ⟨hb1, hb2, rfl⟩ | ⟨hb1, hb2, hb3⟩
    all_goals
      go_wp2_with fail
      refine HAA.out.mono ?_
      rintro r w6 ⟨rfl, h6, g6⟩
      have A4 := HQ5.out.1.grown g6 (fun e => by have := Option.some.inj e; omega)
      have A5 := HQ5.out.2.1.grown g6 (fun e => by have := Option.some.inj e; omega)
      have G6 := grownT HQ5.out.2.2 g6
      have y1 := A5.c 1 rfl
      have HQ6 := Lib.hid (And.intro h6 (And.intro A4 (And.intro A5 G6)))
      obtain ⟨bz, hbz⟩ : ∃ z, IntKind.i64.wrap (base : Int) = z := ⟨_, rfl⟩
      have HBZ := Lib.hid (show base ≤ Mx → bz = (base : Int) from fun h => by rw [← hbz, IntKind.wrap_i64]; unfold Mx at h; omega)
      have HOW : OwnR (w6.alloc (.cells #[.int .i64 1, .int .i64 bz] 58)) (w1.heap.size + 1) (.slice none 0 0) [] := OwnR.nil _ _
      have hsb : w1.heap.size + 1 ≤ (w6.alloc (.cells #[.int .i64 1, .int .i64 bz] 58)).heap.size := by have := A5.lt; simp; omega
      have A5a := A5.below (boxR w6 ⟨1, bz⟩)
      clear h6 g6 HAA HQ5 A4 A5 G6
      go_wp2_with (at_builtin; refine appR rfl rfl HOW (Sl.oneR w6 ⟨1, bz⟩) rfl rfl rfl (by simp) hsb ?_; intro v7 w7 h7 hg7 hat7; obtain ⟨A7, c7, e7, _⟩ := h7.form; obtain ⟨n7, hn7⟩ : ∃ m, ([] ++ [(⟨1, bz⟩ : Rg)]).length = m := ⟨_, rfl⟩; rw [hn7] at e7; clear hn7; subst e7; have H7 := Lib.hid (And.intro h7 hg7); clear h7 hat7; have A57 := A5a.grown hg7 (by simp [Value.ownBlock]); clear hg7; have z7 := A57.c 1 rfl; have f7 := A57.f 1 rfl)
      go_loopw [8, 9] (fun x8 x9 wr => RowInv w g B A c b E n x w.heap.size w1.heap.size e5 x8 x9 wr) (fun _ x9 _ => n - (intOf x9).toNat)
      case atStart =>
        first
        | exact ⟨0, base, k3, e5, _, _, by omega, rfl, rfl, HQ6.out.1, HQ6.out.2.2.2, HQ6.out.2.1, HQ6.out.2.2.1, OwnR.nil _ _, fun h0 => by
            obtain ⟨t1, t2, t3, t4, t5⟩ := HH.out.1.2 h0
            refine ⟨t1, by simp, h0, ?_⟩
            rw [t5, Nat.sub_zero]
            have : base = 0 := by simpa using hb2
            rw [this]
            rfl, HH.out.1.1⟩
        | exact (by
            have q1 := (HQ6.out.1.below (boxR w6 ⟨1, bz⟩)).grown H7.out.2 (by simp [Value.ownBlock])
            have q2 := grownC w7 w1.heap.size 1 (.slice A7 n7 c7)
            have q3 := (HQ6.out.2.1.below (boxR w6 ⟨1, bz⟩)).grown H7.out.2 (by simp [Value.ownBlock])
            have q4 : w.grownBy w7 (some g) := grownT HQ6.out.2.2.2 (grownT (grownB (boxR w6 ⟨1, bz⟩)) ⟨H7.out.2.os, H7.out.2.tape, H7.out.2.output, H7.out.2.size, fun i hi _ => H7.out.2.block i hi (by simp [Value.ownBlock])⟩)
            have q5 := H7.out.1
            rw [List.nil_append] at q5
            have hgl6 := HQ6.out.1.at_.lt
            refine ⟨0, base, k3, e5, [⟨1, bz⟩], _, by omega, rfl, rfl, q1.grown q2 (fun r e => by have := Option.some.inj e; omega), grown_step q4 q2 (.inr fun r e => by have := Option.some.inj e; omega), q3.grown q2 (fun e => by have := Option.some.inj e; omega), A57.set 1 _ (by simp), q5.grown q2 (fun r e => by have := Option.some.inj e; omega), fun h0 => ?_, HH.out.1.1⟩
            obtain ⟨t1, t2, t3, t4, t5⟩ := HH.out.1.2 h0
            refine ⟨t1, by simp, h0, ?_⟩
            have hb : 0 < base := by simpa using hb2
            rw [t5, Nat.sub_zero, HBZ.out t1, baseR, if_pos hb])
      case round =>
        clear HBZ HOW hsb A5a y1
        obtain ⟨i, ed, k', e', o, v, hi, rfl, rfl, hC, hG, h4, h5, hO, hz, hnz⟩ := hrel
        by_cases hlt : i < n
        · have hd1 : decide ((i : Int) < (n : Int)) = true := by rw [decide_eq_true_eq]; omega
          by_cases he : e' = 0
          · subst he
            obtain ⟨z1, z2, z3, z4⟩ := hz rfl
            obtain ⟨m, hm⟩ : ∃ m, n - i = m + 1 := ⟨n - i - 1, by omega⟩
            rw [hm] at z4
            obtain ⟨⟨x1, q2, f3⟩, t1⟩ : ∃ r, numR b k' 0 = r := ⟨_, rfl⟩
            obtain ⟨⟨y1, q3, f4⟩, t2⟩ : ∃ r, numR b q2 f3 = r := ⟨_, rfl⟩
            have hstep := goG_step (m := m) (o := o) (ed := ed) t1 t2
            obtain ⟨mx, hmx⟩ : ∃ z, min x1 Mx = z := ⟨_, rfl⟩
            obtain ⟨my, hmy⟩ : ∃ z, min y1 Mx = z := ⟨_, rfl⟩
            have hmn1 : ∀ W, (Builtin.min_ #[45, 45] 45 #[.int .u64 (x1 : Int), .int .u64 1099511627775]).run Tryz.prog W = .ok (.int .u64 (mx : Int)) W := fun W => by rw [min_run, hmx]
            have hmn2 : ∀ W, (Builtin.min_ #[45, 45] 45 #[.int .u64 (y1 : Int), .int .u64 1099511627775]).run Tryz.prog W = .ok (.int .u64 (my : Int)) W := fun W => by rw [min_run, hmy]
            have hmxb : mx ≤ 1099511627775 := by rw [← hmx]; unfold Mx; omega
            have hmyb : my ≤ 1099511627775 := by rw [← hmy]; unfold Mx; omega
            rw [hmx, hmy] at hstep
            clear hmx hmy
            obtain ⟨fr, hfr⟩ : ∃ z, ed + 2 + mx = z := ⟨_, rfl⟩
            obtain ⟨en, hen⟩ : ∃ z, fr + my = z := ⟨_, rfl⟩
            rw [hfr, hen] at hstep
            obtain ⟨p3, hp3⟩ : ∃ p, decide (en ≤ Mx) = p := ⟨_, rfl⟩
            rw [hp3] at hstep
            obtain ⟨f5, hf5⟩ : ∃ f, askE p3 f4 = f := ⟨_, rfl⟩
            rw [hf5] at hstep
            have hz1 : ed ≤ 1099511627775 := z1
            have hd3 : decide ((en : Int) ≤ 1099511627775) = p3 := by
              rw [← hp3]
              unfold Mx
              by_cases q : en ≤ 1099511627775
              · rw [decide_eq_true q, decide_eq_true_eq]; omega
              · rw [decide_eq_false q, decide_eq_false_iff_not]; omega
            have hw1 : IntKind.u64.wrap ((ed : Int) + 2) = (ed : Int) + 2 := by rw [IntKind.wrap_u64]; omega
            have hw2 : IntKind.u64.wrap ((ed : Int) + 2 + (mx : Int)) = (fr : Int) := by rw [IntKind.wrap_u64]; omega
            have hw3 : IntKind.u64.wrap ((fr : Int) + (my : Int)) = (en : Int) := by rw [IntKind.wrap_u64]; omega
            have hv1 : IntKind.i64.wrap (fr : Int) = (fr : Int) := by rw [IntKind.wrap_i64]; omega
            have hv2 : IntKind.i64.wrap (en : Int) = (en : Int) := by rw [IntKind.wrap_i64]; omega
            have hwi : IntKind.u64.wrap ((i : Int) + 1) = (i : Int) + 1 := by rw [IntKind.wrap_u64]; omega
            have HE1 := Lib.hid (CErr_any hC)
            have HC1 := Lib.hid (CNumber_lit hC t1)
            have HC2 := Lib.hid (fun W (hW : CuS W g B A c b q2 f3) => CNumber_lit hW t2)
            have HC3 := Lib.hid (fun W (hW : CuS W g B A c b q3 f4) => CAsk_lit hW hf5)
            have HST := Lib.hid (And.intro hstep (And.intro z4 (And.intro z3 hm)))
            have HLN := Lib.hid (show o.length + 1 ≤ 1000000000 ∧ o.length ≤ k' + 1 by have := hC.hk; have := HH.out.2.2; omega)
            have HQ := Lib.hid (And.intro hG (And.intro h4 (And.intro h5 hO)))
            clear hC hG h4 h5 hO hz hnz z1 z2 z3 z4 hm hstep t1 t2 hp3 hf5 hfr hen
            go_wp2_with fail
            refine HE1.out.mono ?_
            rintro r wz ⟨rfl, rfl⟩
            go_wp2_with fail
            refine HC1.out.mono ?_
            rintro r w8 ⟨rfl, h8, g8⟩
            have HQ8 := Lib.hid (And.intro (grownT HQ.out.1 g8) (And.intro (HQ.out.2.1.grown g8 (fun e => by have := Option.some.inj e; omega)) (And.intro (HQ.out.2.2.1.grown g8 (fun e => by have := Option.some.inj e; omega)) (HQ.out.2.2.2.grown g8 (fun r e => by have := Option.some.inj e; omega)))))
            have HD2 := Lib.hid (HC2.out _ h8)
            clear h8 g8 HQ HC1 HC2
            go_wp2_with fail
            refine HD2.out.mono ?_
            rintro r w9 ⟨rfl, h9, g9⟩
            have HQ9 := Lib.hid (And.intro (grownT HQ8.out.1 g9) (And.intro (HQ8.out.2.1.grown g9 (fun e => by have := Option.some.inj e; omega)) (And.intro (HQ8.out.2.2.1.grown g9 (fun e => by have := Option.some.inj e; omega)) (HQ8.out.2.2.2.grown g9 (fun r e => by have := Option.some.inj e; omega)))))
            have HD3 := Lib.hid (HC3.out _ h9)
            clear h9 g9 HQ8 HD2 HC3
            go_wp2_with fail
            refine HD3.out.mono ?_
            rintro r wa ⟨rfl, ha, ga⟩
            have b5 := HQ9.out.2.2.1.grown ga (fun e => by have := Option.some.inj e; omega)
            have y0 := b5.c 1 rfl
            have HQa := Lib.hid (And.intro (grownT HQ9.out.1 ga) (And.intro (HQ9.out.2.1.grown ga (fun e => by have := Option.some.inj e; omega)) (And.intro b5 (And.intro (HQ9.out.2.2.2.grown ga (fun r e => by have := Option.some.inj e; omega)) ha))))
            have hOW := HQa.out.2.2.2.1.below (boxR wa ⟨(fr : Int), (en : Int)⟩)
            have hsb : w1.heap.size + 1 ≤ (wa.alloc (.cells #[.int .i64 (fr : Int), .int .i64 (en : Int)] 58)).heap.size := by have := b5.lt; simp; omega
            have B5a := b5.below (boxR wa ⟨(fr : Int), (en : Int)⟩)
            clear ha ga b5 HQ9 HD3
            go_wp2_with (at_builtin; refine appR rfl rfl hOW (Sl.oneR wa ⟨(fr : Int), (en : Int)⟩) rfl rfl rfl (by rw [List.length_singleton]; exact HLN.out.1) hsb ?_; intro v7 w7 h7 hg7 hat7; obtain ⟨A7, c7, e7, _⟩ := h7.form; obtain ⟨n7, hn7⟩ : ∃ m, (o ++ [(⟨(fr : Int), (en : Int)⟩ : Rg)]).length = m := ⟨_, rfl⟩; rw [hn7] at e7; clear hn7; subst e7; have hgr : ∀ r, v.ownBlock = some r → w1.heap.size < r := (fun r e => (World.ownsRow.lt hOW r e).1); have H7 := Lib.hid (And.intro h7 (And.intro hg7 hgr)); clear h7 hat7; have B57 := B5a.grown hg7 (fun e => by have := hgr _ e; omega); clear hg7 hgr; have z7 := B57.c 1 rfl; have f7 := B57.f 1 rfl)
            go_roundw
            case rel =>
              have q2 := grownC w7 w1.heap.size 1 (.slice A7 n7 c7)
              have q1 := ((HQa.out.2.2.2.2.below (boxR wa ⟨(fr : Int), (en : Int)⟩)).grown H7.out.2.1 (fun r e => by have := H7.out.2.2 r e; omega)).grown q2 (fun r e => by have := Option.some.inj e; omega)
              have q3' := ((HQa.out.2.1.below (boxR wa ⟨(fr : Int), (en : Int)⟩)).grown H7.out.2.1 (fun e => by have := H7.out.2.2 _ e; omega)).grown q2 (fun e => by have := Option.some.inj e; omega)
              have hszw : w.heap.size ≤ (wa.alloc (.cells #[.int .i64 (fr : Int), .int .i64 (en : Int)] 58)).heap.size := by omega
              have q4 := grown_step (grown_step (grownT HQa.out.1 (grownB (boxR wa ⟨(fr : Int), (en : Int)⟩))) H7.out.2.1 (.inr fun r e => by have := H7.out.2.2 r e; omega)) q2 (.inr fun r e => by have := Option.some.inj e; omega)
              refine ⟨i + 1, en, q3, f5, o ++ [⟨(fr : Int), (en : Int)⟩], _, by omega, rfl, by go_num, q1, q4, q3', B57.set 1 _ (by simp), H7.out.1.grown q2 (fun r e => by have := Option.some.inj e; omega), fun h0 => ?_, fun h0 => ?_⟩
              · obtain ⟨s1, s2, s3⟩ := HST.out.1.2 h0
                refine ⟨s1, by rw [List.length_append, List.length_singleton]; have := HLN.out.2; omega, HST.out.2.2.1, ?_⟩
                rw [← HST.out.2.1, s3]
                congr 1
                have := HST.out.2.2.2
                omega
              · rw [← HST.out.2.1]
                exact HST.out.1.1 h0
            case measure => simp [intOf]; omega
          · have hb0 : ((e' : Int) == 0) = false := by rw [beq_eq_false_iff_ne]; omega
            have HZQ : e' = 0 → e5 = 0 ∧ i = n ∧ goG b (n - i) o ed k' = E := fun h => absurd h he
            obtain ⟨A', c', rfl, _⟩ := hO.form
            have r0 := h5.c 0 rfl
            have r1 := h5.c 1 rfl
            have f0 := h4.f 0 rfl
            have f1 := h4.f 1 rfl
            have p0 := h4.c 0 rfl
            have p1 := h4.c 1 rfl
            have h4z := (h4.set 0 (.int .i64 (x : Int)) (by simp)).set 1 (.slice A' o.length c') (by simp)
            have q2a := grownC wr w.heap.size 0 (.int .i64 (x : Int))
            have q2b := grownC (wr.setCell ⟨w.heap.size, 0, none⟩ (.int .i64 (x : Int))) w.heap.size 1 (.slice A' o.length c')
            have hCz := (hC.grown q2a (fun r e => by have := Option.some.inj e; omega)).grown q2b (fun r e => by have := Option.some.inj e; omega)
            have hGz := grown_step (grown_step hG q2a (.inr fun r e => by have := Option.some.inj e; omega)) q2b (.inr fun r e => by have := Option.some.inj e; omega)
            have hOz := (hO.grown q2a (fun r e => by have := Option.some.inj e; omega)).grown q2b (fun r e => by have := Option.some.inj e; omega)
            obtain ⟨_, _, _, hfin⟩ := RowInv.fin (e5 := e5) (i := i) (ed := ed) (n := n) (E := E) (X := X) hCz hGz hOz h4z rfl (by omega) (fun h0 => by rw [(HH.out.1.2 h0).2.2.1]; exact HH.out.2.1) HZQ hnz
            have HF := Lib.hid (And.intro h4z hfin)
            have HER := Lib.hid (CErr_any hC)
            clear h4z q2a q2b hCz hGz hOz hfin hC hG h4 h5 hO hz hnz
            go_wp2_with fail
            refine HER.out.mono ?_
            rintro r wz ⟨rfl, rfl⟩
            go_wp2_with fail
            exact bodyPost_ret (results_row rfl _ rfl HF.out.1) rfl HF.out.2
        · have hd1 : decide ((i : Int) < (n : Int)) = false := by rw [decide_eq_false_iff_not]; omega
          have HZQ : e' = 0 → e5 = 0 ∧ i = n ∧ goG b (n - i) o ed k' = E := fun h => ⟨(hz h).2.2.1, by omega, (hz h).2.2.2⟩
          obtain ⟨A', c', rfl, _⟩ := hO.form
          have r0 := h5.c 0 rfl
          have r1 := h5.c 1 rfl
          have f0 := h4.f 0 rfl
          have f1 := h4.f 1 rfl
          have p0 := h4.c 0 rfl
          have p1 := h4.c 1 rfl
          have h4z := (h4.set 0 (.int .i64 (x : Int)) (by simp)).set 1 (.slice A' o.length c') (by simp)
          have q2a := grownC wr w.heap.size 0 (.int .i64 (x : Int))
          have q2b := grownC (wr.setCell ⟨w.heap.size, 0, none⟩ (.int .i64 (x : Int))) w.heap.size 1 (.slice A' o.length c')
          have hCz := (hC.grown q2a (fun r e => by have := Option.some.inj e; omega)).grown q2b (fun r e => by have := Option.some.inj e; omega)
          have hGz := grown_step (grown_step hG q2a (.inr fun r e => by have := Option.some.inj e; omega)) q2b (.inr fun r e => by have := Option.some.inj e; omega)
          have hOz := (hO.grown q2a (fun r e => by have := Option.some.inj e; omega)).grown q2b (fun r e => by have := Option.some.inj e; omega)
          obtain ⟨_, _, _, hfin⟩ := RowInv.fin (e5 := e5) (i := i) (ed := ed) (n := n) (E := E) (X := X) hCz hGz hOz h4z rfl (by omega) (fun h0 => by rw [(HH.out.1.2 h0).2.2.1]; exact HH.out.2.1) HZQ hnz
          have HF := Lib.hid (And.intro h4z hfin)
          have HER := Lib.hid (CErr_any hC)
          clear h4z q2a q2b hCz hGz hOz hfin hC hG h4 h5 hO hz hnz
          go_wp2_with fail
          exact bodyPost_ret (results_row rfl _ rfl HF.out.1) rfl HF.out.2
end Go.Proofs.YtaflikgdlkaefaaGreat
