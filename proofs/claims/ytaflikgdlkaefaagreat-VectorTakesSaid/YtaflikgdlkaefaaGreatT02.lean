/- Ranges: span.Right. -/
import Derived.OneCell
import Derived.Test.YtaflikgdlkaefaaGreatT01
namespace Go.Proofs.YtaflikgdlkaefaaGreat
open Go.RowKit Go.Proofs.YtaflikgdlkaefaaGreat.Pl Go.Proofs.YtaflikgdlkaefaaGreat.Sp
set_option maxRecDepth 20000

theorem okR_drop {l : List Rg} {k : Nat} (hk : k < l.length) (lo : Int) : okR lo (l.drop k) = (decide (lo ≤ (l[k]?.getD ⟨0, 0⟩).a) && (l[k]?.getD ⟨0, 0⟩).ok && okR ((l[k]?.getD ⟨0, 0⟩).b + 2) (l.drop (k + 1))) := by
 rw [List.drop_eq_getElem_cons hk, List.getElem?_eq_getElem hk, Option.getD_some, okR]
set_option maxRecDepth 100000 in
set_option maxHeartbeats 6400000 in
theorem RRight_any (w : World) (A : Option Addr) (n c : Nat) (l : List Rg) (hb : Sl w w.heap.size A (rv l)) (h0 : n = l.length) (hl : n ≤ 1000000000) :
  Calls Tryz.prog 35 #[.slice A n c] w fun e w' => e = .returned (.bool (right l)) ∧ Below w.heap.size w w' := by
 have HN := Lib.hid h0
 clear h0
 go_enter Tryz.func35, Tryz.ntmps35
 go_wp2_with fail
 go_loopw [3, 8] (fun x3 x8 wr => ∃ (k : Nat) (z : Int), k ≤ n ∧ x8 = .int .i64 (k : Int) ∧ x3 = .int .i64 z ∧ -1 ≤ z ∧ z ≤ 1099511627775 ∧ right l = okR (z + 2) (l.drop k) ∧ Below w.heap.size w wr) (fun _ x8 _ => n - (intOf x8).toNat)
 case atStart => exact ⟨0, -1, by omega, rfl, rfl, by omega, by omega, rfl, Below.refl _ _⟩
 case round =>
  obtain ⟨k, z, hk, rfl, rfl, hz1, hz2, hrt, hbel⟩ := hrel
  by_cases hlt : k < n
  ·have hkl : k < l.length := by have := HN.out; omega
   obtain ⟨b, o, rfl, _, hbW, c0, c1⟩ := rgAt hb hkl
   replace c0 := (hbel.cell hbW).trans c0
   replace c1 := (hbel.cell hbW).trans c1
   have hstep := okR_drop hkl (z + 2)
   generalize l[k]?.getD ⟨0, 0⟩ = x at *
   have hd1 : decide ((k : Int) < (n : Int)) = true := by rw [decide_eq_true_eq]; omega
   have hn0 : (0 : Int) ≤ (k : Int) := by omega
   have hn1 : (k : Int) < (n : Int) := by omega
   have hw1 : IntKind.i64.wrap (z + 2) = z + 2 := by rw [IntKind.wrap_i64]; omega
   have hbx := hbel.alloc hbel.size (.cells #[.int .i64 x.a, .int .i64 x.b] 58)
   by_cases hgood : z + 2 ≤ x.a ∧ x.ok = true
   ·have hx := ok_iff.1 hgood.2
    unfold mx at hx
    rw [decide_eq_true hgood.1, hgood.2, Bool.true_and, Bool.true_and] at hstep
    have HS := Lib.hid (hrt.trans hstep)
    have hzx := hgood.1
    clear hgood hrt hstep
    have d0 : decide (x.a < z + 2) = false := by rw [decide_eq_false_iff_not]; omega
    have d1 : decide (x.a < 1) = false := by rw [decide_eq_false_iff_not]; omega
    have d2 : decide (x.b < x.a) = false := by rw [decide_eq_false_iff_not]; omega
    have d3 : decide ((1099511627775 : Int) < x.b) = false := by rw [decide_eq_false_iff_not]; omega
    go_wp2_with fail
    go_roundw
    case rel => exact ⟨k + 1, x.b, by omega, by go_num, rfl, by omega, by omega, HS.out, hbx⟩
    case measure => simp [intOf]; omega
   ·have hbad : (decide (z + 2 ≤ x.a) && x.ok && okR (x.b + 2) (l.drop (k + 1))) = false := by
     rw [Bool.and_eq_false_iff]
     left
     rw [Bool.and_eq_false_iff]
     by_cases h : z + 2 ≤ x.a
     ·right; rcases hx : x.ok with _ | _
      ·rfl
      ·exact absurd ⟨h, hx⟩ hgood
     ·left; rw [decide_eq_false_iff_not]; exact h
    have hcase : x.a < z + 2 ∨ (¬ x.a < z + 2 ∧ x.a < 1) ∨ (¬ x.a < z + 2 ∧ ¬ x.a < 1 ∧ x.b < x.a) ∨ (¬ x.a < z + 2 ∧ ¬ x.a < 1 ∧ ¬ x.b < x.a ∧ (1099511627775 : Int) < x.b) := by
     rw [ok_iff] at hgood
     unfold mx at hgood
     omega
    clear hgood
    rcases hcase with hcase | hcase | hcase | hcase
    · -- 0
     have d0 : decide (x.a < z + 2) = true := by rw [decide_eq_true_eq]; omega
     have HF := Lib.hid (show right l = false by rw [hrt, hstep]; exact hbad)
     clear hbad hstep hrt hcase
     go_wp2_with fail
     go_ret
     exact ⟨ret_b HF.out.symm, hbx⟩
    · -- 1
     have d0 : decide (x.a < z + 2) = false := by rw [decide_eq_false_iff_not]; omega
     have d1 : decide (x.a < 1) = true := by rw [decide_eq_true_eq]; omega
     have HF := Lib.hid (show right l = false by rw [hrt, hstep]; exact hbad)
     clear hbad hstep hrt hcase
     go_wp2_with fail
     go_ret
     exact ⟨ret_b HF.out.symm, hbx⟩
    · -- 2
     have d0 : decide (x.a < z + 2) = false := by rw [decide_eq_false_iff_not]; omega
     have d1 : decide (x.a < 1) = false := by rw [decide_eq_false_iff_not]; omega
     have d2 : decide (x.b < x.a) = true := by rw [decide_eq_true_eq]; omega
     have HF := Lib.hid (show right l = false by rw [hrt, hstep]; exact hbad)
     clear hbad hstep hrt hcase
     go_wp2_with fail
     go_ret
     exact ⟨ret_b HF.out.symm, hbx⟩
    · -- 3
     have d0 : decide (x.a < z + 2) = false := by rw [decide_eq_false_iff_not]; omega
     have d1 : decide (x.a < 1) = false := by rw [decide_eq_false_iff_not]; omega
     have d2 : decide (x.b < x.a) = false := by rw [decide_eq_false_iff_not]; omega
     have d3 : decide ((1099511627775 : Int) < x.b) = true := by rw [decide_eq_true_eq]; omega
     have HF := Lib.hid (show right l = false by rw [hrt, hstep]; exact hbad)
     clear hbad hstep hrt hcase
     go_wp2_with fail
     go_ret
     exact ⟨ret_b HF.out.symm, hbx⟩
  ·obtain rfl : k = n := by omega
   have hd1 : decide ((k : Int) < (k : Int)) = false := by rw [decide_eq_false_iff_not]; omega
   have HF := Lib.hid (show right l = true by rw [hrt, HN.out, List.drop_length]; rfl)
   clear hrt
   go_wp2_with fail
   go_ret
   exact ⟨ret_b HF.out.symm, hbel⟩
end Go.Proofs.YtaflikgdlkaefaaGreat
/- Ranges: span.Join, span.Add. -/
namespace Go.Proofs.YtaflikgdlkaefaaGreat
open Go.RowKit Go.Proofs.YtaflikgdlkaefaaGreat.Pl Go.Proofs.YtaflikgdlkaefaaGreat.Sp
set_option maxRecDepth 20000

/-- a row of ranges is answered -/
def RAns (w : World) (q : List Rg) (e : Ending) (w' : World) : Prop := ∃ A c, e = .returned (.slice A q.length c) ∧ Sl w' w'.heap.size A (rv q) ∧ q.length ≤ c ∧ c ≤ maxLen ∧ Below w.heap.size w w'
theorem RAns.of {w w' : World} {q : List Rg} {v : Value} {base : Nat} (h : OwnR w' base v q) (hb : Below w.heap.size w w') : RAns w q (.returned v) w' := by
 obtain ⟨A, c, rfl, h1, h2, h3, _⟩ := h.form
 exact ⟨A, c, rfl, h3, h1, h2, hb⟩
theorem RAns.nil {w w' : World} (hb : Below w.heap.size w w') : RAns w [] (.returned (.slice none 0 0)) w' := ⟨none, 0, rfl, .inl rfl, Nat.le_refl _, by simp [maxLen], hb⟩
end Go.Proofs.YtaflikgdlkaefaaGreat
/- Ranges: span.Add, span.Of. -/
namespace Go.Proofs.YtaflikgdlkaefaaGreat
open Go.RowKit Go.Proofs.YtaflikgdlkaefaaGreat.Pl Go.Proofs.YtaflikgdlkaefaaGreat.Sp
set_option maxRecDepth 20000

theorem Sl.oneR (w : World) (r : Rg) : Sl (w.alloc (.cells #[.int .i64 r.a, .int .i64 r.b] 58)) (w.alloc (.cells #[.int .i64 r.a, .int .i64 r.b] 58)).heap.size (some ⟨w.heap.size, 0, none⟩) (rv [r]) :=
 (Sl.new w 58 #[.int .i64 r.a, .int .i64 r.b] (0, 0)).more (by simp)
/-! ### numbers as cells -/
def zv (l : List Int) : List Value := l.map (fun x => Value.int .i64 x)
@[simp] theorem zv_len (l : List Int) : (zv l).length = l.length := by simp [zv]
theorem zv_get (l : List Int) (k : Nat) (h : k < l.length) : (zv l)[k]? = some (.int .i64 (l[k]?.getD 0)) := by
 simp [zv, List.getElem?_map, List.getElem?_eq_getElem h]
theorem zAt {w : World} {B : Nat} {A : Option Addr} {ls : List Int} (h : Sl w B A (zv ls)) {k : Nat} (hk : k < ls.length) :
  ∃ b o, A = some ⟨b, o, none⟩ ∧ b < B ∧ b < w.heap.size ∧ w.cell? ⟨b, o + k, none⟩ = some (.int .i64 (ls[k]?.getD 0)) := by
 obtain ⟨b, o, e, h1, h2, hc⟩ := h.at_ (k := k) (by simpa using hk)
 exact ⟨b, o, e, h1, h2, hc k _ (zv_get ls k hk)⟩
def fl (l : List Int) : List Rg := (l.filter numOk).map (fun n => ⟨n, n⟩)
theorem fl_take {l : List Int} {k : Nat} (hk : k < l.length) : fl (l.take (k + 1)) = fl (l.take k) ++ if numOk (l[k]?.getD 0) = true then [⟨l[k]?.getD 0, l[k]?.getD 0⟩] else [] := by
 rw [List.take_succ_eq_append_getElem hk, List.getElem?_eq_getElem hk, Option.getD_some]
 unfold fl
 rw [List.filter_append, List.map_append]
 congr 1
 by_cases h : numOk l[k] = true <;> simp [List.filter_cons, h]
theorem fl_len (l : List Int) : (fl l).length ≤ l.length := by
 unfold fl
 rw [List.length_map]
 exact List.length_filter_le _ _
theorem fl_mem {l : List Int} {r : Rg} : r ∈ fl l ↔ ∃ n ∈ l, numOk n = true ∧ r = ⟨n, n⟩ := by
 unfold fl
 simp only [List.mem_map, List.mem_filter]
 constructor
 ·rintro ⟨n, ⟨h1, h2⟩, rfl⟩; exact ⟨n, h1, h2, rfl⟩
 ·rintro ⟨n, h1, h2, rfl⟩; exact ⟨n, ⟨h1, h2⟩, rfl⟩
theorem fl_ok {l : List Int} : ∀ r ∈ fl l, r.ok = true := fun r hr => by
 obtain ⟨n, _, h, rfl⟩ := fl_mem.1 hr
 rw [numOk, decide_eq_true_eq] at h
 exact ok_iff.2 ⟨h.1, Int.le_refl _, h.2⟩
set_option maxRecDepth 100000 in
set_option maxHeartbeats 3200000 in
theorem Of_any (w : World) (A : Option Addr) (n c : Nat) (l : List Int) (hb : Sl w w.heap.size A (zv l)) (h0 : n = l.length) (hl : n ≤ 10000000) :
  Calls Tryz.prog 67 #[.slice A n c] w (RAns w (ofS l)) := by
 have HN := Lib.hid h0
 clear h0
 go_enter Tryz.func67, Tryz.ntmps67
 go_wp2_with fail
 go_loopw [3, 8] (fun x3 x8 wr => ∃ (k : Nat) (x : Value), k ≤ n ∧ x8 = .int .i64 (k : Int) ∧ x = x3 ∧ OwnR wr w.heap.size x (fl (l.take k)) ∧ Below w.heap.size w wr) (fun _ x8 _ => n - (intOf x8).toNat)
 case atStart => exact ⟨0, _, by omega, rfl, rfl, OwnR.nil _ _, Below.refl _ _⟩
 case round =>
  obtain ⟨k, x3, hk, rfl, rfl, hown, hbel⟩ := hrel
  by_cases hlt : k < n
  ·have hkl : k < l.length := by have := HN.out; omega
   obtain ⟨b, o, rfl, _, hbW, c0⟩ := zAt hb hkl
   replace c0 := (hbel.cell hbW).trans c0
   have hstep := fl_take hkl
   have hfl := fl_len (l.take k)
   rw [List.length_take] at hfl
   generalize l[k]?.getD 0 = x at *
   generalize fl (l.take k) = q at *
   have hd1 : decide ((k : Int) < (n : Int)) = true := by rw [decide_eq_true_eq]; omega
   have hn0 : (0 : Int) ≤ (k : Int) := by omega
   have hn1 : (k : Int) < (n : Int) := by omega
   by_cases hx : numOk x = true
   ·rw [if_pos hx] at hstep
    have HT := Lib.hid hstep
    rw [numOk, decide_eq_true_eq] at hx
    unfold mx at hx
    have d1 : decide (1 ≤ x) = true := by rw [decide_eq_true_eq]; exact hx.1
    have d2 : decide (x ≤ 1099511627775) = true := by rw [decide_eq_true_eq]; exact hx.2
    have how2 := hown.below (boxR wr ⟨x, x⟩)
    have hbx := hbel.alloc hbel.size (.cells #[.int .i64 x, .int .i64 x] 58)
    have hSl := Sl.oneR wr ⟨x, x⟩
    have HL := Lib.hid (show q.length + 1 ≤ 1000000000 by omega)
    clear hx hown hstep hfl
    go_wp2_with (at_builtin; refine appR rfl rfl how2 hSl rfl rfl rfl (by rw [List.length_singleton]; exact HL.out) hbx.size ?_; intro v7 w7 h7 hg7 hat7)
    go_roundw
    case rel => exact ⟨k + 1, _, by omega, by go_num, rfl, by rw [HT.out]; exact h7, own_belowR hbx hbx.size how2 hg7⟩
    case measure => simp [intOf]; omega
   ·rw [if_neg hx, List.append_nil] at hstep
    have HT := Lib.hid hstep
    have hx' : ¬ (1 ≤ x ∧ x ≤ 1099511627775) := by
     rw [numOk, decide_eq_true_eq] at hx
     unfold mx at hx
     exact hx
    clear hx hstep hfl
    by_cases h1 : 1 ≤ x
    ·have d1 : decide (1 ≤ x) = true := by rw [decide_eq_true_eq]; exact h1
     have d2 : decide (x ≤ 1099511627775) = false := by rw [decide_eq_false_iff_not]; omega
     clear h1 hx'
     go_wp2_with fail
     go_roundw
     case rel => exact ⟨k + 1, _, by omega, by go_num, rfl, by rw [HT.out]; exact hown, hbel⟩
     case measure => simp [intOf]; omega
    ·have d1 : decide (1 ≤ x) = false := by rw [decide_eq_false_iff_not]; exact h1
     clear h1 hx'
     go_wp2_with fail
     go_roundw
     case rel => exact ⟨k + 1, _, by omega, by go_num, rfl, by rw [HT.out]; exact hown, hbel⟩
     case measure => simp [intOf]; omega
  ·obtain rfl : k = n := by omega
   have hd1 : decide ((k : Int) < (k : Int)) = false := by rw [decide_eq_false_iff_not]; omega
   rw [List.take_of_length_le (by have := HN.out; omega)] at hown
   have HA := Lib.hid (All_any wr w.heap.size _ (fl l) hown hbel.size fl_ok (by have := HN.out; have := fl_len l; omega))
   clear hown
   go_wp2_with fail
   refine HA.out.mono ?_
   rintro e w6 ⟨l', v6, rfl, hso, hown6, h6⟩
   have hfin := all_of (xs := l) (l := l') (fun r => (hso.2.1 r).trans fl_mem) hso.2.2
   rw [hfin] at hown6
   have hbz := hbel.trans h6
   clear hfin
   go_wp2_with fail
   go_ret
   exact RAns.of hown6 hbz
end Go.Proofs.YtaflikgdlkaefaaGreat
/- Ranges: span.Minus. -/
namespace Go.Proofs.YtaflikgdlkaefaaGreat
open Go.RowKit Go.Proofs.YtaflikgdlkaefaaGreat.Pl Go.Proofs.YtaflikgdlkaefaaGreat.Sp
set_option maxRecDepth 20000

theorem frozen_of_blk {w w' : World} {p : Addr} (h : w'.heap[p.block]? = w.heap[p.block]?) : w'.frozen? p = w.frozen? p := by
 unfold World.frozen?
 rw [h]
theorem StandsR.grown {w w' : World} {g : Nat} {s : Rg} {row : Option Nat} (h : StandsR w g s) (hg : w.grownBy w' row) (hne : row ≠ some g) : StandsR w' g s := by
 obtain ⟨h1, h2, h3, h5, h6⟩ := h
 have hb := hg.block g h1 (fun e => hne e.symm)
 exact ⟨Nat.lt_of_lt_of_le h1 hg.size, (World.cell?_of_block (w := w) hb).trans h2, (World.cell?_of_block (w := w) hb).trans h3, (frozen_of_blk hb).trans h5, (frozen_of_blk hb).trans h6⟩
def slLen : Value → Nat
 | .slice _ m _ => m
 | _ => 0
end Go.Proofs.YtaflikgdlkaefaaGreat
