/- Ranges: span.Add, span.Of. -/
import Derived.Test.YtdpkmabojlihmaaRgL
namespace Go.Proofs.Ytdpkmabojlihmaa
open Go.RowKit Go.Proofs.Ytdpkmabojlihmaa.Pl Go.Proofs.Ytdpkmabojlihmaa.Sp

theorem Sl.oneR (w : World) (r : Rg) : Sl (w.alloc (.cells #[.int .i64 r.a, .int .i64 r.b] 24)) (w.alloc (.cells #[.int .i64 r.a, .int .i64 r.b] 24)).heap.size (some ⟨w.heap.size, 0, none⟩) (rv [r]) :=
  (Sl.new w 24 #[.int .i64 r.a, .int .i64 r.b] (0, 0)).more (by simp)
set_option maxRecDepth 100000 in
set_option maxHeartbeats 1600000 in
theorem Add_any (w : World) (A : Option Addr) (n c : Nat) (a : List Rg) (r : Rg) (ha : Sl w w.heap.size A (rv a)) (h0 : n = a.length) (hl : n ≤ 10000000) :
    Calls Try.prog 23 #[.slice A n c, r.v] w (RAns w (joinS a [r])) := by
  have hb0 := boxR w r
  have hb1 := balloc hb0 (.cells #[.int .i64 r.a, .int .i64 r.b] 24)
  have hsl := Sl.oneR (w.alloc (.cells #[.int .i64 r.a, .int .i64 r.b] 24)) r
  rw [show (w.alloc (.cells #[.int .i64 r.a, .int .i64 r.b] 24)).heap.size = w.heap.size + 1 by simp] at hsl
  have HJ := Lib.hid (Join_any _ A (some ⟨w.heap.size + 1, 0, none⟩) n 1 c 1 a [r] ((ha.below hb1).more hb1.size) hsl h0 rfl hl (by omega) (by omega))
  clear ha h0 hsl
  unfold Rg.v
  go_enter Try.func23, Try.ntmps23
  go_wp2_with fail
  refine HJ.out.mono ?_
  rintro e w1 ⟨A1, c1, rfl, h1, h2, h3, h4⟩
  have hbz := hb1.trans (h4.mono hb1.size)
  go_wp2_with fail
  go_ret
  exact ⟨_, _, rfl, h1, h2, h3, hbz⟩
/-! ### numbers as cells -/
def zv (l : List Int) : List Value := l.map (fun x => Value.int .i64 x)
@[simp] theorem zv_len (l : List Int) : (zv l).length = l.length := by simp [zv]
theorem zv_get (l : List Int) (k : Nat) (h : k < l.length) : (zv l)[k]? = some (.int .i64 (l[k]?.getD 0)) := by
  simp [zv, List.getElem?_map, List.getElem?_eq_getElem h]
theorem zAt {w : World} {B : Nat} {A : Option Addr} {ls : List Int} (h : Sl w B A (zv ls)) {k : Nat} (hk : k < ls.length) :
    ∃ b o, A = some ⟨b, o, none⟩ ∧ b < B ∧ b < w.heap.size ∧ w.cell? ⟨b, o + k, none⟩ = some (.int .i64 (ls[k]?.getD 0)) := by
  obtain ⟨b, o, e, h1, h2, hc⟩ := h.at_ (k := k) (by simpa using hk)
  exact ⟨b, o, e, h1, h2, hc k _ (zv_get ls k hk)⟩
def fl (l : List Int) : List Rg := (l.filter numOk).map (fun n => ⟨n, n⟩)
theorem fl_take {l : List Int} {k : Nat} (hk : k < l.length) : fl (l.take (k + 1)) = fl (l.take k) ++ if numOk (l[k]?.getD 0) = true then [⟨l[k]?.getD 0, l[k]?.getD 0⟩] else [] := by
  rw [List.take_succ_eq_append_getElem hk, List.getElem?_eq_getElem hk, Option.getD_some]
  unfold fl
  rw [List.filter_append, List.map_append]
  congr 1
  by_cases h : numOk l[k] = true <;> simp [h]
theorem fl_len (l : List Int) : (fl l).length ≤ l.length := by
  unfold fl
  rw [List.length_map]
  exact List.length_filter_le _ _
theorem fl_mem {l : List Int} {r : Rg} : r ∈ fl l ↔ ∃ n ∈ l, numOk n = true ∧ r = ⟨n, n⟩ := by
  unfold fl
  simp only [List.mem_map, List.mem_filter]
  constructor
  · rintro ⟨n, ⟨h1, h2⟩, rfl⟩; exact ⟨n, h1, h2, rfl⟩
  · rintro ⟨n, h1, h2, rfl⟩; exact ⟨n, ⟨h1, h2⟩, rfl⟩
theorem fl_ok {l : List Int} : ∀ r ∈ fl l, r.ok = true := fun r hr => by
  obtain ⟨n, _, h, rfl⟩ := fl_mem.1 hr
  rw [numOk, decide_eq_true_eq] at h
  exact ok_iff.2 ⟨h.1, Int.le_refl _, h.2⟩
set_option maxRecDepth 100000 in
set_option maxHeartbeats 3200000 in
theorem Of_any (w : World) (A : Option Addr) (n c : Nat) (l : List Int) (hb : Sl w w.heap.size A (zv l)) (h0 : n = l.length) (hl : n ≤ 10000000) :
    Calls Try.prog 24 #[.slice A n c] w (RAns w (ofS l)) := by
  have HN := Lib.hid h0
  clear h0
  go_enter Try.func24, Try.ntmps24
  go_wp2_with fail
  go_loopw [3, 8] (fun x3 x8 wr => ∃ (k : Nat) (x : Value), k ≤ n ∧ x8 = .int .i64 (k : Int) ∧ x = x3 ∧ OwnR wr w.heap.size x (fl (l.take k)) ∧ Below w.heap.size w wr) (fun _ x8 _ => n - (intOf x8).toNat)
  case atStart => exact ⟨0, _, by omega, rfl, rfl, OwnR.nil _ _, Below.refl _ _⟩
  case round =>
    obtain ⟨k, x3, hk, rfl, rfl, hown, hbel⟩ := hrel
    by_cases hlt : k < n
    · have hkl : k < l.length := by have := HN.out; omega
      obtain ⟨b, o, rfl, _, hbW, c0⟩ := zAt hb hkl
      replace c0 := (hbel.cell hbW).trans c0
      have hstep := fl_take hkl
      have hfl := fl_len (l.take k)
      rw [List.length_take] at hfl
      generalize l[k]?.getD 0 = x at *
      generalize fl (l.take k) = q at *
      have hd1 : decide ((k : Int) < (n : Int)) = true := by rw [decide_eq_true_eq]; omega
      have hn0 : (0 : Int) ≤ (k : Int) := by omega
      have hn1 : (k : Int) < (n : Int) := by omega
      by_cases hx : numOk x = true
      · rw [if_pos hx] at hstep
        have HT := Lib.hid hstep
        rw [numOk, decide_eq_true_eq] at hx
        unfold mx at hx
        have d1 : decide (1 ≤ x) = true := by rw [decide_eq_true_eq]; exact hx.1
        have d2 : decide (x ≤ 1099511627775) = true := by rw [decide_eq_true_eq]; exact hx.2
        have how2 := hown.below (boxR wr ⟨x, x⟩)
        have hbx := hbel.alloc hbel.size (.cells #[.int .i64 x, .int .i64 x] 24)
        have hSl := Sl.oneR wr ⟨x, x⟩
        have HL := Lib.hid (show q.length + 1 ≤ 1000000000 by omega)
        clear hx hown hstep hfl
        go_wp2_with (at_builtin; refine appR rfl rfl how2 hSl rfl rfl rfl (by rw [List.length_singleton]; exact HL.out) hbx.size ?_; intro v7 w7 h7 hg7 hat7)
        go_roundw
        case rel => exact ⟨k + 1, _, by omega, by go_num, rfl, by rw [HT.out]; exact h7, own_belowR hbx hbx.size how2 hg7⟩
        case measure => simp [intOf]; omega
      · rw [if_neg hx, List.append_nil] at hstep
        have HT := Lib.hid hstep
        have hx' : ¬ (1 ≤ x ∧ x ≤ 1099511627775) := by
          rw [numOk, decide_eq_true_eq] at hx
          unfold mx at hx
          exact hx
        clear hx hstep hfl
        by_cases h1 : 1 ≤ x
        · have d1 : decide (1 ≤ x) = true := by rw [decide_eq_true_eq]; exact h1
          have d2 : decide (x ≤ 1099511627775) = false := by rw [decide_eq_false_iff_not]; omega
          clear h1 hx'
          go_wp2_with fail
          go_roundw
          case rel => exact ⟨k + 1, _, by omega, by go_num, rfl, by rw [HT.out]; exact hown, hbel⟩
          case measure => simp [intOf]; omega
        · have d1 : decide (1 ≤ x) = false := by rw [decide_eq_false_iff_not]; exact h1
          clear h1 hx'
          go_wp2_with fail
          go_roundw
          case rel => exact ⟨k + 1, _, by omega, by go_num, rfl, by rw [HT.out]; exact hown, hbel⟩
          case measure => simp [intOf]; omega
    · obtain rfl : k = n := by omega
      have hd1 : decide ((k : Int) < (k : Int)) = false := by rw [decide_eq_false_iff_not]; omega
      rw [List.take_of_length_le (by have := HN.out; omega)] at hown
      have HA := Lib.hid (All_any wr w.heap.size _ (fl l) hown hbel.size fl_ok (by have := HN.out; have := fl_len l; omega))
      clear hown
      go_wp2_with fail
      refine HA.out.mono ?_
      rintro e w6 ⟨l', v6, rfl, hso, hown6, h6⟩
      have hfin := all_of (xs := l) (l := l') (fun r => (hso.2.1 r).trans fl_mem) hso.2.2
      rw [hfin] at hown6
      have hbz := hbel.trans h6
      clear hfin
      go_wp2_with fail
      go_ret
      exact RAns.of hown6 hbz
end Go.Proofs.Ytdpkmabojlihmaa

