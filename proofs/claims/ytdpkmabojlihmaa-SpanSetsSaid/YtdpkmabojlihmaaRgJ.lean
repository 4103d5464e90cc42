/- Ranges: span.Has. -/
import Derived.Test.YtdpkmabojlihmaaRgB
import Derived.Test.YtdpkmabojlihmaaRgP
import Derived.Test.YtdpkmabojlihmaaRgH
namespace Go.Proofs.Ytdpkmabojlihmaa
open Go.RowKit Go.Proofs.Ytdpkmabojlihmaa.Pl Go.Proofs.Ytdpkmabojlihmaa.Sp

set_option maxRecDepth 100000 in
theorem hasC_any (w : World) (r : Rg) (g : Nat) (m : Int) (hg : w.cell? ⟨g, 0, none⟩ = some (.int .i64 m)) :
    Calls Try.prog 28 #[r.v, .pointer (some ⟨g, 0, none⟩)] w fun e w' => e = .returned (.bool (r.in_ m)) ∧ Below w.heap.size w w' := by
  unfold Rg.v Rg.in_
  obtain ⟨a, b⟩ := r
  have hb := boxR w ⟨a, b⟩
  have hlt := World.block_lt_of_cell? _ _ hg
  have hg' := (hb.cell hlt).trans hg
  go_enter Try.func28, Try.ntmps28
  by_cases h : a ≤ m
  · have d1 : decide (a ≤ m) = true := by rw [decide_eq_true_eq]; exact h
    go_wp2_with fail
    go_ret
    exact ⟨ret_b (by simp), hb⟩
  · have d1 : decide (a ≤ m) = false := by rw [decide_eq_false_iff_not]; exact h
    go_wp2_with fail
    go_ret
    exact ⟨ret_b (by simp), hb⟩
set_option maxRecDepth 100000 in
theorem IndexFR_any (w : World) (A : Option Addr) (n c : Nat) (l : List Rg) (g : Nat) (m : Int) (hb : Sl w w.heap.size A (rv l)) (h0 : n = l.length) (hl : n ≤ 1000000000) (hg : w.cell? ⟨g, 0, none⟩ = some (.int .i64 m)) :
    Calls Try.prog 31 #[.slice A n c, .func (.func 28) #[] #[.pointer (some ⟨g, 0, none⟩)]] w fun e w' => ∃ z : Int, e = .returned (.int .i64 z) ∧ decide (0 ≤ z) = has l m ∧ Below w.heap.size w w' := by
  have HN := Lib.hid h0
  clear h0
  have hgw := World.block_lt_of_cell? _ _ hg
  go_enter Try.func31, Try.ntmps31
  go_wp2_with fail
  go_loopw [8] (fun x8 wr => ∃ k : Nat, k ≤ n ∧ x8 = .int .i64 (k : Int) ∧ has (l.take k) m = false ∧ Below w.heap.size w wr) (fun x8 _ => n - (intOf x8).toNat)
  case atStart => exact ⟨0, by omega, rfl, rfl, Below.refl _ _⟩
  case round =>
    obtain ⟨k, hk, rfl, hno, hbel⟩ := hrel
    by_cases hlt : k < n
    · have hkl : k < l.length := by have := HN.out; omega
      obtain ⟨b, o, rfl, _, hbW, c0, c1⟩ := rgAt hb hkl
      replace c0 := (hbel.cell hbW).trans c0
      replace c1 := (hbel.cell hbW).trans c1
      have hts := has_take_succ hkl m
      generalize l[k]?.getD ⟨0, 0⟩ = x at *
      have hd1 : decide ((k : Int) < (n : Int)) = true := by rw [decide_eq_true_eq]; omega
      have hn0 : (0 : Int) ≤ (k : Int) := by omega
      have hn1 : (k : Int) < (n : Int) := by omega
      have HC := Lib.hid (hasC_any wr x g m ((hbel.cell hgw).trans hg))
      unfold Rg.v at HC
      rw [hno, Bool.false_or] at hts
      obtain ⟨q, hq⟩ : ∃ q, x.in_ m = q := ⟨_, rfl⟩
      rw [hq] at HC hts
      have HT := Lib.hid hts
      clear hts hno hq
      go_wp2_with fail
      refine HC.out.mono ?_
      rintro e w1 ⟨rfl, h1⟩
      have hbz := hbel.trans (h1.mono hbel.size)
      cases q with
      | true =>
        go_wp2_with fail
        go_ret
        exact ⟨_, rfl, by rw [has_take_true HT.out]; simp, hbz⟩
      | false =>
        go_wp2_with fail
        go_roundw
        case rel => exact ⟨k + 1, by omega, by go_num, HT.out, hbz⟩
        case measure => simp [intOf]; omega
    · obtain rfl : k = n := by omega
      have hd1 : decide ((k : Int) < (k : Int)) = false := by rw [decide_eq_false_iff_not]; omega
      have HE := Lib.hid (show has l m = false by rw [← List.take_length (l := l), ← HN.out]; exact hno)
      clear hno
      go_wp2_with fail
      go_ret
      exact ⟨_, rfl, by rw [HE.out]; rfl, hbel⟩
set_option maxRecDepth 100000 in
theorem ContainsFR_any (w : World) (A : Option Addr) (n c : Nat) (l : List Rg) (g : Nat) (m : Int) (hb : Sl w w.heap.size A (rv l)) (h0 : n = l.length) (hl : n ≤ 1000000000) (hg : w.cell? ⟨g, 0, none⟩ = some (.int .i64 m)) :
    Calls Try.prog 27 #[.slice A n c, .func (.func 28) #[] #[.pointer (some ⟨g, 0, none⟩)]] w fun e w' => e = .returned (.bool (has l m)) ∧ Below w.heap.size w w' := by
  have HI := Lib.hid (IndexFR_any w A n c l g m hb h0 hl hg)
  clear hb h0 hg
  go_enter Try.func27, Try.ntmps27
  go_wp2_with fail
  refine HI.out.mono ?_
  rintro e w1 ⟨z, rfl, hz, h1⟩
  have HZ := Lib.hid hz
  clear hz
  go_wp2_with fail
  go_ret
  exact ⟨ret_b HZ.out, h1⟩
set_option maxRecDepth 100000 in
theorem RHas_any (w : World) (A : Option Addr) (n c : Nat) (l : List Rg) (hb : Sl w w.heap.size A (rv l)) (h0 : n = l.length) (hl : n ≤ 1000000000) (m : Int) :
    Calls Try.prog 12 #[.slice A n c, .int .i64 m] w fun e w' => e = .returned (.bool (hasS l m)) ∧ Below w.heap.size w w' := by
  have hbx := balloc (Below.refl w.heap.size w) (.cells #[.int .i64 m] 2)
  have HR := Lib.hid (RRight_any _ A n c l ((hb.below hbx).more hbx.size) h0 hl)
  have hA := At.new w 2 #[.int .i64 m]
  have HI := Lib.hid (fun W (hW : Below (w.alloc (.cells #[.int .i64 m] 2)).heap.size (w.alloc (.cells #[.int .i64 m] 2)) W) => ContainsFR_any W A n c l w.heap.size m ((hb.below (hbx.trans (hW.mono hbx.size))).more (hbx.trans (hW.mono hbx.size)).size) h0 hl ((hA.below hW).c 0 rfl))
  have HS := Lib.hid (show hasS l m = (right l && has l m) from rfl)
  generalize right l = q at *
  clear h0 hb hA
  cases q with
  | false =>
    go_enter Try.func12, Try.ntmps12
    go_wp2_with fail
    refine HR.out.mono ?_
    rintro e w1 ⟨rfl, h1⟩
    have hbz := hbx.trans (h1.mono hbx.size)
    go_wp2_with fail
    go_ret
    exact ⟨ret_b (by rw [HS.out]; rfl), hbz⟩
  | true =>
    go_enter Try.func12, Try.ntmps12
    go_wp2_with fail
    refine HR.out.mono ?_
    rintro e w1 ⟨rfl, h1⟩
    have hbz := hbx.trans (h1.mono hbx.size)
    go_wp2_with fail
    refine (HI.out _ h1).mono ?_
    rintro e w2 ⟨rfl, h2⟩
    have hby := hbz.trans (h2.mono hbz.size)
    go_wp2_with fail
    go_ret
    exact ⟨ret_b (by rw [HS.out]; rfl), hby⟩
end Go.Proofs.Ytdpkmabojlihmaa

