/- Ranges: the document's SpanHas. -/
import Derived.Test.YtdpkmabojlihmaaRgC
namespace Go.Proofs.Ytdpkmabojlihmaa
open Go.RowKit Go.Proofs.Ytdpkmabojlihmaa.Pl Go.Proofs.Ytdpkmabojlihmaa.Sp

theorem has_take_succ {l : List Rg} {k : Nat} (hk : k < l.length) (m : Int) : has (l.take (k + 1)) m = (has (l.take k) m || (l[k]?.getD ⟨0, 0⟩).in_ m) := by
  rw [List.take_succ_eq_append_getElem hk, has_append, List.getElem?_eq_getElem hk, Option.getD_some]
  simp [has]
theorem has_take_true {l : List Rg} {k : Nat} {m : Int} (h : has (l.take k) m = true) : has l m = true := by
  rw [← List.take_append_drop k l, has_append, h]; rfl
set_option maxRecDepth 100000 in
set_option maxHeartbeats 3200000 in
theorem RRHas_any (w : World) (A : Option Addr) (n c : Nat) (l : List Rg) (hb : Sl w w.heap.size A (rv l)) (h0 : n = l.length) (hl : n ≤ 1000000000) (m : Int) :
    Calls Try.prog 13 #[.slice A n c, .int .i64 m] w fun e w' => e = .returned (.bool (hasS l m)) ∧ Below w.heap.size w w' := by
  have hr := RRRight_any w A n c l hb h0 hl
  obtain ⟨q, hq⟩ : ∃ q, right l = q := ⟨_, rfl⟩
  rw [hq] at hr
  have HR := Lib.hid hr
  have HN := Lib.hid h0
  clear hr h0
  cases q with
  | false =>
    have HF := Lib.hid (show hasS l m = false by rw [hasS, hq]; rfl)
    clear hq hb
    go_enter Try.func13, Try.ntmps13
    go_wp2_with fail
    refine HR.out.mono ?_
    rintro e w1 ⟨rfl, h1⟩
    go_wp2_with fail
    go_ret
    exact ⟨ret_b HF.out.symm, h1⟩
  | true =>
    have HF := Lib.hid (show hasS l m = has l m by rw [hasS, hq]; rfl)
    clear hq
    go_enter Try.func13, Try.ntmps13
    go_wp2_with fail
    refine HR.out.mono ?_
    rintro e w1 ⟨rfl, h1⟩
    go_wp2_with fail
    go_loop [5] (fun x5 => ∃ k : Nat, k ≤ n ∧ x5 = .int .i64 (k : Int) ∧ has (l.take k) m = false) (fun x5 => n - (intOf x5).toNat)
    case atStart => exact ⟨0, by omega, rfl, rfl⟩
    case round =>
      obtain ⟨k, hk, rfl, hno⟩ := hrel
      by_cases hlt : k < n
      · have hkl : k < l.length := by have := HN.out; omega
        obtain ⟨b, o, rfl, _, hbW, c0, c1⟩ := rgAt hb hkl
        replace c0 := (h1.cell hbW).trans c0
        replace c1 := (h1.cell hbW).trans c1
        have hts := has_take_succ hkl m
        generalize l[k]?.getD ⟨0, 0⟩ = x at *
        have hd1 : decide ((k : Int) < (n : Int)) = true := by rw [decide_eq_true_eq]; omega
        have hn0 : (0 : Int) ≤ (k : Int) := by omega
        have hn1 : (k : Int) < (n : Int) := by omega
        rw [hno, Bool.false_or] at hts
        by_cases ha : x.a ≤ m
        · have d0 : decide (x.a ≤ m) = true := by rw [decide_eq_true_eq]; exact ha
          by_cases hbb : m ≤ x.b
          · have d1 : decide (m ≤ x.b) = true := by rw [decide_eq_true_eq]; exact hbb
            have HE := Lib.hid (show hasS l m = true by rw [HF.out]; exact has_take_true (hts.trans (in_iff.2 ⟨ha, hbb⟩)))
            clear hts hno ha hbb
            go_wp2_with fail
            go_ret
            exact ⟨ret_b HE.out.symm, h1⟩
          · have d1 : decide (m ≤ x.b) = false := by rw [decide_eq_false_iff_not]; exact hbb
            have HE := Lib.hid (show has (l.take (k + 1)) m = false by rw [hts, ← Bool.not_eq_true, in_iff]; omega)
            clear hts hno ha hbb
            go_wp2_with fail
            go_round
            case rel => exact ⟨k + 1, by omega, by go_num, HE.out⟩
            case measure => simp [intOf]; omega
        · have d0 : decide (x.a ≤ m) = false := by rw [decide_eq_false_iff_not]; exact ha
          have HE := Lib.hid (show has (l.take (k + 1)) m = false by rw [hts, ← Bool.not_eq_true, in_iff]; omega)
          clear hts hno ha
          go_wp2_with fail
          go_round
          case rel => exact ⟨k + 1, by omega, by go_num, HE.out⟩
          case measure => simp [intOf]; omega
      · obtain rfl : k = n := by omega
        have hd1 : decide ((k : Int) < (k : Int)) = false := by rw [decide_eq_false_iff_not]; omega
        have HE := Lib.hid (show hasS l m = false by rw [HF.out, ← List.take_length (l := l), ← HN.out]; exact hno)
        clear hno
        go_wp2_with fail
        go_ret
        exact ⟨ret_b HE.out.symm, h1⟩
end Go.Proofs.Ytdpkmabojlihmaa

