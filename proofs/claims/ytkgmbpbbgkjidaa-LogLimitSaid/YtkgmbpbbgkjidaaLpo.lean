/- Records: the document's Put, whose row is the call's own. -/
import Derived.Test.YtkgmbpbbgkjidaaLw
namespace Go.Proofs.Ytkgmbpbbgkjidaa
open Go.RowKit Go.Proofs.Ytkgmbpbbgkjidaa.Pl Go.Proofs.Ytkgmbpbbgkjidaa.Pc Go.Proofs.Ytkgmbpbbgkjidaa.Lg

def OwnPut (w : World) (R : List UInt8) (e : Ending) (w' : World) : Prop := ∃ v, e = .returned (.tuple #[v, .int .i64 0]) ∧ OwnB w' w.heap.size v R ∧ Below w.heap.size w w'
set_option maxRecDepth 100000 in
set_option maxHeartbeats 3200000 in
theorem RPutL_own (w : World) (A : Option Addr) (n c : Nat) (ls : List (List UInt8)) (hb : Mat w A ls) (h0 : n = ls.length) (hm : n ≤ maxLen) (hR : (recs ls).length ≤ 1000000) (hall : ∀ x ∈ ls, x.length ≤ 65536) :
    Calls Try.prog 17 #[.slice A n c] w (OwnPut w (recs ls)) := by
  have hn63 : n ≤ 9223372036854775807 := by simpa [maxLen] using hm
  have H0 := Lib.hid h0
  have HA0 := Lib.hid hall
  clear h0 hall
  go_enter Try.func17, Try.ntmps17
  go_wp2_with fail
  go_loopw [4, 5] (fun x4 x9 wr => ∃ i : Nat, i ≤ n ∧ x9 = .int .i64 (i : Int) ∧ OwnB wr w.heap.size x4 (recs (ls.take i)) ∧ Below w.heap.size w wr) (fun _ x9 _ => n - (intOf x9).toNat)
  case atStart => exact ⟨0, Nat.zero_le _, rfl, OwnB.nil _ _, Below.refl _ _⟩
  case round =>
    obtain ⟨i, hi, rfl, hown, hbel⟩ := hrel
    by_cases hlt : i < n
    · have hlt' : i < ls.length := by have := H0.out; omega
      obtain ⟨bm, om, Ai, ci, eA, hbm, hcell, sl, hlc, hcm⟩ := (hb.below hbel).at_ hlt'
      subst eA
      obtain ⟨hrt, hrl⟩ := recs_take hlt'
      have hbig : ¬ 65536 < (ls[i]?.getD []).length := by
        have := HA0.out (ls[i]?.getD []) (by rw [List.getElem?_eq_getElem hlt']; exact List.getElem_mem _)
        omega
      obtain ⟨l, hl⟩ : ∃ l, ls[i]?.getD [] = l := ⟨_, rfl⟩
      rw [hl] at hcell sl hlc hrt hbig
      have HA := Lib.hid hrt
      rw [hrt, List.length_append, rec1_len] at hrl
      have hRl := Lib.hid (rec1_len l)
      have hel := enc_len l.length
      clear hrt hl
      have q1 : decide (65536 < (l.length : Int)) = false := by rw [decide_eq_false_iff_not]; omega
      have HP := Lib.hid (Record_any wr Ai l.length ci l sl rfl hlc hcm (by omega))
      generalize recs (ls.take i) = cur at *
      generalize rec1 l = R1 at *
      go_wp2_with fail
      refine HP.out.mono ?_
      rintro e w5 ⟨A5, c5, rfl, hown5, hb5⟩
      have s5 := (OwnB.sl hown5).1
      have hown5c := hown.below hb5
      have d5 := hbel.trans (hb5.mono hbel.size)
      have hs5 := d5.size
      clear hown5 hb5 hown hbel HP
      go_wp2_with (at_builtin; go_loud (refine appG (by rfl) rfl hown5c s5 rfl rfl rfl (by have := hRl.out; omega) hs5 ?_); intro s6 w6 hown6 hg6 hat6)
      have d6 := own_below d5 hs5 hown5c hg6
      rw [← HA.out] at hown6
      go_roundw
      case rel => exact ⟨i + 1, hlt, by go_num, hown6, d6⟩
      case measure => simp [intOf]; omega
    · obtain rfl : i = n := by omega
      have hT : recs (ls.take i) = recs ls := by rw [List.take_of_length_le (by have := H0.out; omega)]
      rw [hT] at hown
      clear hT
      go_wp2_with fail
      go_ret2
      exact ⟨_, rfl, hown, hbel⟩
end Go.Proofs.Ytkgmbpbbgkjidaa

