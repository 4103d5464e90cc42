/- Records: the known ones. -/
import Derived.Test.YtkgmbpbbgkjidaaLk
namespace Go.Proofs.Ytkgmbpbbgkjidaa
open Go.RowKit Go.Proofs.Ytkgmbpbbgkjidaa.Pl Go.Proofs.Ytkgmbpbbgkjidaa.Pc Go.Proofs.Ytkgmbpbbgkjidaa.Lg

def kL : List UInt8 := [3, 97, 98, 99, 249, 148, 232, 34, 0, 210, 2, 239, 141]
theorem kL_put : putR [[97, 98, 99], []] = (kL, 0) := by decide +kernel
theorem kL_scan : Lg.scan (kL ++ [9]) = ([[97, 98, 99], []], 13) := by decide +kernel
theorem kL_size : sizeN 3 = 8 ∧ sizeN (-1) = 5 := by decide +kernel
def PutLitL (w : World) (r1 : List UInt8) (n1 : Nat) (r2 : Int) (e : Ending) (w' : World) : Prop := ∃ A c, e = .returned (.tuple #[.slice A n1 c, .int .i64 r2]) ∧ Sl w' w'.heap.size A (bv r1) ∧ n1 ≤ c ∧ c ≤ maxLen ∧ Below w.heap.size w w'
theorem LPut_lit (w : World) (A : Option Addr) (n c : Nat) (ls : List (List UInt8)) (r1 : List UInt8) (n1 : Nat) (r2 : Int) (hb : Mat w A ls) (h0 : n = ls.length) (hm : n ≤ maxLen) (hR : (recs ls).length ≤ 1000000) (h : putR ls = (r1, r2)) (h1 : r1.length = n1) :
    Calls Try.prog 16 #[.slice A n c] w (PutLitL w r1 n1 r2) := by
  subst h1
  have := LPut_any w A n c ls hb h0 hm hR
  rw [h] at this
  exact this
theorem RPut_litL (w : World) (A : Option Addr) (n c : Nat) (ls : List (List UInt8)) (r1 : List UInt8) (n1 : Nat) (r2 : Int) (hb : Mat w A ls) (h0 : n = ls.length) (hm : n ≤ maxLen) (hR : (recs ls).length ≤ 1000000) (h : putR ls = (r1, r2)) (h1 : r1.length = n1) :
    Calls Try.prog 17 #[.slice A n c] w (PutLitL w r1 n1 r2) := by
  subst h1
  have := RPutL_any w A n c ls hb h0 hm hR
  rw [h] at this
  exact this
def ScanLit (w : World) (ls : List (List UInt8)) (n k : Nat) (e : Ending) (w' : World) : Prop := ∃ A c, e = .returned (.tuple #[.slice A n c, .int .i64 (k : Int)]) ∧ Mat w' A ls ∧ n ≤ c ∧ c ≤ maxLen ∧ Below w.heap.size w w'
theorem Scan_lit (w : World) (A : Option Addr) (nb c : Nat) (b : List UInt8) (ls : List (List UInt8)) (n k : Nat) (hb : Sl w w.heap.size A (bv b)) (h0 : nb = b.length) (hc : nb ≤ c) (hm : c ≤ maxLen) (hbl : b.length ≤ 300000) (h : Lg.scan b = (ls, k)) (h1 : ls.length = n) :
    Calls Try.prog 23 #[.slice A nb c] w (ScanLit w ls n k) := by
  subst h1
  have := Scan_any w A nb c b hb h0 hc hm hbl
  rw [h] at this
  exact this
theorem RScan_lit (w : World) (A : Option Addr) (nb c : Nat) (b : List UInt8) (ls : List (List UInt8)) (n k : Nat) (hb : Sl w w.heap.size A (bv b)) (h0 : nb = b.length) (hc : nb ≤ c) (hm : c ≤ maxLen) (hbl : b.length ≤ 300000) (h : Lg.scan b = (ls, k)) (h1 : ls.length = n) :
    Calls Try.prog 38 #[.slice A nb c] w (ScanLit w ls n k) := by
  subst h1
  have := RScan_any w A nb c b hb h0 hc hm hbl
  rw [h] at this
  exact this
set_option maxRecDepth 100000 in
set_option maxHeartbeats 3200000 in
theorem lgKnown_any (w : World) : Calls Try.prog 14 #[] w fun e w' => e = .returned (.bool true) ∧ Below w.heap.size w w' := by
  have s0 : Sl (w.alloc (.cells #[.int .u8 97, .int .u8 98, .int .u8 99] 5 (3, 4))) (w.heap.size + 1) (some ⟨w.heap.size, 0, none⟩) (bv [97, 98, 99]) := Sl.new w 5 #[.int .u8 97, .int .u8 98, .int .u8 99] (3, 4)
  have b0 := balloc (Below.refl w.heap.size w) (.cells #[.int .u8 97, .int .u8 98, .int .u8 99] 5 (3, 4))
  have hz0 : (w.alloc (.cells #[.int .u8 97, .int .u8 98, .int .u8 99] 5 (3, 4))).heap.size = w.heap.size + 1 := by simp
  have hM := Mat.two (w.alloc (.cells #[.int .u8 97, .int .u8 98, .int .u8 99] 5 (3, 4))) 25 (.slice (some ⟨w.heap.size, 0, none⟩) 3 3) (.slice none 0 0) [97, 98, 99] [] ⟨_, 3, rfl, s0.more (by simp), by simp, by simp [maxLen]⟩ (SlcIs.nil _)
  have b1 := balloc b0 (.cells #[.slice (some ⟨w.heap.size, 0, none⟩) 3 3, .slice none 0 0] 25)
  rw [hz0] at hM
  clear s0 b0
  have kc := fun (w : World) (C : Array Value) (n c : Nat) => Lib.run_convert_bytes_const (P := Try.prog) w 25 5 C n c Try.underlying25 Try.underlying5
  go_enter Try.func14, Try.ntmps14
  go_wp2_with fail
  generalize (w.alloc (.cells #[.int .u8 97, .int .u8 98, .int .u8 99] 5 (3, 4))).alloc (.cells #[.slice (some ⟨w.heap.size, 0, none⟩) 3 3, .slice none 0 0] 25) = w1 at *
  refine (LPut_lit w1 _ 2 2 [[97, 98, 99], []] kL 13 0 hM rfl (by simp [maxLen]) (by decide +kernel) kL_put rfl).mono ?_
  rintro e w2 ⟨A2, c2, rfl, s2, hc2, hm2, hb2⟩
  have b2 := b1.trans (hb2.mono b1.size)
  clear hM b1 hb2
  go_wp2_with (at_builtin; first | (refine appG (by rfl) rfl (OwnB.nil w2 w2.heap.size) s2 rfl rfl rfl (by simp [kL]) (Nat.le_refl _) ?_; intro s3 w3 hown3 hg3 hat3; rw [List.nil_append] at hown3; have s9 : Sl (w3.alloc (.cells #[.int .u8 9] 5)) (w3.heap.size + 1) (some ⟨w3.heap.size, 0, none⟩) (bv [9]) := Sl.new w3 5 #[.int .u8 9] (0, 0); have d3 : Below w2.heap.size w2 w3 := below_of_grown hg3 (by simp [Value.ownBlock]) (Nat.le_refl _); have d9 := balloc d3 (.cells #[.int .u8 9] 5); have hown9 := OwnB.below hown3 (balloc (Below.refl w3.heap.size w3) (.cells #[.int .u8 9] 5)); obtain ⟨A3, c3, rfl, _⟩ := id hown3.form) | (go_loud (refine appG (by rfl) rfl hown9 s9 rfl rfl rfl (by simp [kL]) d9.size ?_; intro s4 w4 hown4 hg4 hat4; have d4 := own_below d9 d9.size hown9 hg4; obtain ⟨A4, c4, rfl, hc4, hm4, s4, _⟩ := id hown4.form)))
  have hc4' : kL.length + 1 ≤ c4 := by simpa using hc4
  have b4 := b2.trans (d4.mono b2.size)
  have s2' := (s2.below d4).more d4.size
  refine (Scan_lit w4 A4 (kL.length + 1) c4 (kL ++ [9]) [[97, 98, 99], []] 2 13 s4 (by simp) hc4' hm4 (by simp [kL]) kL_scan rfl).mono ?_
  rintro e w5 ⟨A5, c5, rfl, hM5, hc5, hm5, hb5⟩
  have b5 := b4.trans (hb5.mono b4.size)
  have s5 := (s2'.below hb5).more hb5.size
  obtain ⟨bk, o, hA2, _, _, hcell⟩ := s5.at_ (k := 0) (by simp [kL])
  subst hA2
  have hc0 : w5.cell? ⟨bk, o, none⟩ = some (.int .u8 3) := hcell 0 _ rfl
  have s14 : Sl w5 w5.heap.size (some ⟨bk, o + 1, none⟩) (bv [97, 98, 99]) := by
    have := (s5.cut 1 c2 (by simp [kL]; omega)).tk 3
    rw [if_neg (by omega)] at this
    simpa [bv, kL, Addr.add] using this
  have v14 := conv s14 3 (c2 - 1) rfl
  obtain ⟨bm, om, A6, c6, eA, hbm, q0, t0, hc6, hm6⟩ := hM5.at_ (k := 0) (by simp)
  obtain ⟨bm', om', A7, c7, eA', hbm', q1, t1, hc7, hm7⟩ := hM5.at_ (k := 1) (by simp)
  subst eA
  injection eA' with eA'
  injection eA' with e1 e2 e3
  subst e1 e2
  simp only [List.getElem?_cons_zero, List.getElem?_cons_succ, Option.getD_some, List.length_cons, List.length_nil, Nat.zero_add, Nat.reduceAdd, Nat.add_zero] at q0 q1 t0 t1
  have v0 := conv t0 3 c6 rfl
  have HZ := Lib.hid kL_size
  clear s5 hcell s14 t0 t1 hM5 s4 s2 s2' hown3 hown4 hown9 s9 hg3 hg4 hat3 hat4 d3 d9 d4 kc hz0
  go_wp2_with fail
  refine (LSize_any w5 3).mono ?_
  rintro e w6 ⟨rfl, hb6⟩
  rw [HZ.out.1]
  go_wp2_with fail
  refine (LSize_any w6 (-1)).mono ?_
  rintro e w7 ⟨rfl, hb7⟩
  rw [HZ.out.2]
  go_wp2_with fail
  go_ret
  exact ⟨rfl, (b5.trans (hb6.mono b5.size)).trans (hb7.mono (Nat.le_trans b5.size hb6.size))⟩
end Go.Proofs.Ytkgmbpbbgkjidaa

