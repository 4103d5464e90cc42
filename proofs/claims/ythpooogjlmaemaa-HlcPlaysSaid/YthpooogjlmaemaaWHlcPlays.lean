/- 'HlcPlays': the walk of the law. -/
import Derived.Test.YthpooogjlmaemaaHlcP
import Derived.Test.YthpooogjlmaemaaStampF
namespace Go.Proofs.Ythpooogjlmaemaa
open Go.RowKit

def av (ls : List Act5) : List Value := ls.flatMap Act5.cells
theorem actAt {w : World} {B : Nat} {A : Option Addr} {ls : List Act5} (h : Sl w B A (av ls)) {k : Nat} (hk : k < ls.length) :
    ∃ b o a, A = some ⟨b, o, none⟩ ∧ b < B ∧ b < w.heap.size ∧ ls[k]? = some a ∧ w.cell? ⟨b, o + k * 5, none⟩ = some (.int .u8 (a.k : Int)) ∧ w.cell? ⟨b, o + k * 5 + 1, none⟩ = some (.int .i64 a.now) ∧ w.cell? ⟨b, o + k * 5 + 2, none⟩ = some (.int .i64 a.s.p) ∧ w.cell? ⟨b, o + k * 5 + 3, none⟩ = some (.int .i64 a.s.l) ∧ w.cell? ⟨b, o + k * 5 + 4, none⟩ = some (.int .i64 a.s.r) := by
  have hl' : ∀ xs : List Act5, (av xs).length = xs.length * 5 := by
    intro xs
    induction xs with
    | nil => rfl
    | cons x t ih =>
      unfold av at *
      rw [List.flatMap_cons, List.length_append, ih]
      simp [Act5.cells]; omega
  have hl := hl' ls
  obtain ⟨b, o, e, h1, h2, hc⟩ := h.at_ (k := k * 5) (by omega)
  have hs : ls[k]? = some (ls[k]'hk) := List.getElem?_eq_getElem hk
  have hg : ∀ j v, j < 5 → (Act5.cells (ls[k]'hk))[j]? = some v → (av ls)[k * 5 + j]? = some v := by
    intro j v hj hv
    unfold av
    rw [flat_get Act5.cells 5 (by omega) (fun _ => rfl), show (k * 5 + j) / 5 = k by omega, show (k * 5 + j) % 5 = j by omega, hs]
    exact hv
  exact ⟨b, o, ls[k]'hk, e, h1, h2, hs, hc (k * 5 + 0) _ (hg 0 _ (by omega) rfl), hc (k * 5 + 1) _ (hg 1 _ (by omega) rfl), hc (k * 5 + 2) _ (hg 2 _ (by omega) rfl), hc (k * 5 + 3) _ (hg 3 _ (by omega) rfl), hc (k * 5 + 4) _ (hg 4 _ (by omega) rfl)⟩
def smallN (b : Bool) (x m : Int) : Int := if b = true then x % m else x
set_option maxRecDepth 100000 in
set_option maxHeartbeats 12800000 in
theorem HlcPlays_s_ok (w : World) (r m d R M D : Int) (hR : R = smallN true r 64) (hM : M = smallN true m 4) (hD : D = smallN true d 16) (A : Option Addr) (c : Nat) (l : List Act5) (hb : Sl w w.heap.size A (av l)) (hc : l.length ≤ c) (hok : okNew R M D = true) :
    Calls Try.prog 9 #[.int .i64 r, .int .i64 m, .int .i64 d, .slice A l.length c, .bool true] w fun e w' => e = .returned (.bool true) ∧ Below w.heap.size w w' := by
  have k1 := i64_and6' r
  have k2 := i64_and2' m
  have k3 := i64_and4' d
  unfold smallN at hR hM hD
  rw [if_pos rfl] at hR hM hD
  rw [← hR] at k1
  rw [← hM] at k2
  rw [← hD] at k3
  clear hR hM hD
  go_enter Try.func9, Try.ntmps9
  go_wp2_with fail
  refine (hlcKnown_any w).mono ?_
  rintro e w1 ⟨rfl, hb1⟩
  by_cases h400 : 400 < l.length
  · have hd : decide (400 < (l.length : Int)) = true := by simp; omega
    go_wp2_with fail
    go_ret
    exact ⟨rfl, hb1⟩
  have hd : decide (400 < (l.length : Int)) = false := by simp; omega
  go_wp2_with fail
  have hok' := of_decide_eq_true hok
  obtain ⟨q1, q2, q3, q4, q5, q6⟩ := hok'
  have hokc : (⟨⟨0, 0, R⟩, M, D⟩ : Clk).ok := ⟨⟨by simp, by simp⟩, ⟨by simp, by simp⟩, ⟨q3, q4⟩, ⟨q5, q6⟩⟩
  refine (New_ok w1 R M D ⟨q1, q2⟩ ⟨q3, q4⟩ (decide_eq_true ⟨q5, q6⟩)).mono ?_
  clear q1 q2 q3 q4 q5 q6
  rintro e w2 ⟨g, rfl, hg, hst2, hb2⟩
  go_wp2_with fail
  refine (NewD_ok w2 R M D hok).mono ?_
  rintro e w3 ⟨gd, rfl, hgd, hsd3, hb3⟩
  have hne : g ≠ gd := by have := hst2.1.1; omega
  have hst3 := hst2.below hb3
  have hw2 := bstep hb1 hb2
  have hw3 := hw2.trans (hb3.mono hw2.size)
  have hgw : w.heap.size ≤ g := Nat.le_trans hb1.size hg
  have hgdw : w.heap.size ≤ gd := Nat.le_trans hw2.size hgd
  clear hst2 hb2 hb3 hg hgd hw2 hok
  go_wp2_with fail
  go_loopw [15] (fun x15 wr => ∃ i : Nat, i ≤ l.length ∧ x15 = .int .i64 (i : Int) ∧ ∃ cl : Clk, cl.ok ∧ Below w.heap.size w wr ∧ StandsC wr g cl ∧ StandsD wr gd cl) (fun x15 _ => l.length - (intOf x15).toNat)
  case atStart => exact ⟨0, Nat.zero_le _, rfl, _, hokc, hw3, hst3, hsd3⟩
  case round =>
    clear hst3 hsd3 hw3 hokc
    obtain ⟨i, hi, rfl, cl, hcl, hbel, hst, hsd⟩ := hrel
    by_cases hlt : i < l.length
    · obtain ⟨b, o, a, rfl, hbB, hbW, _, f0, f1, f2, f3, f4⟩ := actAt (hb.below hbel) hlt
      have hpl := fun W c' h1 h2 h3 => play_any W g gd c' a h1 h2 hne h3
      have hpn := fun W c' h1 h2 h3 => play_any W g gd c' (nearA a) h1 h2 hne h3
      have hnr := fun W => near_any W a
      unfold Act5.v at hpl hpn hnr
      have HP := Lib.hid (And.intro hpl (And.intro hpn hnr))
      clear hpl hpn hnr
      have ha4 := At.new wr 55 #[.int .u8 (a.k : Int), .int .i64 a.now, .int .i64 a.s.p, .int .i64 a.s.l, .int .i64 a.s.r]
      have hst4 := hst.alloc (.cells #[.int .u8 (a.k : Int), .int .i64 a.now, .int .i64 a.s.p, .int .i64 a.s.l, .int .i64 a.s.r] 55)
      have hsd4 : StandsD _ gd cl := At.alloc hsd (.cells #[.int .u8 (a.k : Int), .int .i64 a.now, .int .i64 a.s.p, .int .i64 a.s.l, .int .i64 a.s.r] 55)
      have b4 := hbel.alloc hbel.size (.cells #[.int .u8 (a.k : Int), .int .i64 a.now, .int .i64 a.s.p, .int .i64 a.s.l, .int .i64 a.s.r] 55)
      have hga : wr.heap.size ≠ g := by have := hst.1.1; omega
      have hgb : wr.heap.size ≠ gd := by have := hsd.1; omega
      have x0 := ha4.c 0 rfl
      have x1 := ha4.c 1 rfl
      have x2 := ha4.c 2 rfl
      have x3 := ha4.c 3 rfl
      have x4 := ha4.c 4 rfl
      go_wp2_with fail
      generalize wr.alloc (.cells #[.int .u8 (a.k : Int), .int .i64 a.now, .int .i64 a.s.p, .int .i64 a.s.l, .int .i64 a.s.r] 55) = w4 at *
      generalize wr.heap.size = gc at *
      refine (HP.out.1 w4 cl hst4 hsd4 hcl).mono ?_
      rintro e w5 ⟨rfl, c5, hok5, hst5, hsd5, hB5⟩
      have b5 := b4.trans (hB5.2.2 _ hgw hgdw b4.size)
      clear x0 x1 x2 x3 x4 f0 f1 f2 f3 f4
      have ha5 := ha4.both hB5 hga hgb
      have x0 := ha5.c 0 rfl
      have x1 := ha5.c 1 rfl
      have x2 := ha5.c 2 rfl
      have x3 := ha5.c 3 rfl
      have x4 := ha5.c 4 rfl
      go_wp2_with fail
      refine (HP.out.2.2 w5).mono ?_
      rintro e w6 ⟨rfl, hb6⟩
      go_wp2_with fail
      refine (HP.out.2.1 w6 c5 (hst5.below hb6) (At.below hsd5 hb6) hok5).mono ?_
      rintro e w7 ⟨rfl, c7, hok7, hst7, hsd7, hB7⟩
      have b6 := b5.trans (hb6.mono b5.size)
      have b7 := b6.trans (hB7.2.2 _ hgw hgdw b6.size)
      clear x0 x1 x2 x3 x4
      go_wp2_with fail
      go_roundw
      case rel => exact ⟨i + 1, hlt, by go_num, c7, hok7, b7, hst7, hsd7⟩
      case measure => simp [intOf]; omega
    · go_wp2_with fail
      go_ret
      exact ⟨rfl, hbel⟩
set_option maxRecDepth 100000 in
set_option maxHeartbeats 12800000 in
theorem HlcPlays_s_bad (w : World) (r m d R M D : Int) (hR : R = smallN true r 64) (hM : M = smallN true m 4) (hD : D = smallN true d 16) (A : Option Addr) (c : Nat) (l : List Act5) (hb : Sl w w.heap.size A (av l)) (hc : l.length ≤ c) (hok : okNew R M D = false) :
    Calls Try.prog 9 #[.int .i64 r, .int .i64 m, .int .i64 d, .slice A l.length c, .bool true] w fun e w' => e = .returned (.bool true) ∧ Below w.heap.size w w' := by
  have k1 := i64_and6' r
  have k2 := i64_and2' m
  have k3 := i64_and4' d
  unfold smallN at hR hM hD
  rw [if_pos rfl] at hR hM hD
  rw [← hR] at k1
  rw [← hM] at k2
  rw [← hD] at k3
  clear hR hM hD
  go_enter Try.func9, Try.ntmps9
  go_wp2_with fail
  refine (hlcKnown_any w).mono ?_
  rintro e w1 ⟨rfl, hb1⟩
  by_cases h400 : 400 < l.length
  · have hd : decide (400 < (l.length : Int)) = true := by simp; omega
    go_wp2_with fail
    go_ret
    exact ⟨rfl, hb1⟩
  have hd : decide (400 < (l.length : Int)) = false := by simp; omega
  go_wp2_with fail
  refine (New_bad w1 R M D hok).mono ?_
  rintro e w2 ⟨rfl, rfl⟩
  go_wp2_with fail
  refine (NewD_bad w1 R M D hok).mono ?_
  rintro e w2 ⟨rfl, rfl⟩
  go_wp2_with fail
  go_ret
  exact ⟨rfl, hb1⟩
set_option maxRecDepth 100000 in
set_option maxHeartbeats 12800000 in
theorem HlcPlays_n_ok (w : World) (r m d R M D : Int) (hR : R = smallN false r 64) (hM : M = smallN false m 4) (hD : D = smallN false d 16) (A : Option Addr) (c : Nat) (l : List Act5) (hb : Sl w w.heap.size A (av l)) (hc : l.length ≤ c) (hok : okNew R M D = true) :
    Calls Try.prog 9 #[.int .i64 r, .int .i64 m, .int .i64 d, .slice A l.length c, .bool false] w fun e w' => e = .returned (.bool true) ∧ Below w.heap.size w w' := by
  obtain rfl : R = r := hR
  obtain rfl : M = m := hM
  obtain rfl : D = d := hD
  go_enter Try.func9, Try.ntmps9
  go_wp2_with fail
  refine (hlcKnown_any w).mono ?_
  rintro e w1 ⟨rfl, hb1⟩
  by_cases h400 : 400 < l.length
  · have hd : decide (400 < (l.length : Int)) = true := by simp; omega
    go_wp2_with fail
    go_ret
    exact ⟨rfl, hb1⟩
  have hd : decide (400 < (l.length : Int)) = false := by simp; omega
  go_wp2_with fail
  have hok' := of_decide_eq_true hok
  obtain ⟨q1, q2, q3, q4, q5, q6⟩ := hok'
  have hokc : (⟨⟨0, 0, R⟩, M, D⟩ : Clk).ok := ⟨⟨by simp, by simp⟩, ⟨by simp, by simp⟩, ⟨q3, q4⟩, ⟨q5, q6⟩⟩
  refine (New_ok w1 R M D ⟨q1, q2⟩ ⟨q3, q4⟩ (decide_eq_true ⟨q5, q6⟩)).mono ?_
  clear q1 q2 q3 q4 q5 q6
  rintro e w2 ⟨g, rfl, hg, hst2, hb2⟩
  go_wp2_with fail
  refine (NewD_ok w2 R M D hok).mono ?_
  rintro e w3 ⟨gd, rfl, hgd, hsd3, hb3⟩
  have hne : g ≠ gd := by have := hst2.1.1; omega
  have hst3 := hst2.below hb3
  have hw2 := bstep hb1 hb2
  have hw3 := hw2.trans (hb3.mono hw2.size)
  have hgw : w.heap.size ≤ g := Nat.le_trans hb1.size hg
  have hgdw : w.heap.size ≤ gd := Nat.le_trans hw2.size hgd
  clear hst2 hb2 hb3 hg hgd hw2 hok
  go_wp2_with fail
  go_loopw [15] (fun x15 wr => ∃ i : Nat, i ≤ l.length ∧ x15 = .int .i64 (i : Int) ∧ ∃ cl : Clk, cl.ok ∧ Below w.heap.size w wr ∧ StandsC wr g cl ∧ StandsD wr gd cl) (fun x15 _ => l.length - (intOf x15).toNat)
  case atStart => exact ⟨0, Nat.zero_le _, rfl, _, hokc, hw3, hst3, hsd3⟩
  case round =>
    clear hst3 hsd3 hw3 hokc
    obtain ⟨i, hi, rfl, cl, hcl, hbel, hst, hsd⟩ := hrel
    by_cases hlt : i < l.length
    · obtain ⟨b, o, a, rfl, hbB, hbW, _, f0, f1, f2, f3, f4⟩ := actAt (hb.below hbel) hlt
      have hpl := fun W c' h1 h2 h3 => play_any W g gd c' a h1 h2 hne h3
      have hpn := fun W c' h1 h2 h3 => play_any W g gd c' (nearA a) h1 h2 hne h3
      have hnr := fun W => near_any W a
      unfold Act5.v at hpl hpn hnr
      have HP := Lib.hid (And.intro hpl (And.intro hpn hnr))
      clear hpl hpn hnr
      have ha4 := At.new wr 55 #[.int .u8 (a.k : Int), .int .i64 a.now, .int .i64 a.s.p, .int .i64 a.s.l, .int .i64 a.s.r]
      have hst4 := hst.alloc (.cells #[.int .u8 (a.k : Int), .int .i64 a.now, .int .i64 a.s.p, .int .i64 a.s.l, .int .i64 a.s.r] 55)
      have hsd4 : StandsD _ gd cl := At.alloc hsd (.cells #[.int .u8 (a.k : Int), .int .i64 a.now, .int .i64 a.s.p, .int .i64 a.s.l, .int .i64 a.s.r] 55)
      have b4 := hbel.alloc hbel.size (.cells #[.int .u8 (a.k : Int), .int .i64 a.now, .int .i64 a.s.p, .int .i64 a.s.l, .int .i64 a.s.r] 55)
      have hga : wr.heap.size ≠ g := by have := hst.1.1; omega
      have hgb : wr.heap.size ≠ gd := by have := hsd.1; omega
      have x0 := ha4.c 0 rfl
      have x1 := ha4.c 1 rfl
      have x2 := ha4.c 2 rfl
      have x3 := ha4.c 3 rfl
      have x4 := ha4.c 4 rfl
      go_wp2_with fail
      generalize wr.alloc (.cells #[.int .u8 (a.k : Int), .int .i64 a.now, .int .i64 a.s.p, .int .i64 a.s.l, .int .i64 a.s.r] 55) = w4 at *
      generalize wr.heap.size = gc at *
      refine (HP.out.1 w4 cl hst4 hsd4 hcl).mono ?_
      rintro e w5 ⟨rfl, c5, hok5, hst5, hsd5, hB5⟩
      have b5 := b4.trans (hB5.2.2 _ hgw hgdw b4.size)
      clear x0 x1 x2 x3 x4 f0 f1 f2 f3 f4
      go_wp2_with fail
      go_roundw
      case rel => exact ⟨i + 1, hlt, by go_num, c5, hok5, b5, hst5, hsd5⟩
      case measure => simp [intOf]; omega
    · go_wp2_with fail
      go_ret
      exact ⟨rfl, hbel⟩
set_option maxRecDepth 100000 in
set_option maxHeartbeats 12800000 in
theorem HlcPlays_n_bad (w : World) (r m d R M D : Int) (hR : R = smallN false r 64) (hM : M = smallN false m 4) (hD : D = smallN false d 16) (A : Option Addr) (c : Nat) (l : List Act5) (hb : Sl w w.heap.size A (av l)) (hc : l.length ≤ c) (hok : okNew R M D = false) :
    Calls Try.prog 9 #[.int .i64 r, .int .i64 m, .int .i64 d, .slice A l.length c, .bool false] w fun e w' => e = .returned (.bool true) ∧ Below w.heap.size w w' := by
  obtain rfl : R = r := hR
  obtain rfl : M = m := hM
  obtain rfl : D = d := hD
  go_enter Try.func9, Try.ntmps9
  go_wp2_with fail
  refine (hlcKnown_any w).mono ?_
  rintro e w1 ⟨rfl, hb1⟩
  by_cases h400 : 400 < l.length
  · have hd : decide (400 < (l.length : Int)) = true := by simp; omega
    go_wp2_with fail
    go_ret
    exact ⟨rfl, hb1⟩
  have hd : decide (400 < (l.length : Int)) = false := by simp; omega
  go_wp2_with fail
  refine (New_bad w1 R M D hok).mono ?_
  rintro e w2 ⟨rfl, rfl⟩
  go_wp2_with fail
  refine (NewD_bad w1 R M D hok).mono ?_
  rintro e w2 ⟨rfl, rfl⟩
  go_wp2_with fail
  go_ret
  exact ⟨rfl, hb1⟩
theorem HlcPlays_walk (w : World) (r : Int) (_ : -9223372036854775808 ≤ r ∧ r ≤ 9223372036854775807) (m : Int) (_ : -9223372036854775808 ≤ m ∧ m ≤ 9223372036854775807) (d : Int) (_ : -9223372036854775808 ≤ d ∧ d ≤ 9223372036854775807) (A : Option Addr) (c : Nat) (l : List Act5) (hb : Sl w w.heap.size A (av l)) (hc : l.length ≤ c) (b : Bool) :
    Calls Try.prog 9 #[.int .i64 r, .int .i64 m, .int .i64 d, .slice A l.length c, .bool b] w fun e w' => e = .returned (.bool true) ∧ Below w.heap.size w w' := by
  cases hn : okNew (smallN b r 64) (smallN b m 4) (smallN b d 16) <;> cases b
  · exact HlcPlays_n_bad w r m d _ _ _ rfl rfl rfl A c l hb hc hn
  · exact HlcPlays_s_bad w r m d _ _ _ rfl rfl rfl A c l hb hc hn
  · exact HlcPlays_n_ok w r m d _ _ _ rfl rfl rfl A c l hb hc hn
  · exact HlcPlays_s_ok w r m d _ _ _ rfl rfl rfl A c l hb hc hn
section
open Go.Joins Go.ChangeShapes Go.WideShapes Go.ChangeAt Go.RowKit Go.Deep
variable {H : Type} {enc : TypeId × Value → H} {W : World} {base : Nat} {t : TypeId} {v : Value} {d : DataW H} {p : List MemPlace}
theorem act_of_trod (n : Nat) (cs' : List Value) (y : DataW H × List MemPlace) (h : DataW.trod enc Try.prog W 0 (fun _ => true) true n 55 cs' = some y) : ∃ s : Act5, cs' = s.cells ∧ s.ok := by
  obtain ⟨y0, y1, y2, n', hx, hlen, h0, h1, h2⟩ := trod_struct3 Try.underlying55 h
  have hC : Try.prog.cellsOf 55 = 5 := by kernel_rfl
  have k0 : Try.prog.cellsOf 5 = 1 := by kernel_rfl
  have k1 : Try.prog.cellsOf 2 = 1 := by kernel_rfl
  have k2 : Try.prog.cellsOf 23 = 3 := by kernel_rfl
  rw [hC] at hlen
  match cs', hlen with
  | [c0, c1, c2, c3, c4], _ =>
    simp only [k0, k1, k2, List.drop, List.take] at h0 h1 h2
    obtain ⟨a0, e0, _, w0⟩ := DataW.trod_int (k := .u8) Try.underlying5 h0
    obtain ⟨a1, e1, _, w1⟩ := DataW.trod_int (k := .i64) Try.underlying2 h1
    obtain ⟨s, e2, w2⟩ := stamp_of_trod _ _ _ h2
    cases e0; cases e1
    have w0' : 0 ≤ a0 ∧ a0 ≤ 255 := by simpa [Lit.wf, IntKind.min, IntKind.max, IntKind.signed, IntKind.bits] using w0
    unfold S3.cells at e2
    injection e2 with e2 e3
    injection e3 with e3 e4
    injection e4 with e4 _
    subst e2 e3 e4
    refine ⟨⟨a0.toNat, a1, s⟩, ?_, by simp only; omega, wf_i64' a1 w1, w2⟩
    unfold Act5.cells
    simp only
    rw [Int.toNat_of_nonneg w0'.1]
theorem One.acts (h : One enc W base 50 v d p) : ∃ (A : Option Addr) (c : Nat) (ls : List Act5), v = .slice A ls.length c ∧ Sl W W.heap.size A (av ls) ∧ ls.length ≤ c ∧ c ≤ maxLen ∧ ∀ s ∈ ls, s.ok :=
  One.rows Act5.cells 5 (by omega) (fun _ => rfl) Act5.ok ⟨0, 0, ⟨0, 0, 0⟩⟩ Try.underlying50 (by kernel_rfl) act_of_trod h
end
end Go.Proofs.Ythpooogjlmaemaa

