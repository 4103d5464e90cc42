/- 'SpanRight', walked. -/
import Derived.Test.YtdpkmabojlihmaaPSpan4
import Derived.Test.YtdpkmabojlihmaaRgK2
import Derived.Test.YtdpkmabojlihmaaRgE
import Derived.Test.YtdpkmabojlihmaaRgO
namespace Go.Proofs.Ytdpkmabojlihmaa
open Go.RowKit Go.Proofs.Ytdpkmabojlihmaa.Pl Go.Proofs.Ytdpkmabojlihmaa.Sp

def SD (W : World) (A : Option Addr) (m c : Nat) (l : List Rg) : Prop := Sl W W.heap.size A (rv l) ∧ m = l.length ∧ m ≤ 60 ∧ m ≤ c ∧ c ≤ maxLen
set_option maxRecDepth 100000 in
set_option maxHeartbeats 12800000 in
theorem SpanRight_walk (w : World) (A : Option Addr) (c : Nat) (a : List Rg) (ha : Sl w w.heap.size A (rv a)) (hac : a.length ≤ c) (hacm : c ≤ maxLen) (_ : ∀ s ∈ a, s.wfR)
    (A1 : Option Addr) (c1 : Nat) (b : List Rg) (hb : Sl w w.heap.size A1 (rv b)) (hbc : b.length ≤ c1) (hbcm : c1 ≤ maxLen) (_ : ∀ s ∈ b, s.wfR) (r : Rg) (_ : r.wfR) (nn : Int) (_ : -9223372036854775808 ≤ nn ∧ nn ≤ 9223372036854775807) :
    Calls Try.prog 3 #[.slice A a.length c, .slice A1 b.length c1, r.v, .int .i64 nn] w fun e w' => e = .returned (.bool true) ∧ Below w.heap.size w w' := by
  obtain ⟨ra, rb⟩ := r
  unfold Rg.v
  obtain ⟨n, hn⟩ : ∃ n, n = a.length := ⟨_, rfl⟩
  obtain ⟨n1, hn1⟩ : ∃ n, n = b.length := ⟨_, rfl⟩
  rw [← hn, ← hn1]
  rw [← hn] at hac
  rw [← hn1] at hbc
  have HN := Lib.hid (And.intro hn (And.intro hn1 (And.intro hac (And.intro hbc (And.intro hacm hbcm)))))
  clear hn hn1 hac hbc hacm hbcm
  have hst := StandsR.new w 24 ⟨ra, rb⟩
  have hb0 := boxR w ⟨ra, rb⟩
  have ha0 := (ha.below hb0).more hb0.size
  have hbb := (hb.below hb0).more hb0.size
  have hgw : w.heap.size ≤ w.heap.size := Nat.le_refl _
  clear ha hb
  go_enter Try.func3, Try.ntmps3
  go_wp2_with fail
  generalize w.alloc (.cells #[.int .i64 ra, .int .i64 rb] 24) = v0 at hst hb0 ha0 hbb ⊢
  generalize hgb : w.heap.size = gb at hst ⊢
  clear hgb hgw
  refine (rknown_any v0).mono ?_
  rintro e w0 ⟨rfl, hk0⟩
  replace hst := hst.below hk0
  have hb1 := hb0.trans (hk0.mono hb0.size)
  have ha1 := (ha0.below hk0).more hk0.size
  have hbb1 := (hbb.below hk0).more hk0.size
  clear hk0 hb0 ha0 hbb
  by_cases hl1 : n ≤ 60
  · have d1 : decide ((60 : Int) < (n : Int)) = false := by rw [decide_eq_false_iff_not]; omega
    by_cases hl2 : n1 ≤ 60
    · have d2 : decide ((60 : Int) < (n1 : Int)) = false := by rw [decide_eq_false_iff_not]; omega
      have m0 := hst.2.1
      have m1 := hst.2.2.1
      have hkL := boxR w0 ⟨ra, rb⟩
      have so := Sl.oneR w0 ⟨ra, rb⟩
      have hbv := hb1.trans (hkL.mono hb1.size)
      have hstv := hst.below hkL
      have hav := (ha1.below hkL).more hkL.size
      have hbbv := (hbb1.below hkL).more hkL.size
      have hg1 : (w0.alloc (.cells #[.int .i64 ra, .int .i64 rb] 24)).heap.size = w0.heap.size + 1 := by simp
      generalize hv1 : w0.alloc (.cells #[.int .i64 ra, .int .i64 rb] 24) = v1 at hkL so hbv hstv hav hbbv hg1
      have hP := At.new v1 26 #[.slice A n c, .slice A1 n1 c1, .slice A1 n1 c1, .slice A n c, .slice A n c, .slice (some ⟨w0.heap.size, 0, none⟩) 1 1, .slice A n c, .slice A n c, .slice (some ⟨w0.heap.size, 0, none⟩) 1 1, .slice none 0 0]
      have hkP := balloc (Below.refl v1.heap.size v1) (.cells #[.slice A n c, .slice A1 n1 c1, .slice A1 n1 c1, .slice A n c, .slice A n c, .slice (some ⟨w0.heap.size, 0, none⟩) 1 1, .slice A n c, .slice A n c, .slice (some ⟨w0.heap.size, 0, none⟩) 1 1, .slice none 0 0] 26)
      clear hst ha1 hbb1 hb1 hkL
      go_wp2_with fail
      generalize v1.alloc (.cells #[.slice A n c, .slice A1 n1 c1, .slice A1 n1 c1, .slice A n c, .slice A n c, .slice (some ⟨w0.heap.size, 0, none⟩) 1 1, .slice A n c, .slice A n c, .slice (some ⟨w0.heap.size, 0, none⟩) 1 1, .slice none 0 0] 26) = v2 at hP hkP ⊢
      rw [hg1] at hP
      clear hg1 hv1
      generalize w0.heap.size = go0 at *
      generalize go0 + 1 = gP at hP ⊢
      have hb2 := hbv.trans (hkP.mono hbv.size)
      replace hst := hstv.below hkP
      replace so := (so.below hkP).more hkP.size
      have sda : SD v2 A n c a := ⟨(hav.below hkP).more hkP.size, HN.out.1, hl1, HN.out.2.2.1, HN.out.2.2.2.2.1⟩
      have sdb : SD v2 A1 n1 c1 b := ⟨(hbbv.below hkP).more hkP.size, HN.out.2.1, hl2, HN.out.2.2.2.1, HN.out.2.2.2.2.2⟩
      have sdo : SD v2 (some ⟨go0, 0, none⟩) 1 1 [⟨ra, rb⟩] := ⟨so, rfl, by omega, Nat.le_refl _, by simp [maxLen]⟩
      have sdn : SD v2 none 0 0 [] := ⟨.inl rfl, rfl, by omega, Nat.le_refl _, by simp [maxLen]⟩
      have hpair : ∀ k : Nat, k < 5 → ∃ Ax mx' cx x Ay my cy y, ([.slice A n c, .slice A1 n1 c1, .slice A1 n1 c1, .slice A n c, .slice A n c, .slice (some ⟨go0, 0, none⟩) 1 1, .slice A n c, .slice A n c, .slice (some ⟨go0, 0, none⟩) 1 1, .slice none 0 0] : List Value)[k * 2]? = some (.slice Ax mx' cx) ∧ ([.slice A n c, .slice A1 n1 c1, .slice A1 n1 c1, .slice A n c, .slice A n c, .slice (some ⟨go0, 0, none⟩) 1 1, .slice A n c, .slice A n c, .slice (some ⟨go0, 0, none⟩) 1 1, .slice none 0 0] : List Value)[k * 2 + 1]? = some (.slice Ay my cy) ∧ SD v2 Ax mx' cx x ∧ SD v2 Ay my cy y := fun k hk => by
        rcases (by omega : k = 0 ∨ k = 1 ∨ k = 2 ∨ k = 3 ∨ k = 4) with rfl | rfl | rfl | rfl | rfl
        · exact ⟨_, _, _, a, _, _, _, b, rfl, rfl, sda, sdb⟩
        · exact ⟨_, _, _, b, _, _, _, a, rfl, rfl, sdb, sda⟩
        · exact ⟨_, _, _, a, _, _, _, _, rfl, rfl, sda, sdo⟩
        · exact ⟨_, _, _, a, _, _, _, a, rfl, rfl, sda, sda⟩
        · exact ⟨_, _, _, _, _, _, _, [], rfl, rfl, sdo, sdn⟩
      have HPR := Lib.hid hpair
      have HP := Lib.hid (And.intro hP (And.intro hst so))
      clear hpair sda sdb sdo sdn hkP hbv hstv hav hbbv hP hst so
      go_loopw [42] (fun x42 wr => ∃ k : Nat, k ≤ 5 ∧ x42 = .int .i64 (k : Int) ∧ Below v2.heap.size v2 wr) (fun x42 _ => 5 - (intOf x42).toNat)
      case atStart => exact ⟨0, by omega, rfl, Below.refl _ _⟩
      case round =>
        obtain ⟨k, hk, rfl, hbel⟩ := hrel
        by_cases hlt : k < 5
        · obtain ⟨Ax, mx, cx, x, Ay, my, cy, y, hc0, hc1, sdx, sdy⟩ := HPR.out k hlt
          have p0 := (hbel.cell HP.out.1.1).trans (HP.out.1.c _ hc0)
          have p1 := (hbel.cell HP.out.1.1).trans (HP.out.1.c _ hc1)
          have Hx := Lib.hid (And.intro sdx.2.1 (And.intro sdx.2.2.1 (And.intro sdx.2.2.2.1 (And.intro sdx.2.2.2.2 trivial))))
          have Hy := Lib.hid (And.intro sdy.2.1 (And.intro sdy.2.2.1 (And.intro sdy.2.2.2.1 (And.intro sdy.2.2.2.2 trivial))))
          have sx := sdx.1
          have sy := sdy.1
          have so := HP.out.2.2
          have hst := HP.out.2.1
          have hdk : decide ((k : Int) < 5) = true := by rw [decide_eq_true_eq]; omega
          have hk0 : (0 : Int) ≤ (k : Int) := by omega
          have hk1 : (k : Int) < 5 := by omega
          have hB := At.new wr 26 #[.slice Ax mx cx, .slice Ay my cy]
          have hbx := hbel.alloc hbel.size (.cells #[.slice Ax mx cx, .slice Ay my cy] 26)
          clear hc0 hc1 sdx sdy hbel
          go_wp2_with fail
          generalize wr.alloc (.cells #[.slice Ax mx cx, .slice Ay my cy] 26) = wb at hB hbx ⊢
          generalize wr.heap.size = gB at hB ⊢
          have e0 := hB.e 0 rfl
          have e1 := hB.e 1 rfl
          refine bstart (by kernel_rfl) ?_
          refine btake 0 (oi := _) (v := ?_) (by simp only [List.getElem?_toArray, List.getElem?_cons_zero]; rfl) (by kernel_rfl) (by exact fun _ _ _ h => h) (by first | assumption | exact KB.refl _) (.inl ⟨by rfl, fun W hW => ?_⟩) ?_; rotate_left
          · (go_simp; first | done | with_reducible rfl)
          try simp only [Act.put, List.setIfInBounds_toArray, List.set_cons_zero, List.set_cons_succ]
          refine btake 1 (oi := _) (v := ?_) (by simp only [List.getElem?_toArray, List.getElem?_cons_succ, List.getElem?_cons_zero]; rfl) (by kernel_rfl) (by exact fun _ _ _ h => h) (by first | assumption | exact KB.refl _) (.inl ⟨by rfl, fun W hW => ?_⟩) ?_; rotate_left
          · (go_simp; first | done | with_reducible rfl)
          try simp only [Act.put, List.setIfInBounds_toArray, List.set_cons_zero, List.set_cons_succ]
          refine btake 2 (oi := _) (v := ?_) (by simp only [List.getElem?_toArray, List.getElem?_cons_succ, List.getElem?_cons_zero]; rfl) (by kernel_rfl) (by exact fun _ _ _ h => h) (by first | assumption | exact KB.refl _) (.inl ⟨by rfl, fun W hW => ?_⟩) ?_; rotate_left
          · (go_simp; first | done | with_reducible rfl)
          try simp only [Act.put, List.setIfInBounds_toArray, List.set_cons_zero, List.set_cons_succ]
          refine btake 3 (oi := _) (v := ?_) (by simp only [List.getElem?_toArray, List.getElem?_cons_succ, List.getElem?_cons_zero]; rfl) (by kernel_rfl) (by exact fun _ _ _ h => h) (by first | assumption | exact KB.refl _) (.inl ⟨by rfl, fun W hW => ?_⟩) ?_; rotate_left
          · (go_simp; first | done | with_reducible rfl)
          try simp only [Act.put, List.setIfInBounds_toArray, List.set_cons_zero, List.set_cons_succ]
          refine btake 4 (oi := _) (v := ?_) (by simp only [List.getElem?_toArray, List.getElem?_cons_succ, List.getElem?_cons_zero]; rfl) (by kernel_rfl) (by exact fun _ _ _ h => h) (by first | assumption | exact KB.refl _) (.inl ⟨by rfl, fun W hW => ?_⟩) ?_; rotate_left
          · (go_simp; first | done | with_reducible rfl)
          try simp only [Act.put, List.setIfInBounds_toArray, List.set_cons_zero, List.set_cons_succ]
          refine btake 5 (oi := _) (v := ?_) (by simp only [List.getElem?_toArray, List.getElem?_cons_succ, List.getElem?_cons_zero]; rfl) (by kernel_rfl) (by exact fun _ _ _ h => h) (by first | assumption | exact KB.refl _) (.inl ⟨by rfl, fun W hW => ?_⟩) ?_; rotate_left
          · (go_simp; first | done | with_reducible rfl)
          try simp only [Act.put, List.setIfInBounds_toArray, List.set_cons_zero, List.set_cons_succ]
          refine bdone (by kernel_rfl) ?_
          have hbel := hbx.drew
          clear e0 e1 hB hbx p0 p1
          generalize wb.drew = wq at hbel ⊢
          replace sx := (sx.below hbel).more hbel.size
          replace sy := (sy.below hbel).more hbel.size
          replace so := (so.below hbel).more hbel.size
          replace hst := hst.below hbel
          obtain ⟨q1, hq1⟩ : ∃ q9, right x = q9 := ⟨_, rfl⟩
          go_wp2_with fail
          have hq := RRight_any wq Ax mx cx x sx Hx.out.1 (by have := Hx.out; omega)
          rw [show right x = q1 from hq1] at hq
          refine Calls.mono hq ?_
          clear hq
          rintro e w1 ⟨rfl, hkw1⟩
          have hbw1 := hbel.trans (hkw1.mono hbel.size)
          replace sx := (sx.below hkw1).more hkw1.size
          replace sy := (sy.below hkw1).more hkw1.size
          replace so := (so.below hkw1).more hkw1.size
          replace hst := hst.below hkw1
          clear hkw1 hbel
          go_wp2_with fail
          have hq := RRRight_any w1 Ax mx cx x sx Hx.out.1 (by have := Hx.out; omega)
          rw [show right x = q1 from hq1] at hq
          refine Calls.mono hq ?_
          clear hq
          rintro e w2 ⟨rfl, hkw2⟩
          have hbw2 := hbw1.trans (hkw2.mono hbw1.size)
          replace sx := (sx.below hkw2).more hkw2.size
          replace sy := (sy.below hkw2).more hkw2.size
          replace so := (so.below hkw2).more hkw2.size
          replace hst := hst.below hkw2
          clear hkw2 hbw1
          clear hq1
          obtain ⟨q2, hq2⟩ : ∃ q9, hasS x nn = q9 := ⟨_, rfl⟩
          go_wp2_with fail
          have hq := RHas_any w2 Ax mx cx x sx Hx.out.1 (by have := Hx.out; omega) nn
          rw [show hasS x nn = q2 from hq2] at hq
          refine Calls.mono hq ?_
          clear hq
          rintro e w3 ⟨rfl, hkw3⟩
          have hbw3 := hbw2.trans (hkw3.mono hbw2.size)
          replace sx := (sx.below hkw3).more hkw3.size
          replace sy := (sy.below hkw3).more hkw3.size
          replace so := (so.below hkw3).more hkw3.size
          replace hst := hst.below hkw3
          clear hkw3 hbw2
          go_wp2_with fail
          have hq := RRHas_any w3 Ax mx cx x sx Hx.out.1 (by have := Hx.out; omega) nn
          rw [show hasS x nn = q2 from hq2] at hq
          refine Calls.mono hq ?_
          clear hq
          rintro e w4 ⟨rfl, hkw4⟩
          have hbw4 := hbw3.trans (hkw4.mono hbw3.size)
          replace sx := (sx.below hkw4).more hkw4.size
          replace sy := (sy.below hkw4).more hkw4.size
          replace so := (so.below hkw4).more hkw4.size
          replace hst := hst.below hkw4
          clear hkw4 hbw3
          clear hq2
          obtain ⟨q3, hq3⟩ : ∃ q9, countS x = q9 := ⟨_, rfl⟩
          go_wp2_with fail
          have hq := RCount_any w4 Ax mx cx x sx Hx.out.1 (by have := Hx.out; omega)
          rw [show countS x = q3 from hq3] at hq
          refine Calls.mono hq ?_
          clear hq
          rintro e w5 ⟨rfl, hkw5⟩
          have hbw5 := hbw4.trans (hkw5.mono hbw4.size)
          replace sx := (sx.below hkw5).more hkw5.size
          replace sy := (sy.below hkw5).more hkw5.size
          replace so := (so.below hkw5).more hkw5.size
          replace hst := hst.below hkw5
          clear hkw5 hbw4
          go_wp2_with fail
          have hq := RRCount_any w5 Ax mx cx x sx Hx.out.1 (by have := Hx.out; omega)
          rw [show countS x = q3 from hq3] at hq
          refine Calls.mono hq ?_
          clear hq
          rintro e w6 ⟨rfl, hkw6⟩
          have hbw6 := hbw5.trans (hkw6.mono hbw5.size)
          replace sx := (sx.below hkw6).more hkw6.size
          replace sy := (sy.below hkw6).more hkw6.size
          replace so := (so.below hkw6).more hkw6.size
          replace hst := hst.below hkw6
          clear hkw6 hbw5
          clear hq3
          obtain ⟨q4, hq4⟩ : ∃ q9, firstS x = q9 := ⟨_, rfl⟩
          go_wp2_with fail
          have hq := RFirst_any w6 Ax mx cx x sx Hx.out.1 (by have := Hx.out; omega)
          rw [show firstS x = q4 from hq4] at hq
          refine Calls.mono hq ?_
          clear hq
          rintro e w7 ⟨rfl, hkw7⟩
          have hbw7 := hbw6.trans (hkw7.mono hbw6.size)
          replace sx := (sx.below hkw7).more hkw7.size
          replace sy := (sy.below hkw7).more hkw7.size
          replace so := (so.below hkw7).more hkw7.size
          replace hst := hst.below hkw7
          clear hkw7 hbw6
          go_wp2_with fail
          have hq := RRFirst_any w7 Ax mx cx x sx Hx.out.1 (by have := Hx.out; omega)
          rw [show firstS x = q4 from hq4] at hq
          refine Calls.mono hq ?_
          clear hq
          rintro e w8 ⟨rfl, hkw8⟩
          have hbw8 := hbw7.trans (hkw8.mono hbw7.size)
          replace sx := (sx.below hkw8).more hkw8.size
          replace sy := (sy.below hkw8).more hkw8.size
          replace so := (so.below hkw8).more hkw8.size
          replace hst := hst.below hkw8
          clear hkw8 hbw7
          clear hq4
          go_wp2_with fail
          refine (Join_any w8 Ax Ay mx my cx cy x y sx sy Hx.out.1 Hy.out.1 (by have := Hx.out; omega) (by have := Hy.out; omega) Hy.out.2.2.1).mono ?_
          rintro e w9 ⟨Aj1, cj1, rfl, sj1, hlej1, hcmj1, hkw9⟩
          obtain ⟨j1, hj1⟩ : ∃ L9, L9 = joinS x y := ⟨_, rfl⟩
          rw [← hj1] at sj1 hlej1 ⊢
          have hnj1 : j1.length ≤ 120 := by rw [hj1]; exact (by have h9 := joinS_len x y; have := Hx.out; have := Hy.out; (try simp only [List.length_cons, List.length_nil] at h9); omega)
          have hrj1 : right j1 = true := by rw [hj1]; exact joinS_right _ _
          obtain ⟨mj1, hmj1⟩ : ∃ q9, q9 = j1.length := ⟨_, rfl⟩
          rw [← hmj1] at hlej1 hnj1 ⊢
          have Hj1 := Lib.hid (And.intro hmj1 (And.intro hnj1 (And.intro hlej1 (And.intro hcmj1 hrj1))))
          have Ej1 := Lib.hid hj1
          clear hj1 hmj1 hnj1 hlej1 hcmj1 hrj1
          have hbw9 := hbw8.trans (hkw9.mono hbw8.size)
          replace sx := (sx.below hkw9).more hkw9.size
          replace sy := (sy.below hkw9).more hkw9.size
          replace so := (so.below hkw9).more hkw9.size
          replace hst := hst.below hkw9
          clear hkw9 hbw8
          go_wp2_with fail
          refine (RRJoin_any w9 Ax Ay mx my cx cy x y sx sy Hx.out.1 Hy.out.1 (by have := Hx.out; omega) (by have := Hy.out; omega)).mono ?_
          rintro e w10 ⟨Aj2, cj2, rfl, sj2, hlej2, hcmj2, hkw10⟩
          obtain ⟨j2, hj2⟩ : ∃ L9, L9 = joinS x y := ⟨_, rfl⟩
          rw [← hj2] at sj2 hlej2 ⊢
          have hnj2 : j2.length ≤ 120 := by rw [hj2]; exact (by have h9 := joinS_len x y; have := Hx.out; have := Hy.out; (try simp only [List.length_cons, List.length_nil] at h9); omega)
          have hrj2 : right j2 = true := by rw [hj2]; exact joinS_right _ _
          obtain ⟨mj2, hmj2⟩ : ∃ q9, q9 = j2.length := ⟨_, rfl⟩
          rw [← hmj2] at hlej2 hnj2 ⊢
          have Hj2 := Lib.hid (And.intro hmj2 (And.intro hnj2 (And.intro hlej2 (And.intro hcmj2 hrj2))))
          have Ej2 := Lib.hid hj2
          clear hj2 hmj2 hnj2 hlej2 hcmj2 hrj2
          have hbw10 := hbw9.trans (hkw10.mono hbw9.size)
          replace sx := (sx.below hkw10).more hkw10.size
          replace sy := (sy.below hkw10).more hkw10.size
          replace so := (so.below hkw10).more hkw10.size
          replace sj1 := (sj1.below hkw10).more hkw10.size
          replace hst := hst.below hkw10
          clear hkw10 hbw9
          go_wp2_with fail
          have hq := SameR_any w10 (B := w10.heap.size) (B' := w10.heap.size) Aj1 Aj2 mj1 mj2 cj1 cj2 j1 j2 sj1 sj2 Hj1.out.1 Hj2.out.1 (by have := Hj1.out; omega) (by have := Hj2.out; omega) (Nat.le_refl _) (Nat.le_refl _)
          rw [show decide (j1 = j2) = true from (by rw [decide_eq_true_eq]; exact (Ej1.out.trans Ej2.out.symm))] at hq
          refine Calls.mono hq ?_
          clear hq
          rintro e w11 ⟨rfl, hkw11⟩
          have hbw11 := hbw10.trans (hkw11.mono hbw10.size)
          replace sx := (sx.below hkw11).more hkw11.size
          replace sy := (sy.below hkw11).more hkw11.size
          replace so := (so.below hkw11).more hkw11.size
          replace sj1 := (sj1.below hkw11).more hkw11.size
          replace sj2 := (sj2.below hkw11).more hkw11.size
          replace hst := hst.below hkw11
          clear hkw11 hbw10
          clear sj1
          clear sj2
          go_wp2_with fail
          refine (Minus_any w11 Ax Ay mx my cx cy x y sx sy Hx.out.1 Hy.out.1 (by have := Hx.out; omega) (by have := Hy.out; omega) Hy.out.2.2.1 Hy.out.2.2.2.1).mono ?_
          rintro e w12 ⟨Am1, cm1, rfl, sm1, hlem1, hcmm1, hkw12⟩
          obtain ⟨m1, hm1⟩ : ∃ L9, L9 = minusS x y := ⟨_, rfl⟩
          rw [← hm1] at sm1 hlem1 ⊢
          have hnm1 : m1.length ≤ 120 := by rw [hm1]; exact (by have := minusS_len x y; have := Hx.out; have := Hy.out; omega)
          have hrm1 : right m1 = true := by rw [hm1]; exact minusS_right _ _
          obtain ⟨mm1, hmm1⟩ : ∃ q9, q9 = m1.length := ⟨_, rfl⟩
          rw [← hmm1] at hlem1 hnm1 ⊢
          have Hm1 := Lib.hid (And.intro hmm1 (And.intro hnm1 (And.intro hlem1 (And.intro hcmm1 hrm1))))
          have Em1 := Lib.hid hm1
          clear hm1 hmm1 hnm1 hlem1 hcmm1 hrm1
          have hbw12 := hbw11.trans (hkw12.mono hbw11.size)
          replace sx := (sx.below hkw12).more hkw12.size
          replace sy := (sy.below hkw12).more hkw12.size
          replace so := (so.below hkw12).more hkw12.size
          replace hst := hst.below hkw12
          clear hkw12 hbw11
          go_wp2_with fail
          refine (RRMinus_any w12 Ax Ay mx my cx cy x y sx sy Hx.out.1 Hy.out.1 (by have := Hx.out; omega) (by have := Hy.out; omega)).mono ?_
          rintro e w13 ⟨Am2, cm2, rfl, sm2, hlem2, hcmm2, hkw13⟩
          obtain ⟨m2, hm2⟩ : ∃ L9, L9 = minusS x y := ⟨_, rfl⟩
          rw [← hm2] at sm2 hlem2 ⊢
          have hnm2 : m2.length ≤ 120 := by rw [hm2]; exact (by have := minusS_len x y; have := Hx.out; have := Hy.out; omega)
          have hrm2 : right m2 = true := by rw [hm2]; exact minusS_right _ _
          obtain ⟨mm2, hmm2⟩ : ∃ q9, q9 = m2.length := ⟨_, rfl⟩
          rw [← hmm2] at hlem2 hnm2 ⊢
          have Hm2 := Lib.hid (And.intro hmm2 (And.intro hnm2 (And.intro hlem2 (And.intro hcmm2 hrm2))))
          have Em2 := Lib.hid hm2
          clear hm2 hmm2 hnm2 hlem2 hcmm2 hrm2
          have hbw13 := hbw12.trans (hkw13.mono hbw12.size)
          replace sx := (sx.below hkw13).more hkw13.size
          replace sy := (sy.below hkw13).more hkw13.size
          replace so := (so.below hkw13).more hkw13.size
          replace sm1 := (sm1.below hkw13).more hkw13.size
          replace hst := hst.below hkw13
          clear hkw13 hbw12
          go_wp2_with fail
          have hq := SameR_any w13 (B := w13.heap.size) (B' := w13.heap.size) Am1 Am2 mm1 mm2 cm1 cm2 m1 m2 sm1 sm2 Hm1.out.1 Hm2.out.1 (by have := Hm1.out; omega) (by have := Hm2.out; omega) (Nat.le_refl _) (Nat.le_refl _)
          rw [show decide (m1 = m2) = true from (by rw [decide_eq_true_eq]; exact (Em1.out.trans Em2.out.symm))] at hq
          refine Calls.mono hq ?_
          clear hq
          rintro e w14 ⟨rfl, hkw14⟩
          have hbw14 := hbw13.trans (hkw14.mono hbw13.size)
          replace sx := (sx.below hkw14).more hkw14.size
          replace sy := (sy.below hkw14).more hkw14.size
          replace so := (so.below hkw14).more hkw14.size
          replace sm1 := (sm1.below hkw14).more hkw14.size
          replace sm2 := (sm2.below hkw14).more hkw14.size
          replace hst := hst.below hkw14
          clear hkw14 hbw13
          clear sm1
          clear sm2
          have m0 := hst.2.1
          have m9 := hst.2.2.1
          go_wp2_with fail
          refine (Add_any w14 Ax mx cx x (⟨ra, rb⟩ : Rg) sx Hx.out.1 (by have := Hx.out; omega)).mono ?_
          rintro e w15 ⟨Aa1, ca1, rfl, sa1, hlea1, hcma1, hkw15⟩
          obtain ⟨a1, ha1⟩ : ∃ L9, L9 = joinS x [(⟨ra, rb⟩ : Rg)] := ⟨_, rfl⟩
          rw [← ha1] at sa1 hlea1 ⊢
          have hna1 : a1.length ≤ 61 := by rw [ha1]; exact (by have := joinS_len x [(⟨ra, rb⟩ : Rg)]; have := Hx.out; simp at *; omega)
          have hra1 : right a1 = true := by rw [ha1]; exact joinS_right _ _
          obtain ⟨ma1, hma1⟩ : ∃ q9, q9 = a1.length := ⟨_, rfl⟩
          rw [← hma1] at hlea1 hna1 ⊢
          have Ha1 := Lib.hid (And.intro hma1 (And.intro hna1 (And.intro hlea1 (And.intro hcma1 hra1))))
          have Ea1 := Lib.hid ha1
          clear ha1 hma1 hna1 hlea1 hcma1 hra1
          have hbw15 := hbw14.trans (hkw15.mono hbw14.size)
          replace sx := (sx.below hkw15).more hkw15.size
          replace sy := (sy.below hkw15).more hkw15.size
          replace so := (so.below hkw15).more hkw15.size
          replace hst := hst.below hkw15
          clear hkw15 hbw14
          clear m0 m9
          go_wp2_with fail
          refine (RRJoin_any w15 Ax (some ⟨go0, 0, none⟩) mx 1 cx 1 x [(⟨ra, rb⟩ : Rg)] sx so Hx.out.1 rfl (by have := Hx.out; omega) (by omega)).mono ?_
          rintro e w16 ⟨Aa2, ca2, rfl, sa2, hlea2, hcma2, hkw16⟩
          obtain ⟨a2, ha2⟩ : ∃ L9, L9 = joinS x [(⟨ra, rb⟩ : Rg)] := ⟨_, rfl⟩
          rw [← ha2] at sa2 hlea2 ⊢
          have hna2 : a2.length ≤ 61 := by rw [ha2]; exact (by have h9 := joinS_len x [(⟨ra, rb⟩ : Rg)]; have := Hx.out; (try simp only [List.length_cons, List.length_nil] at h9); omega)
          have hra2 : right a2 = true := by rw [ha2]; exact joinS_right _ _
          obtain ⟨ma2, hma2⟩ : ∃ q9, q9 = a2.length := ⟨_, rfl⟩
          rw [← hma2] at hlea2 hna2 ⊢
          have Ha2 := Lib.hid (And.intro hma2 (And.intro hna2 (And.intro hlea2 (And.intro hcma2 hra2))))
          have Ea2 := Lib.hid ha2
          clear ha2 hma2 hna2 hlea2 hcma2 hra2
          have hbw16 := hbw15.trans (hkw16.mono hbw15.size)
          replace sx := (sx.below hkw16).more hkw16.size
          replace sy := (sy.below hkw16).more hkw16.size
          replace so := (so.below hkw16).more hkw16.size
          replace sa1 := (sa1.below hkw16).more hkw16.size
          replace hst := hst.below hkw16
          clear hkw16 hbw15
          go_wp2_with fail
          have hq := SameR_any w16 (B := w16.heap.size) (B' := w16.heap.size) Aa1 Aa2 ma1 ma2 ca1 ca2 a1 a2 sa1 sa2 Ha1.out.1 Ha2.out.1 (by have := Ha1.out; omega) (by have := Ha2.out; omega) (Nat.le_refl _) (Nat.le_refl _)
          rw [show decide (a1 = a2) = true from (by rw [decide_eq_true_eq]; exact (Ea1.out.trans Ea2.out.symm))] at hq
          refine Calls.mono hq ?_
          clear hq
          rintro e w17 ⟨rfl, hkw17⟩
          have hbw17 := hbw16.trans (hkw17.mono hbw16.size)
          replace sx := (sx.below hkw17).more hkw17.size
          replace sy := (sy.below hkw17).more hkw17.size
          replace so := (so.below hkw17).more hkw17.size
          replace sa1 := (sa1.below hkw17).more hkw17.size
          replace sa2 := (sa2.below hkw17).more hkw17.size
          replace hst := hst.below hkw17
          clear hkw17 hbw16
          clear sa1
          clear sa2
          go_wp2_with fail
          go_roundw
          case rel => exact ⟨k + 1, by omega, by go_num, hbw17⟩
          case measure => simp [intOf] <;> omega
        · obtain rfl : k = 5 := by omega
          have hbz := hb2.trans (hbel.mono hb2.size)
          go_wp2_with fail
          go_ret
          exact ⟨rfl, hbz⟩
    · have d2 : decide ((60 : Int) < (n1 : Int)) = true := by rw [decide_eq_true_eq]; omega
      go_wp2_with fail
      go_ret
      exact ⟨rfl, hb1⟩
  · have d1 : decide ((60 : Int) < (n : Int)) = true := by rw [decide_eq_true_eq]; omega
    go_wp2_with fail
    go_ret
    exact ⟨rfl, hb1⟩
end Go.Proofs.Ytdpkmabojlihmaa

