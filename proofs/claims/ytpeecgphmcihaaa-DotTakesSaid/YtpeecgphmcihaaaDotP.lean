/- Dots: the bytes of a row of them. -/
import Derived.Test.YtpeecgphmcihaaaDotB
import Derived.Test.YtpeecgphmcihaaaDotG
namespace Go.Proofs.Ytpeecgphmcihaaa
open Go.RowKit Go.Proofs.Ytpeecgphmcihaaa.Pl Go.Proofs.Ytpeecgphmcihaaa.Dt

theorem putDs_no {l : List D2} (h : (decide (l.length ≤ 16) && goodD l) = false) : putDs l = [] := by
  rw [putDs, if_neg]
  rintro ⟨h1, h2⟩
  rw [h2, decide_eq_true h1] at h
  cases h
theorem putDs_yes {l : List D2} (h1 : l.length ≤ 16) (h2 : goodD l = true) : putDs l = enc l.length ++ flatD l := by rw [putDs, if_pos ⟨h1, h2⟩]
theorem flatD_succ {l : List D2} {k : Nat} (hk : k < l.length) : flatD (l.take (k + 1)) = flatD (l.take k) ++ (l[k]?.getD ⟨0, 0⟩).bytes := by
  rw [List.take_succ_eq_append_getElem hk, flatD_snoc, List.getElem?_eq_getElem hk]; rfl
theorem flat_take_le (l : List D2) (k : Nat) : (flatD (l.take k)).length ≤ 11 * l.length := by
  have := flatD_le (l.take k)
  rw [List.length_take] at this
  omega
set_option maxRecDepth 100000 in
set_option maxHeartbeats 3200000 in
theorem DPut_any (w : World) (A : Option Addr) (n c : Nat) (l : List D2) (hb : Sl w w.heap.size A (dv l)) (h0 : n = l.length) (hl : n ≤ 1000000000) :
    Calls Try.prog 22 #[.slice A n c] w (Fresh w (putDs l)) := by
  have HG := Lib.hid (rising_any w A n c l hb h0 hl)
  have HN := Lib.hid h0
  obtain ⟨q, hq⟩ : ∃ q, goodD l = q := ⟨_, rfl⟩
  rw [hq] at HG
  by_cases h16 : n ≤ 16
  · have hd : decide ((16 : Int) < (n : Int)) = false := by rw [decide_eq_false_iff_not]; omega
    cases q with
    | false =>
      have HP := Lib.hid (putDs_no (l := l) (by rw [hq]; simp))
      clear hb h0 hq
      go_enter Try.func22, Try.ntmps22
      go_wp2_with fail
      refine HG.out.mono ?_
      rintro e w1 ⟨rfl, h1⟩
      go_wp2_with fail
      go_ret
      rw [HP.out]
      exact ⟨none, 0, rfl, OwnB.nil _ _, h1⟩
    | true =>
      have HP := Lib.hid (putDs_yes (by omega) hq)
      rw [← h0] at HP
      rw [HP.out]
      clear h0 hq
      go_enter Try.func22, Try.ntmps22
      go_wp2_with fail
      refine HG.out.mono ?_
      rintro e w1 ⟨rfl, h1⟩
      have HU := Lib.hid (show ∀ x ∈ [n], U64 x by intro x hx; rw [List.mem_singleton] at hx; subst hx; unfold U64; omega)
      have hbb := balloc h1 (.cells (uv [n]).toArray 38)
      have hP := Put_any (w1.alloc (.cells (uv [n]).toArray 38)) none (some ⟨w1.heap.size, 0, none⟩) 0 1 [] [n] Sl.nil ((Sl.lit64 w1 [n]).more (by simp)) HU.out (by simp)
      have hwn : IntKind.u64.wrap (n : Int) = (n : Int) := by rw [IntKind.wrap_u64]; omega
      go_wp2_with fail
      refine Calls.mono hP ?_
      rintro e w2 ⟨A2, c2, rfl, h2, h3⟩
      have HE := Lib.hid (enc_len n)
      clear hP
      go_wp2_with fail
      go_loopw [3, 21] (fun x3 x wr => ∃ k : Nat, k ≤ n ∧ x = .int .i64 (k : Int) ∧ OwnB wr w.heap.size x3 (enc n ++ flatD (l.take k)) ∧ Below w.heap.size w wr) (fun _ x _ => n - (intOf x).toNat)
      case atStart => exact ⟨0, by omega, rfl, by simpa [flatD, encs] using h2.lower hbb.size, bstep hbb h3⟩
      case round =>
        obtain ⟨k, hk, rfl, hown, hbel⟩ := hrel
        by_cases hlt : k < n
        · have hkl : k < l.length := by have := HN.out; omega
          obtain ⟨b, o, rfl, _, hbW, c0, c1⟩ := dotAt hb hkl
          replace c0 := (hbel.cell hbW).trans c0
          replace c1 := (hbel.cell hbW).trans c1
          have hfl := flat_take_le l k
          have HF := Lib.hid (And.intro (flatD_succ hkl) hfl)
          clear hfl
          generalize l[k]?.getD ⟨0, 0⟩ = x at *
          have HB := Lib.hid (fun W => DBytes_any W x)
          have HX := Lib.hid (bytes_le x)
          unfold D2.v at HB
          have hn0 : (0 : Int) ≤ (k : Int) := by omega
          have hn1 : (k : Int) < (n : Int) := by omega
          have hd1 : decide ((k : Int) < (n : Int)) = true := by rw [decide_eq_true_eq]; omega
          go_wp2_with fail
          have hbx := hbel.alloc hbel.size (.cells #[.int .i64 x.r, .int .i64 x.q] 23)
          refine (HB.out _).mono ?_
          rintro e w5 ⟨A5, c5, rfl, h5, hb5⟩
          have hs5 := (Fresh.sl h5).1
          have ho5 := OwnB.below (hown.below ((Below.refl _ _).alloc (Nat.le_refl _) (.cells #[.int .i64 x.r, .int .i64 x.q] 23))) hb5
          have hbel5 := (hbel.alloc hbel.size (.cells #[.int .i64 x.r, .int .i64 x.q] 23)).trans (hb5.mono (hbel.alloc hbel.size (.cells #[.int .i64 x.r, .int .i64 x.q] 23)).size)
          clear hown c0 c1
          go_wp2_with (at_builtin; refine app rfl rfl ho5 hs5 rfl rfl rfl (by have := HF.out.2; have := HX.out; have := HE.out; have := HN.out; rw [List.length_append]; omega) hbel5.size ?_; intro s7 w7 h7 hg7 hat7)
          go_roundw
          case rel => exact ⟨k + 1, by omega, by go_num, by rw [HF.out.1, ← List.append_assoc]; exact h7, own_below hbel5 hbel5.size ho5 hg7⟩
          case measure => simp [intOf]; omega
        · obtain rfl : k = n := by omega
          have hd1 : decide ((k : Int) < (k : Int)) = false := by rw [decide_eq_false_iff_not]; omega
          rw [show flatD (l.take k) = flatD l by rw [HN.out, List.take_length]] at hown
          obtain ⟨A7, c7, rfl, _⟩ := hown.form
          have HW := Lib.hid (And.intro hown hbel)
          clear hown
          go_wp2_with fail
          go_ret
          exact ⟨A7, c7, rfl, HW.out.1, HW.out.2⟩
  · have hd : decide ((16 : Int) < (n : Int)) = true := by rw [decide_eq_true_eq]; omega
    have HP := Lib.hid (putDs_no (l := l) (by rw [decide_eq_false (by omega)]; rfl))
    clear hb h0 hq HG
    go_enter Try.func22, Try.ntmps22
    go_wp2_with fail
    go_ret
    rw [HP.out]
    exact ⟨none, 0, rfl, OwnB.nil _ _, Below.refl _ _⟩
set_option maxRecDepth 100000 in
set_option maxHeartbeats 3200000 in
theorem RDPut_any (w : World) (A : Option Addr) (n c : Nat) (l : List D2) (hb : Sl w w.heap.size A (dv l)) (h0 : n = l.length) (hl : n ≤ 1000000000) :
    Calls Try.prog 23 #[.slice A n c] w (Fresh w (putDs l)) := by
  have HG := Lib.hid (Rising_any w A n c l hb h0 hl)
  have HN := Lib.hid h0
  obtain ⟨q, hq⟩ : ∃ q, (goodD l && decide (l.length ≤ 16)) = q := ⟨_, rfl⟩
  rw [hq] at HG
  cases q with
  | false =>
    have HP := Lib.hid (putDs_no (l := l) (by rw [Bool.and_comm]; exact hq))
    clear hb h0 hq
    go_enter Try.func23, Try.ntmps23
    go_wp2_with fail
    refine HG.out.mono ?_
    rintro e w1 ⟨rfl, h1⟩
    go_wp2_with fail
    go_ret
    rw [HP.out]
    exact ⟨none, 0, rfl, OwnB.nil _ _, h1⟩
  | true =>
    rw [Bool.and_eq_true, decide_eq_true_eq] at hq
    have HP := Lib.hid (putDs_yes hq.2 hq.1)
    have h16 : n ≤ 16 := by omega
    rw [← h0] at HP
    rw [HP.out]
    clear h0 hq
    go_enter Try.func23, Try.ntmps23
    go_wp2_with fail
    refine HG.out.mono ?_
    rintro e w1 ⟨rfl, h1⟩
    have hsl1 := h1
    have HU := Lib.hid (show ∀ x ∈ [n], U64 x by intro x hx; rw [List.mem_singleton] at hx; subst hx; unfold U64; omega)
    have hbb := balloc h1 (.cells (uv [n]).toArray 38)
    have hP := RefPut_any (w1.alloc (.cells (uv [n]).toArray 38)) none (some ⟨w1.heap.size, 0, none⟩) 0 1 [] [n] Sl.nil ((Sl.lit64 w1 [n]).more (by simp)) HU.out (by simp)
    have hwn : IntKind.u64.wrap (n : Int) = (n : Int) := by rw [IntKind.wrap_u64]; omega
    go_wp2_with fail
    refine Calls.mono hP ?_
    rintro e w2 ⟨A2, c2, rfl, h2, h3⟩
    have HE := Lib.hid (enc_len n)
    clear hP
    go_wp2_with fail
    go_loopw [3, 4] (fun x3 x wr => ∃ k : Nat, k ≤ n ∧ x = .int .i64 (k : Int) ∧ OwnB wr w.heap.size x3 (enc n ++ flatD (l.take k)) ∧ Below w.heap.size w wr) (fun _ x _ => n - (intOf x).toNat)
    case atStart => exact ⟨0, by omega, rfl, by simpa [flatD, encs] using h2.lower hbb.size, bstep hbb h3⟩
    case round =>
      obtain ⟨k, hk, rfl, hown, hbel⟩ := hrel
      by_cases hlt : k < n
      · have hkl : k < l.length := by have := HN.out; omega
        obtain ⟨b, o, rfl, _, hbW, c0, c1⟩ := dotAt hb hkl
        replace c0 := (hbel.cell hbW).trans c0
        replace c1 := (hbel.cell hbW).trans c1
        have hfl := flat_take_le l k
        have HF := Lib.hid (And.intro (flatD_succ hkl) hfl)
        clear hfl
        generalize l[k]?.getD ⟨0, 0⟩ = x at *
        have HB := Lib.hid (fun W => RDBytes_any W x)
        have HX := Lib.hid (bytes_le x)
        unfold D2.v at HB
        have hn0 : (0 : Int) ≤ (k : Int) := by omega
        have hn1 : (k : Int) < (n : Int) := by omega
        have hd1 : decide ((k : Int) < (n : Int)) = true := by rw [decide_eq_true_eq]; omega
        go_wp2_with fail
        refine (HB.out _).mono ?_
        rintro e w5 ⟨A5, c5, rfl, h5, hb5⟩
        have hs5 := (Fresh.sl h5).1
        have ho5 := OwnB.below (hown) hb5
        have hbel5 := (hbel).trans (hb5.mono (hbel).size)
        clear hown c0 c1
        go_wp2_with (at_builtin; refine app rfl rfl ho5 hs5 rfl rfl rfl (by have := HF.out.2; have := HX.out; have := HE.out; have := HN.out; rw [List.length_append]; omega) hbel5.size ?_; intro s7 w7 h7 hg7 hat7)
        go_roundw
        case rel => exact ⟨k + 1, by omega, by go_num, by rw [HF.out.1, ← List.append_assoc]; exact h7, own_below hbel5 hbel5.size ho5 hg7⟩
        case measure => simp [intOf]; omega
      · obtain rfl : k = n := by omega
        have hd1 : decide ((k : Int) < (k : Int)) = false := by rw [decide_eq_false_iff_not]; omega
        rw [show flatD (l.take k) = flatD l by rw [HN.out, List.take_length]] at hown
        obtain ⟨A7, c7, rfl, _⟩ := hown.form
        have HW := Lib.hid (And.intro hown hbel)
        clear hown
        go_wp2_with fail
        go_ret
        exact ⟨A7, c7, rfl, HW.out.1, HW.out.2⟩
end Go.Proofs.Ytpeecgphmcihaaa

