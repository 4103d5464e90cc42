/- Ranges: the document's SpanAdd of whatever list, SpanOf, SpanJoin. -/
import Derived.Test.YtdpkmabojlihmaaRgQ
namespace Go.Proofs.Ytdpkmabojlihmaa
open Go.RowKit Go.Proofs.Ytdpkmabojlihmaa.Pl Go.Proofs.Ytdpkmabojlihmaa.Sp

theorem mergeR_len : ∀ (l : List Rg) (r : Rg), (mergeR l r).2.length ≤ l.length
  | [], r => by simp [mergeR]
  | x :: t, r => by
    rw [mergeR]
    split
    · have := mergeR_len t ⟨min r.a x.a, max r.b x.b⟩
      rw [List.length_cons]; omega
    · exact Nat.le_refl _
theorem addR_len : ∀ (l : List Rg) (r : Rg), (addR l r).length ≤ l.length + 1
  | [], r => by simp [addR]
  | x :: t, r => by
    rw [addR]
    split
    · have := addR_len t r
      rw [List.length_cons, List.length_cons]; omega
    · have := mergeR_len (x :: t) r
      rw [List.length_cons]; omega
def addS (l : List Rg) (r : Rg) : List Rg := if right l = true ∧ r.ok = true then addR l r else []
set_option maxRecDepth 100000 in
theorem RRAdd_any (w : World) (A : Option Addr) (n c : Nat) (l : List Rg) (r : Rg) (hb : Sl w w.heap.size A (rv l)) (h0 : n = l.length) (hl : n ≤ 10000000) (hc : n ≤ c) (hcm : c ≤ maxLen) :
    Calls Try.prog 30 #[.slice A n c, r.v] w (RAns w (addS l r)) := by
  obtain ⟨p, hp⟩ : ∃ p, right l = p := ⟨_, rfl⟩
  obtain ⟨q, hq⟩ : ∃ q, r.ok = q := ⟨_, rfl⟩
  have hb0 := boxR w r
  have hst0 := StandsR.new w 24 r
  have HL := Lib.hid (fun W (hW : Below w.heap.size w W) => RRRight_any W A n c l ((hb.below hW).more hW.size) h0 (by omega))
  have HR := Lib.hid (fun W g (hW : Sl W W.heap.size (some ⟨g, 0, none⟩) (rv [r])) => RRRight_any W (some ⟨g, 0, none⟩) 1 1 [r] hW rfl (by omega))
  rw [right_one_ok, hq] at HR
  rw [hp] at HL
  cases p with
  | false =>
    have HJ := Lib.hid (show addS l r = [] by rw [addS, if_neg (by rw [hp]; simp)])
    clear hp hq hb h0 HR hc hcm hst0
    unfold Rg.v
    go_enter Try.func30, Try.ntmps30
    go_wp2_with fail
    refine (HL.out _ hb0).mono ?_
    rintro e w1 ⟨rfl, h1⟩
    have hbz := hb0.trans (h1.mono hb0.size)
    go_wp2_with fail
    go_ret
    rw [HJ.out]
    exact RAns.nil hbz
  | true =>
    cases q with
    | false =>
      have HJ := Lib.hid (show addS l r = [] by rw [addS, if_neg (by rw [hq]; simp)])
      clear hp hq hb h0 hc hcm
      unfold Rg.v
      go_enter Try.func30, Try.ntmps30
      go_wp2_with fail
      refine (HL.out _ hb0).mono ?_
      rintro e w1 ⟨rfl, h1⟩
      have hst1 := hst0.below h1
      have hbz1 := hb0.trans (h1.mono hb0.size)
      clear hst0 hb0 h1
      generalize hgb : w.heap.size = gb at hst1 ⊢
      have m0 := hst1.2.1
      have m1 := hst1.2.2.1
      go_wp2_with fail
      refine (HR.out _ _ (Sl.oneR w1 r)).mono ?_
      rintro e w2 ⟨rfl, h2⟩
      have hb1 := hbz1.alloc hbz1.size (.cells #[.int .i64 r.a, .int .i64 r.b] 24)
      have hbz2 := hb1.trans (h2.mono hb1.size)
      clear h2 hb1 hst1 m0 m1 hbz1 hgb
      go_wp2_with fail
      go_ret
      rw [HJ.out]
      exact RAns.nil hbz2
    | true =>
      rw [addS, if_pos ⟨hp, hq⟩]
      exact RRAddOk_any w A n c l r hb h0 hl hc hcm hp hq
theorem ofS_take {l : List Int} {k : Nat} (hk : k < l.length) : ofS (l.take (k + 1)) = if numOk (l[k]?.getD 0) = true then addR (ofS (l.take k)) ⟨l[k]?.getD 0, l[k]?.getD 0⟩ else ofS (l.take k) := by
  rw [List.take_succ_eq_append_getElem hk, List.getElem?_eq_getElem hk, Option.getD_some]
  unfold ofS
  rw [List.foldl_append]
  rfl
theorem ofS_len (l : List Int) : (ofS l).length ≤ l.length := by
  have h : ∀ (l : List Int) (o : List Rg), (l.foldl (fun o n => if numOk n = true then addR o ⟨n, n⟩ else o) o).length ≤ o.length + l.length := by
    intro l
    induction l with
    | nil => intro o; simp
    | cons x t ih =>
      intro o
      rw [List.foldl_cons, List.length_cons]
      have h1 := ih (if numOk x = true then addR o ⟨x, x⟩ else o)
      have h2 := addR_len o ⟨x, x⟩
      split at h1 <;> split <;> first | omega | contradiction
  have := h l []
  unfold ofS
  simpa using this
set_option maxRecDepth 100000 in
set_option maxHeartbeats 3200000 in
theorem RROf_any (w : World) (A : Option Addr) (n c : Nat) (l : List Int) (hb : Sl w w.heap.size A (zv l)) (h0 : n = l.length) (hl : n ≤ 1000000) :
    Calls Try.prog 25 #[.slice A n c] w (RAns w (ofS l)) := by
  have HN := Lib.hid h0
  clear h0
  go_enter Try.func25, Try.ntmps25
  go_wp2_with fail
  go_loopw [3, 4] (fun x3 x4 wr => ∃ (k : Nat) (A2 : Option Addr) (m c2 : Nat) (q : List Rg), k ≤ n ∧ x4 = .int .i64 (k : Int) ∧ x3 = .slice A2 m c2 ∧ q = ofS (l.take k) ∧ q.length = m ∧ m ≤ k ∧ m ≤ c2 ∧ c2 ≤ maxLen ∧ Sl wr wr.heap.size A2 (rv q) ∧ right q = true ∧ Below w.heap.size w wr) (fun _ x4 _ => n - (intOf x4).toNat)
  case atStart => exact ⟨0, none, 0, 0, [], by omega, rfl, rfl, rfl, rfl, Nat.le_refl _, Nat.le_refl _, by simp [maxLen], .inl rfl, rfl, Below.refl _ _⟩
  case round =>
    obtain ⟨k, A2, m, c2, q, hk, rfl, rfl, hq, hqm, hmk, hmc, hcm, hS, hrt, hbel⟩ := hrel
    by_cases hlt : k < n
    · have hkl : k < l.length := by have := HN.out; omega
      obtain ⟨b, o, rfl, _, hbW, c0⟩ := zAt hb hkl
      replace c0 := (hbel.cell hbW).trans c0
      have hstep := ofS_take hkl
      rw [← hq] at hstep
      generalize l[k]?.getD 0 = x at *
      have hd1 : decide ((k : Int) < (n : Int)) = true := by rw [decide_eq_true_eq]; omega
      have hn0 : (0 : Int) ≤ (k : Int) := by omega
      have hn1 : (k : Int) < (n : Int) := by omega
      by_cases hx : numOk x = true
      · rw [if_pos hx] at hstep
        rw [numOk, decide_eq_true_eq] at hx
        have hok : (⟨x, x⟩ : Rg).ok = true := ok_iff.2 ⟨hx.1, Int.le_refl _, hx.2⟩
        have hlen := addR_len q ⟨x, x⟩
        have HT := Lib.hid (And.intro hstep (And.intro (addR_ok hrt hok hx.1).1 hlen))
        unfold mx at hx
        have d1 : decide (1 ≤ x) = true := by rw [decide_eq_true_eq]; exact hx.1
        have d2 : decide (x ≤ 1099511627775) = true := by rw [decide_eq_true_eq]; exact hx.2
        have HC := Lib.hid (RRAddOk_any wr.drew A2 m c2 q ⟨x, x⟩ hS.drew hqm.symm (by omega) hmc hcm hrt hok)
        have HM := Lib.hid hqm
        clear hx hstep hlen hq hqm hS hrt hok hmc hcm
        have q0 := cellB c0
        go_wp2_with fail
        refine bstart (by kernel_rfl) ?_
        refine btake 0 (oi := _) (v := ?_) (by simp only [List.getElem?_toArray, List.getElem?_cons_zero]; rfl) (by kernel_rfl) (by exact fun _ _ _ h => h) (by first | assumption | exact KB.refl _) (.inl ⟨by rfl, fun W hW => ?_⟩) ?_; rotate_left
        · (go_simp; first | done | with_reducible rfl)
        try simp only [Act.put, List.setIfInBounds_toArray, List.set_cons_zero, List.set_cons_succ]
        refine btake 1 (oi := _) (v := ?_) (by simp only [List.getElem?_toArray, List.getElem?_cons_succ, List.getElem?_cons_zero]; rfl) (by kernel_rfl) (by exact fun _ _ _ h => h) (by first | assumption | exact KB.refl _) (.inl ⟨by rfl, fun W hW => ?_⟩) ?_; rotate_left
        · (go_simp; first | done | with_reducible rfl)
        try simp only [Act.put, List.setIfInBounds_toArray, List.set_cons_zero, List.set_cons_succ]
        refine btake 2 (oi := _) (v := ?_) (by simp only [List.getElem?_toArray, List.getElem?_cons_succ, List.getElem?_cons_zero]; rfl) (by kernel_rfl) (by exact fun _ _ _ h => h) (by first | assumption | exact KB.refl _) (.inl ⟨by rfl, fun W hW => ?_⟩) ?_; rotate_left
        · (go_simp; first | done | with_reducible rfl)
        try simp only [Act.put, List.setIfInBounds_toArray, List.set_cons_zero, List.set_cons_succ]
        refine btake 3 (oi := _) (v := ?_) (by simp only [List.getElem?_toArray, List.getElem?_cons_succ, List.getElem?_cons_zero]; rfl) (by kernel_rfl) (by exact fun _ _ _ h => h) (by first | assumption | exact KB.refl _) (.inl ⟨by rfl, fun W hW => ?_⟩) ?_; rotate_left
        · (go_simp; first | done | with_reducible rfl)
        try simp only [Act.put, List.setIfInBounds_toArray, List.set_cons_zero, List.set_cons_succ]
        refine btake 4 (oi := _) (v := ?_) (by simp only [List.getElem?_toArray, List.getElem?_cons_succ, List.getElem?_cons_zero]; rfl) (by kernel_rfl) (by exact fun _ _ _ h => h) (by first | assumption | exact KB.refl _) (.inl ⟨by rfl, fun W hW => ?_⟩) ?_; rotate_left
        · (go_simp; first | done | with_reducible rfl)
        try simp only [Act.put, List.setIfInBounds_toArray, List.set_cons_zero, List.set_cons_succ]
        refine btake 5 (oi := _) (v := ?_) (by simp only [List.getElem?_toArray, List.getElem?_cons_succ, List.getElem?_cons_zero]; rfl) (by kernel_rfl) (by exact fun _ _ _ h => h) (by first | assumption | exact KB.refl _) (.inl ⟨by rfl, fun W hW => ?_⟩) ?_; rotate_left
        · (go_simp; first | done | with_reducible rfl)
        try simp only [Act.put, List.setIfInBounds_toArray, List.set_cons_zero, List.set_cons_succ]
        refine btake 6 (oi := _) (v := ?_) (by simp only [List.getElem?_toArray, List.getElem?_cons_succ, List.getElem?_cons_zero]; rfl) (by kernel_rfl) (by exact fun _ _ _ h => h) (by first | assumption | exact KB.refl _) (.inl ⟨by rfl, fun W hW => ?_⟩) ?_; rotate_left
        · (go_simp; first | done | with_reducible rfl)
        try simp only [Act.put, List.setIfInBounds_toArray, List.set_cons_zero, List.set_cons_succ]
        refine btake 7 (oi := _) (v := ?_) (by simp only [List.getElem?_toArray, List.getElem?_cons_succ, List.getElem?_cons_zero]; rfl) (by kernel_rfl) (by exact fun _ _ _ h => h) (by first | assumption | exact KB.refl _) (.inl ⟨by rfl, fun W hW => ?_⟩) ?_; rotate_left
        · (go_simp; first | done | with_reducible rfl)
        try simp only [Act.put, List.setIfInBounds_toArray, List.set_cons_zero, List.set_cons_succ]
        refine btake 8 (oi := _) (v := ?_) (by simp only [List.getElem?_toArray, List.getElem?_cons_succ, List.getElem?_cons_zero]; rfl) (by kernel_rfl) (by exact fun _ _ _ h => h) (by first | assumption | exact KB.refl _) (.inl ⟨by rfl, fun W hW => ?_⟩) ?_; rotate_left
        · (go_simp; first | done | with_reducible rfl)
        try simp only [Act.put, List.setIfInBounds_toArray, List.set_cons_zero, List.set_cons_succ]
        refine btake 9 (oi := _) (v := ?_) (by simp only [List.getElem?_toArray, List.getElem?_cons_succ, List.getElem?_cons_zero]; rfl) (by kernel_rfl) (by exact fun _ _ _ h => h) (by first | assumption | exact KB.refl _) (.inl ⟨by rfl, fun W hW => ?_⟩) ?_; rotate_left
        · (go_simp; first | done | with_reducible rfl)
        try simp only [Act.put, List.setIfInBounds_toArray, List.set_cons_zero, List.set_cons_succ]
        -- 10: newsreel/newsreelref1.SpanAdd
        refine bop 10 (o := _) (by simp only [List.getElem?_toArray, List.getElem?_cons_succ, List.getElem?_cons_zero]; rfl) (by kernel_rfl) (by first | assumption | exact KB.refl _) (by rfl) (fun K hK => ?_)
        go_simp
        refine HC.out.mono ?_
        rintro e w1 ⟨A3, c3, rfl, h1, h2, h3, h4⟩
        have hkb := KB.of h4
        refine hK.out _ _ hkb ?_; clear hK K
        try simp only [Act.put, List.setIfInBounds_toArray, List.set_cons_zero, List.set_cons_succ]
        refine btake 11 (oi := _) (v := ?_) (by simp only [List.getElem?_toArray, List.getElem?_cons_succ, List.getElem?_cons_zero]; rfl) (by kernel_rfl) (by exact fun _ _ _ h => h) (by first | assumption | exact KB.refl _) (.inl ⟨by rfl, fun W hW => ?_⟩) ?_; rotate_left
        · (go_simp; first | done | with_reducible rfl)
        try simp only [Act.put, List.setIfInBounds_toArray, List.set_cons_zero, List.set_cons_succ]
        refine bdone (by kernel_rfl) ?_
        have hbz := hbel.drew.trans (h4.mono hbel.size)
        clear q0 hkb
        go_wp2_with fail
        go_roundw
        case rel => exact ⟨k + 1, A3, _, c3, _, by omega, by go_num, rfl, HT.out.1.symm, rfl, by have := HT.out.2.2; have := HM.out; omega, h2, h3, h1, HT.out.2.1, hbz⟩
        case measure => simp [intOf] <;> omega
      · rw [if_neg hx, hq] at hstep
        have HT := Lib.hid (hq.trans (hq.symm.trans (hstep ▸ hq)))
        have hx' : ¬ (1 ≤ x ∧ x ≤ 1099511627775) := by
          rw [numOk, decide_eq_true_eq] at hx
          unfold mx at hx
          exact hx
        have HF := Lib.hid (And.intro hqm (And.intro hmc (And.intro hcm (And.intro hS hrt))))
        clear hx hstep hq hqm hmc hcm hS hrt
        by_cases h1 : 1 ≤ x
        · have d1 : decide (1 ≤ x) = true := by rw [decide_eq_true_eq]; exact h1
          have d2 : decide (x ≤ 1099511627775) = false := by rw [decide_eq_false_iff_not]; omega
          clear h1 hx'
          go_wp2_with fail
          go_roundw
          case rel => exact ⟨k + 1, A2, m, c2, q, by omega, by go_num, rfl, HT.out, HF.out.1, by omega, HF.out.2.1, HF.out.2.2.1, HF.out.2.2.2.1, HF.out.2.2.2.2, hbel⟩
          case measure => simp [intOf] <;> omega
        · have d1 : decide (1 ≤ x) = false := by rw [decide_eq_false_iff_not]; exact h1
          clear h1 hx'
          go_wp2_with fail
          go_roundw
          case rel => exact ⟨k + 1, A2, m, c2, q, by omega, by go_num, rfl, HT.out, HF.out.1, by omega, HF.out.2.1, HF.out.2.2.1, HF.out.2.2.2.1, HF.out.2.2.2.2, hbel⟩
          case measure => simp [intOf] <;> omega
    · obtain rfl : k = n := by omega
      have hd1 : decide ((k : Int) < (k : Int)) = false := by rw [decide_eq_false_iff_not]; omega
      rw [List.take_of_length_le (by have := HN.out; omega)] at hq
      have HF := Lib.hid (And.intro hq (And.intro hqm (And.intro hmc (And.intro hcm hS))))
      clear hq hqm hmc hcm hS hmk
      go_wp2_with fail
      go_ret
      rw [← HF.out.1]
      exact ⟨A2, c2, by rw [HF.out.2.1]; rfl, HF.out.2.2.2.2, by rw [HF.out.2.1]; exact HF.out.2.2.1, HF.out.2.2.2.1, hbel⟩
end Go.Proofs.Ytdpkmabojlihmaa

