/- Ranges: span.Minus. -/
import Derived.OneCell
import Derived.Test.YtaflikgdlkaefaaM03
open List (getElem?_toArray getElem?_cons_succ getElem?_cons_zero)
namespace Go.Proofs.Ytaflikgdlkaefaa
open Go.RowKit Go.Proofs.Ytaflikgdlkaefaa.Pl Go.Proofs.Ytaflikgdlkaefaa.Sp
set_option maxRecDepth 20000

theorem piece_len : ∀ (b : List Rg) (r : Rg), (piece r b).length ≤ b.length + 1
  | [], r => by rw [piece]; split <;> simp
  | x :: t, r => by
    rw [piece]
    have := piece_len t ⟨x.b + 1, r.b⟩
    split
    · split <;> simp
    · rw [List.length_append, List.length_cons]
      split
      · rw [List.length_singleton]; omega
      · rw [List.length_nil]; omega
theorem drop_len (v : Int) (b : List Rg) : (b.dropWhile fun x => decide (x.b < v)).length ≤ b.length := (List.dropWhile_sublist _).length_le
theorem minP_len : ∀ (a b : List Rg), (minP a b).length ≤ a.length * (b.length + 1)
  | [], b => by simp [minP]
  | r :: t, b => by
    rw [minP]
    have h1 := piece_len (b.dropWhile fun x => decide (x.b < r.a)) r
    have h2 := drop_len r.a b
    have h3 := minP_len t (b.dropWhile fun x => decide (x.b < r.a))
    have h4 : t.length * ((b.dropWhile fun x => decide (x.b < r.a)).length + 1) ≤ t.length * (b.length + 1) := Nat.mul_le_mul_left _ (by omega)
    rw [List.length_append, List.length_cons, Nat.succ_mul]
    omega
theorem piece_at {bs : List Rg} {i : Nat} {r : Rg} (h : i < bs.length) : piece r (bs.drop i) = if r.b < (bs[i]?.getD ⟨0, 0⟩).a then (if r.a ≤ r.b then [r] else []) else (if r.a < (bs[i]?.getD ⟨0, 0⟩).a then [⟨r.a, (bs[i]?.getD ⟨0, 0⟩).a - 1⟩] else []) ++ piece ⟨(bs[i]?.getD ⟨0, 0⟩).b + 1, r.b⟩ (bs.drop (i + 1)) := by
  rw [List.drop_eq_getElem_cons h, List.getElem?_eq_getElem h, Option.getD_some, piece]
theorem piece_end {bs : List Rg} {i : Nat} {r : Rg} (h : bs.length ≤ i) : piece r (bs.drop i) = if r.a ≤ r.b then [r] else [] := by
  rw [List.drop_eq_nil_of_le h, piece]
theorem minP_at {a b : List Rg} {k : Nat} (h : k < a.length) : minP (a.drop k) b = piece (a[k]?.getD ⟨0, 0⟩) (b.dropWhile fun x => decide (x.b < (a[k]?.getD ⟨0, 0⟩).a)) ++ minP (a.drop (k + 1)) (b.dropWhile fun x => decide (x.b < (a[k]?.getD ⟨0, 0⟩).a)) := by
  rw [List.drop_eq_getElem_cons h, List.getElem?_eq_getElem h, Option.getD_some, minP]
theorem StandsR.setA {w : World} {g : Nat} {s : Rg} (h : StandsR w g s) (v : Int) : StandsR (w.setCell ⟨g, 0, none⟩ (.int .i64 v)) g ⟨v, s.b⟩ := by
  obtain ⟨h1, h2, h3, h5, h6⟩ := h
  exact ⟨by simpa using h1, World.cell?_setCell_same _ _ _ h2, by rw [setCell_other _ _ _ _ _ _ (.inr (by omega))]; exact h3, by simp only [setCell_frozen]; exact h5, by simp only [setCell_frozen]; exact h6⟩
theorem frozen_of_blk {w w' : World} {p : Addr} (h : w'.heap[p.block]? = w.heap[p.block]?) : w'.frozen? p = w.frozen? p := by
  unfold World.frozen?
  rw [h]
theorem StandsR.grown {w w' : World} {g : Nat} {s : Rg} {row : Option Nat} (h : StandsR w g s) (hg : w.grownBy w' row) (hne : row ≠ some g) : StandsR w' g s := by
  obtain ⟨h1, h2, h3, h5, h6⟩ := h
  have hb := hg.block g h1 (fun e => hne e.symm)
  exact ⟨Nat.lt_of_lt_of_le h1 hg.size, (World.cell?_of_block (w := w) hb).trans h2, (World.cell?_of_block (w := w) hb).trans h3, (frozen_of_blk hb).trans h5, (frozen_of_blk hb).trans h6⟩
def slLen : Value → Nat
  | .slice _ m _ => m
  | _ => 0
set_option maxRecDepth 100000 in
set_option maxHeartbeats 12800000 in
theorem MinusOk_any (w : World) (A A' : Option Addr) (n n' c c' : Nat) (a b : List Rg) (ha : Sl w w.heap.size A (rv a)) (hb : Sl w w.heap.size A' (rv b)) (h0 : n = a.length) (h1 : n' = b.length) (hl : n ≤ 20000) (hl' : n' ≤ 20000) (hc' : n' ≤ c') (hcm' : c' ≤ maxLen) (hp : right a = true) (hq : right b = true) :
    Calls Try.prog 30 #[.slice A n c, .slice A' n' c'] w (RAns w (minusS a b)) := by
  have hra := RRight_any w A n c a ha h0 (by omega)
  have hrb := fun W (hW : Below w.heap.size w W) => RRight_any W A' n' c' b ((hb.below hW).more hW.size) h1 (by omega)
  rw [hp] at hra
  rw [hq] at hrb
  have HA := Lib.hid hra
  have HB := Lib.hid hrb
  have HLM := Lib.hid (show (minP a b).length ≤ 500000000 by
    have h := minP_len a b
    have h2 : a.length * (b.length + 1) ≤ 20000 * 20001 := Nat.mul_le_mul (by omega) (by omega)
    omega)
  have HM := Lib.hid (minP_eq hp hq)
  have HN := Lib.hid (And.intro h0 (And.intro (right_ok hp) (right_ok hq)))
  have HB0 := Lib.hid (And.intro hb (And.intro h1 (And.intro hc' hcm')))
  clear hra hrb h0 hp hq h1 hb hc' hcm'
  go_enter Try.func30, Try.ntmps30
  go_wp2_with fail
  refine HA.out.mono ?_
  rintro e w1 ⟨rfl, h1⟩
  go_wp2_with fail
  refine (HB.out w1 h1).mono ?_
  rintro e w2 ⟨rfl, h2⟩
  have hbz := h1.trans (h2.mono h1.size)
  clear h1 h2
  go_wp2_with fail
  go_loopw [1, 5, 20] (fun x1 x5 x20 wr => ∃ (k : Nat) (A2 : Option Addr) (m c2 : Nat) (bs : List Rg) (o : Value) (q : List Rg), k ≤ n ∧ x20 = .int .i64 (k : Int) ∧ o = x5 ∧ x1 = .slice A2 m c2 ∧ Sl w w.heap.size A2 (rv bs) ∧ bs.length = m ∧ m ≤ c2 ∧ c2 ≤ maxLen ∧ (∀ r ∈ bs, r.ok = true) ∧ OwnR wr w.heap.size o q ∧ q ++ minP (a.drop k) bs = minP a b ∧ Below w.heap.size w wr) (fun _ _ x20 _ => n - (intOf x20).toNat)
  case atStart => exact ⟨0, A', n', c', b, _, [], by omega, rfl, rfl, rfl, HB0.out.1, HB0.out.2.1.symm, HB0.out.2.2.1, HB0.out.2.2.2, HN.out.2.2, OwnR.nil _ _, rfl, hbz⟩
  case round =>
    clear hbz HB0
    obtain ⟨k, A0, m0, c0, b0, x5, q, hk, rfl, rfl, rfl, hS0, hb0, hc0, hcm0, hokb0, hown0, hmn0, hbel⟩ := hrel
    by_cases hlt : k < n
    · have hka : k < a.length := by have := HN.out.1; omega
      obtain ⟨b1, o1, rfl, _, hb1W, c00, c01⟩ := rgAt ha hka
      replace c00 := (hbel.cell hb1W).trans c00
      replace c01 := (hbel.cell hb1W).trans c01
      have hro := HN.out.2.1 _ (List.getElem_mem hka)
      rw [show a[k] = a[k]?.getD ⟨0, 0⟩ by rw [List.getElem?_eq_getElem hka]; rfl] at hro
      rw [minP_at hka] at hmn0
      generalize a[k]?.getD ⟨0, 0⟩ = r at *
      obtain ⟨ra, rb⟩ := r
      rw [ok_iff] at hro
      unfold mx at hro
      simp only at hro hmn0 c00 c01
      obtain ⟨r1, r2, r3⟩ := hro
      have hdk : decide ((k : Int) < (n : Int)) = true := by rw [decide_eq_true_eq]; omega
      have hk0 : (0 : Int) ≤ (k : Int) := by omega
      have hk1 : (k : Int) < (n : Int) := by omega
      have how1 := hown0.below (boxR wr ⟨ra, rb⟩)
      have hst1 := StandsR.new wr 44 ⟨ra, rb⟩
      have hbx1 := hbel.alloc hbel.size (.cells #[.int .i64 ra, .int .i64 rb] 44)
      have hne : x5.ownBlock ≠ some wr.heap.size := fun e => by have := (hown0.lt _ e).2; omega
      have hgb := hbel.size
      obtain ⟨D, hD⟩ : ∃ D, (b0.dropWhile fun x => decide (x.b < ra)) = D := ⟨_, rfl⟩
      rw [hD] at hmn0
      have HD := Lib.hid hD
      have HMN := Lib.hid hmn0
      have HC0 := Lib.hid (And.intro hb0 (And.intro hc0 (And.intro hcm0 hokb0)))
      clear hown0 hbel hmn0 hD hb0 hc0 hcm0 hokb0
      go_wp2_with fail
      generalize wr.alloc (.cells #[.int .i64 ra, .int .i64 rb] 44) = w3 at how1 hst1 hbx1 ⊢
      generalize wr.heap.size = gb at how1 hst1 hbx1 hne hgb ⊢
      go_loopw [1] (fun x1 wr => ∃ (A2 : Option Addr) (m c2 : Nat) (bs : List Rg), x1 = .slice A2 m c2 ∧ Sl w w.heap.size A2 (rv bs) ∧ bs.length = m ∧ m ≤ c2 ∧ c2 ≤ maxLen ∧ (∀ r ∈ bs, r.ok = true) ∧ (bs.dropWhile fun x => decide (x.b < ra)) = D ∧ OwnR wr w.heap.size x5 q ∧ StandsR wr gb ⟨ra, rb⟩ ∧ Below w.heap.size w wr) (fun x1 _ => slLen x1)
      case atStart => exact ⟨A0, m0, c0, b0, rfl, hS0, HC0.out.1, HC0.out.2.1, HC0.out.2.2.1, HC0.out.2.2.2, HD.out, how1, hst1, hbx1⟩
      case round =>
        clear how1 hst1 hbx1 hS0
        obtain ⟨A2, m, c2, bs, rfl, hS, hbl, hc2, hcm2, hokb, hdw, hown, hst, hbq⟩ := hrel
        rcases Nat.eq_zero_or_pos m with rfl | hm0
        · have hbs := List.eq_nil_of_length_eq_zero hbl
          have hDb : bs = D := by rw [← hdw, hbs]; rfl
          subst hDb
          clear hbs hdw
          have hmn := HMN.out
          rw [← List.append_assoc] at hmn
          go_wp2_with fail
          refine bstart (by kernel_rfl) ?_
          refine btake 0 (oi := _) (v := ?_) (by simp only [List.getElem?_toArray, List.getElem?_cons_zero]; rfl) (by kernel_rfl) (by exact fun _ _ _ h => h) (by first | assumption | exact KB.refl _) (.inl ⟨by rfl, fun W hW => ?_⟩) ?_; rotate_left
          · (go_simp; first | done | with_reducible rfl)
          try simp only [Act.put, List.setIfInBounds_toArray, List.set_cons_zero, List.set_cons_succ]
          refine btake 1 (oi := _) (v := ?_) (by simp only [getElem?_toArray, getElem?_cons_succ, getElem?_cons_zero]; rfl) (by kernel_rfl) (by exact fun _ _ _ h => h) (by first | assumption | exact KB.refl _) (.inl ⟨by rfl, fun W hW => ?_⟩) ?_; rotate_left
          · (go_simp; first | done | with_reducible rfl)
          try simp only [Act.put, List.setIfInBounds_toArray, List.set_cons_zero, List.set_cons_succ]
          refine btake 2 (oi := _) (v := ?_) (by simp only [getElem?_toArray, getElem?_cons_succ, getElem?_cons_zero]; rfl) (by kernel_rfl) (by exact fun _ _ _ h => h) (by first | assumption | exact KB.refl _) (.inl ⟨by rfl, fun W hW => ?_⟩) ?_; rotate_left
          · (go_simp; first | done | with_reducible rfl)
          try simp only [Act.put, List.setIfInBounds_toArray, List.set_cons_zero, List.set_cons_succ]
          refine btake 3 (oi := _) (v := ?_) (by simp only [getElem?_toArray, getElem?_cons_succ, getElem?_cons_zero]; rfl) (by kernel_rfl) (by exact fun _ _ _ h => h) (by first | assumption | exact KB.refl _) (.inl ⟨by rfl, fun W hW => ?_⟩) ?_; rotate_left
          · (go_simp; first | done | with_reducible rfl)
          try simp only [Act.put, List.setIfInBounds_toArray, List.set_cons_zero, List.set_cons_succ]
          refine btake 4 (oi := _) (v := undef) (by simp only [getElem?_toArray, getElem?_cons_succ, getElem?_cons_zero]; rfl) (by kernel_rfl) (by exact fun _ _ _ h => h) (by first | assumption | exact KB.refl _) (.inr ⟨by rfl, rfl⟩) ?_
          try simp only [Act.put, List.setIfInBounds_toArray, List.set_cons_zero, List.set_cons_succ]
          refine btake 5 (oi := _) (v := undef) (by simp only [getElem?_toArray, getElem?_cons_succ, getElem?_cons_zero]; rfl) (by kernel_rfl) (by exact fun _ _ _ h => h) (by first | assumption | exact KB.refl _) (.inr ⟨by rfl, rfl⟩) ?_
          try simp only [Act.put, List.setIfInBounds_toArray, List.set_cons_zero, List.set_cons_succ]
          refine btake 6 (oi := _) (v := undef) (by simp only [getElem?_toArray, getElem?_cons_succ, getElem?_cons_zero]; rfl) (by kernel_rfl) (by exact fun _ _ _ h => h) (by first | assumption | exact KB.refl _) (.inr ⟨by rfl, rfl⟩) ?_
          try simp only [Act.put, List.setIfInBounds_toArray, List.set_cons_zero, List.set_cons_succ]
          refine btake 7 (oi := _) (v := undef) (by simp only [getElem?_toArray, getElem?_cons_succ, getElem?_cons_zero]; rfl) (by kernel_rfl) (by exact fun _ _ _ h => h) (by first | assumption | exact KB.refl _) (.inr ⟨by rfl, rfl⟩) ?_
          try simp only [Act.put, List.setIfInBounds_toArray, List.set_cons_zero, List.set_cons_succ]
          refine btake 8 (oi := _) (v := undef) (by simp only [getElem?_toArray, getElem?_cons_succ, getElem?_cons_zero]; rfl) (by kernel_rfl) (by exact fun _ _ _ h => h) (by first | assumption | exact KB.refl _) (.inr ⟨by rfl, rfl⟩) ?_
          try simp only [Act.put, List.setIfInBounds_toArray, List.set_cons_zero, List.set_cons_succ]
          refine btake 9 (oi := _) (v := undef) (by simp only [getElem?_toArray, getElem?_cons_succ, getElem?_cons_zero]; rfl) (by kernel_rfl) (by exact fun _ _ _ h => h) (by first | assumption | exact KB.refl _) (.inr ⟨by rfl, rfl⟩) ?_
          try simp only [Act.put, List.setIfInBounds_toArray, List.set_cons_zero, List.set_cons_succ]
          refine btake 10 (oi := _) (v := undef) (by simp only [getElem?_toArray, getElem?_cons_succ, getElem?_cons_zero]; rfl) (by kernel_rfl) (by exact fun _ _ _ h => h) (by first | assumption | exact KB.refl _) (.inr ⟨by rfl, rfl⟩) ?_
          try simp only [Act.put, List.setIfInBounds_toArray, List.set_cons_zero, List.set_cons_succ]
          refine btake 11 (oi := _) (v := ?_) (by simp only [getElem?_toArray, getElem?_cons_succ, getElem?_cons_zero]; rfl) (by kernel_rfl) (by exact fun _ _ _ h => h) (by first | assumption | exact KB.refl _) (.inl ⟨by rfl, fun W hW => ?_⟩) ?_; rotate_left
          · (go_simp; first | done | with_reducible rfl)
          try simp only [Act.put, List.setIfInBounds_toArray, List.set_cons_zero, List.set_cons_succ]
          refine bdone (by kernel_rfl) ?_
          replace hown := hown.below (Below.refl _ _).drew
          replace hst := hst.below (Below.refl _ _).drew
          replace hbq := hbq.drew
          generalize wr.drew = wq at hown hst hbq ⊢
          obtain ⟨Q, hQd⟩ : ∃ Q, q ++ piece ⟨ra, rb⟩ bs = Q := ⟨_, rfl⟩
          rw [hQd] at hmn
          have HMQ := Lib.hid (show Q.length + (minP (a.drop (k + 1)) bs).length ≤ 500000000 by
            rw [← List.length_append, hmn]; exact HLM.out)
          have HQN := Lib.hid hmn
          have HMB := Lib.hid (And.intro hbl (And.intro hc2 (And.intro hcm2 hokb)))
          have HHB := Lib.hid hbl
          have HOK2 := Lib.hid hokb
          have hmL : 0 ≤ 9223372036854775807 := by
            have h9 := hcm2
            simp only [maxLen] at h9
            omega
          clear hmn hbl hc2 hcm2 hokb
          go_wp2_with fail
          go_loopw [5, 40] (fun x5 x40 wr => ∃ (i : Nat) (v : Int) (o : Value) (p : List Rg), i ≤ 0 ∧ x40 = .int .i64 (i : Int) ∧ o = x5 ∧ OwnR wr w.heap.size o p ∧ o.ownBlock ≠ some gb ∧ StandsR wr gb ⟨v, rb⟩ ∧ 1 ≤ v ∧ v ≤ 1099511627776 ∧ p ++ piece ⟨v, rb⟩ (bs.drop i) = Q ∧ Below w.heap.size w wr) (fun _ x40 _ => 0 - (intOf x40).toNat)
          case atStart => exact ⟨0, ra, _, q, by omega, rfl, rfl, hown, hne, hst, by omega, by omega, hQd, hbq⟩
          case round =>
            clear hown hne hst hbq hQd
            obtain ⟨i, v, x5, p, hi, rfl, rfl, hown2, hne2, hst2, hv1, hv2, hQ2, hbx⟩ := hrel
            by_cases hli : i < 0
            · omega
            · have hdi : decide ((i : Int) < ((0 : Nat) : Int)) = false := by rw [decide_eq_false_iff_not]; omega
              rw [piece_end (by have := HHB.out; omega)] at hQ2
              obtain rfl : i = 0 := by omega
              have t0 := hst2.2.1
              have t1 := hst2.2.2.1
              by_cases hvb : v ≤ rb
              · have dv : decide (v ≤ rb) = true := by rw [decide_eq_true_eq]; exact hvb
                have hq3 := hQ2
                rw [if_pos hvb] at hq3
                have how3 := hown2.below (balloc (Below.refl _ _) (.cells #[.int .i64 v, .int .i64 rb] 44))
                have hbz3 := hbx.alloc hbx.size (.cells #[.int .i64 v, .int .i64 rb] 44)
                have hsl3 := Sl.oneR (wr) ⟨v, rb⟩
                have HQ3 := Lib.hid hq3
                have HL3 := Lib.hid (show p.length + 1 ≤ 1000000000 by
                  have e3 := HMQ.out
                  rw [← hq3] at e3
                  simp only [List.length_append, List.length_cons, List.length_nil] at e3
                  omega)
                clear hq3 hvb
                go_wp2_with (at_builtin; refine appR rfl rfl how3 hsl3 rfl rfl rfl (by rw [List.length_singleton]; exact HL3.out) hbz3.size ?_; intro v7 w7 h7 hg7 hat7)
                go_roundw
                case rel => exact ⟨k + 1, _, _, c2, bs, _, _, by omega, by go_num, rfl, rfl, hS, HMB.out.1, HMB.out.2.1, HMB.out.2.2.1, HMB.out.2.2.2, h7, by rw [HQ3.out]; exact HQN.out, own_belowR hbz3 hbz3.size how3 hg7⟩
                case measure => simp [intOf] <;> omega
              · have dv : decide (v ≤ rb) = false := by rw [decide_eq_false_iff_not]; exact hvb
                have hq3 := hQ2
                rw [if_neg hvb, List.append_nil] at hq3
                have HQ3 := Lib.hid hq3
                have HO3 := Lib.hid hown2
                have HB3 := Lib.hid hbx
                clear hq3 hvb
                go_wp2_with fail
                go_roundw
                case rel => exact ⟨k + 1, _, _, c2, bs, _, _, by omega, by go_num, rfl, rfl, hS, HMB.out.1, HMB.out.2.1, HMB.out.2.2.1, HMB.out.2.2.2, HO3.out, by rw [HQ3.out]; exact HQN.out, HB3.out⟩
                case measure => simp [intOf] <;> omega
        · obtain ⟨b2, o2, hA2, _, hb2W, d0, d1⟩ := rgAt hS (k := 0) (by omega)
          replace d1 := (hbq.cell hb2W).trans d1
          clear d0
          rw [Nat.zero_mul, Nat.add_zero] at d1
          obtain ⟨y, t, hbs⟩ : ∃ y t, bs = y :: t := by
            cases hb9 : bs with
            | nil => rw [hb9] at hbl; simp at hbl; omega
            | cons y t => exact ⟨y, t, rfl⟩
          rw [hbs] at d1
          simp only [List.getElem?_cons_zero, Option.getD_some] at d1
          have e1 := cellB d1
          have e2 := cellB hst.2.1
          have hdm : decide ((0 : Int) < (m : Int)) = true := by rw [decide_eq_true_eq]; omega
          have hm1 : (0 : Int) < (m : Int) := by omega
          subst hA2
          by_cases hyr : y.b < ra
          · have dy : decide (y.b < ra) = true := by rw [decide_eq_true_eq]; exact hyr
            rw [hbs, List.dropWhile_cons_of_pos (by simpa using hyr)] at hdw
            go_wp2_with fail
            refine bstart (by kernel_rfl) ?_
            refine btake 0 (oi := _) (v := ?_) (by simp only [List.getElem?_toArray, List.getElem?_cons_zero]; rfl) (by kernel_rfl) (by exact fun _ _ _ h => h) (by first | assumption | exact KB.refl _) (.inl ⟨by rfl, fun W hW => ?_⟩) ?_; rotate_left
            · (go_simp; first | done | with_reducible rfl)
            try simp only [Act.put, List.setIfInBounds_toArray, List.set_cons_zero, List.set_cons_succ]
            refine btake 1 (oi := _) (v := ?_) (by simp only [getElem?_toArray, getElem?_cons_succ, getElem?_cons_zero]; rfl) (by kernel_rfl) (by exact fun _ _ _ h => h) (by first | assumption | exact KB.refl _) (.inl ⟨by rfl, fun W hW => ?_⟩) ?_; rotate_left
            · (go_simp; first | done | with_reducible rfl)
            try simp only [Act.put, List.setIfInBounds_toArray, List.set_cons_zero, List.set_cons_succ]
            refine btake 2 (oi := _) (v := ?_) (by simp only [getElem?_toArray, getElem?_cons_succ, getElem?_cons_zero]; rfl) (by kernel_rfl) (by exact fun _ _ _ h => h) (by first | assumption | exact KB.refl _) (.inl ⟨by rfl, fun W hW => ?_⟩) ?_; rotate_left
            · (go_simp; first | done | with_reducible rfl)
            try simp only [Act.put, List.setIfInBounds_toArray, List.set_cons_zero, List.set_cons_succ]
            refine btake 3 (oi := _) (v := ?_) (by simp only [getElem?_toArray, getElem?_cons_succ, getElem?_cons_zero]; rfl) (by kernel_rfl) (by exact fun _ _ _ h => h) (by first | assumption | exact KB.refl _) (.inl ⟨by rfl, fun W hW => ?_⟩) ?_; rotate_left
            · (go_simp; first | done | with_reducible rfl)
            try simp only [Act.put, List.setIfInBounds_toArray, List.set_cons_zero, List.set_cons_succ]
            refine btake 4 (oi := _) (v := ?_) (by simp only [getElem?_toArray, getElem?_cons_succ, getElem?_cons_zero]; rfl) (by kernel_rfl) (by exact fun _ _ _ h => h) (by first | assumption | exact KB.refl _) (.inl ⟨by rfl, fun W hW => ?_⟩) ?_; rotate_left
            · (go_simp; first | done | with_reducible rfl)
            try simp only [Act.put, List.setIfInBounds_toArray, List.set_cons_zero, List.set_cons_succ]
            refine btake 5 (oi := _) (v := ?_) (by simp only [getElem?_toArray, getElem?_cons_succ, getElem?_cons_zero]; rfl) (by kernel_rfl) (by exact fun _ _ _ h => h) (by first | assumption | exact KB.refl _) (.inl ⟨by rfl, fun W hW => ?_⟩) ?_; rotate_left
            · (go_simp; first | done | with_reducible rfl)
            try simp only [Act.put, List.setIfInBounds_toArray, List.set_cons_zero, List.set_cons_succ]
            refine btake 6 (oi := _) (v := ?_) (by simp only [getElem?_toArray, getElem?_cons_succ, getElem?_cons_zero]; rfl) (by kernel_rfl) (by exact fun _ _ _ h => h) (by first | assumption | exact KB.refl _) (.inl ⟨by rfl, fun W hW => ?_⟩) ?_; rotate_left
            · (go_simp; first | done | with_reducible rfl)
            try simp only [Act.put, List.setIfInBounds_toArray, List.set_cons_zero, List.set_cons_succ]
            refine btake 7 (oi := _) (v := ?_) (by simp only [getElem?_toArray, getElem?_cons_succ, getElem?_cons_zero]; rfl) (by kernel_rfl) (by exact fun _ _ _ h => h) (by first | assumption | exact KB.refl _) (.inl ⟨by rfl, fun W hW => ?_⟩) ?_; rotate_left
            · (go_simp; first | done | with_reducible rfl)
            try simp only [Act.put, List.setIfInBounds_toArray, List.set_cons_zero, List.set_cons_succ]
            refine btake 8 (oi := _) (v := ?_) (by simp only [getElem?_toArray, getElem?_cons_succ, getElem?_cons_zero]; rfl) (by kernel_rfl) (by exact fun _ _ _ h => h) (by first | assumption | exact KB.refl _) (.inl ⟨by rfl, fun W hW => ?_⟩) ?_; rotate_left
            · (go_simp; first | done | with_reducible rfl)
            try simp only [Act.put, List.setIfInBounds_toArray, List.set_cons_zero, List.set_cons_succ]
            refine btake 9 (oi := _) (v := ?_) (by simp only [getElem?_toArray, getElem?_cons_succ, getElem?_cons_zero]; rfl) (by kernel_rfl) (by exact fun _ _ _ h => h) (by first | assumption | exact KB.refl _) (.inl ⟨by rfl, fun W hW => ?_⟩) ?_; rotate_left
            · (go_simp; first | done | with_reducible rfl)
            try simp only [Act.put, List.setIfInBounds_toArray, List.set_cons_zero, List.set_cons_succ]
            refine btake 10 (oi := _) (v := ?_) (by simp only [getElem?_toArray, getElem?_cons_succ, getElem?_cons_zero]; rfl) (by kernel_rfl) (by exact fun _ _ _ h => h) (by first | assumption | exact KB.refl _) (.inl ⟨by rfl, fun W hW => ?_⟩) ?_; rotate_left
            · (go_simp; first | done | with_reducible rfl)
            try simp only [Act.put, List.setIfInBounds_toArray, List.set_cons_zero, List.set_cons_succ]
            refine btake 11 (oi := _) (v := ?_) (by simp only [getElem?_toArray, getElem?_cons_succ, getElem?_cons_zero]; rfl) (by kernel_rfl) (by exact fun _ _ _ h => h) (by first | assumption | exact KB.refl _) (.inl ⟨by rfl, fun W hW => ?_⟩) ?_; rotate_left
            · (go_simp; first | done | with_reducible rfl)
            try simp only [Act.put, List.setIfInBounds_toArray, List.set_cons_zero, List.set_cons_succ]
            refine bdone (by kernel_rfl) ?_
            have hcut := hS.cut 2 (c2 * 2) (by rw [rv_len]; omega)
            rw [show (rv bs).drop 2 = rv t by rw [hbs]; rfl] at hcut
            have HCU := Lib.hid hcut
            have hbt : t.length = m - 1 := by rw [hbs] at hbl; simp at hbl; omega
            have HT := Lib.hid (And.intro hbt (And.intro hdw (fun r hr => hokb r (by rw [hbs]; exact .tail _ hr))))
            replace hown := hown.below (Below.refl _ _).drew
            replace hst := hst.below (Below.refl _ _).drew
            replace hbq := hbq.drew
            have HF := Lib.hid (And.intro hown (And.intro hst hbq))
            have hm2 : (1 : Int) ≤ (m : Int) := by omega
            have hm3 : (m : Int) ≤ (c2 : Int) := by omega
            clear hown hst hbq hcut hbt hdw hyr e1 e2 d1 hbs hokb
            go_wp2_with fail
            go_roundw
            case rel =>
              refine ⟨_, m - 1, c2 - 1, t, rfl, ?_, HT.out.1, by omega, by omega, HT.out.2.2, HT.out.2.1, HF.out.1, HF.out.2.1, HF.out.2.2⟩
              have h9 := HCU.out
              by_cases hc9 : c2 = 1
              · rw [if_pos (by omega)] at h9; rw [if_pos hc9]; exact h9
              · rw [if_neg (by omega)] at h9; rw [if_neg hc9]; exact h9
            case measure => simp [slLen]; omega
          · have dy : decide (y.b < ra) = false := by rw [decide_eq_false_iff_not]; exact hyr
            rw [hbs, List.dropWhile_cons_of_neg (by simpa using hyr), ← hbs] at hdw
            subst hdw
            have hmn := HMN.out
            rw [← List.append_assoc] at hmn
            go_wp2_with fail
            refine bstart (by kernel_rfl) ?_
            refine btake 0 (oi := _) (v := ?_) (by simp only [List.getElem?_toArray, List.getElem?_cons_zero]; rfl) (by kernel_rfl) (by exact fun _ _ _ h => h) (by first | assumption | exact KB.refl _) (.inl ⟨by rfl, fun W hW => ?_⟩) ?_; rotate_left
            · (go_simp; first | done | with_reducible rfl)
            try simp only [Act.put, List.setIfInBounds_toArray, List.set_cons_zero, List.set_cons_succ]
            refine btake 1 (oi := _) (v := ?_) (by simp only [getElem?_toArray, getElem?_cons_succ, getElem?_cons_zero]; rfl) (by kernel_rfl) (by exact fun _ _ _ h => h) (by first | assumption | exact KB.refl _) (.inl ⟨by rfl, fun W hW => ?_⟩) ?_; rotate_left
            · (go_simp; first | done | with_reducible rfl)
            try simp only [Act.put, List.setIfInBounds_toArray, List.set_cons_zero, List.set_cons_succ]
            refine btake 2 (oi := _) (v := ?_) (by simp only [getElem?_toArray, getElem?_cons_succ, getElem?_cons_zero]; rfl) (by kernel_rfl) (by exact fun _ _ _ h => h) (by first | assumption | exact KB.refl _) (.inl ⟨by rfl, fun W hW => ?_⟩) ?_; rotate_left
            · (go_simp; first | done | with_reducible rfl)
            try simp only [Act.put, List.setIfInBounds_toArray, List.set_cons_zero, List.set_cons_succ]
            refine btake 3 (oi := _) (v := ?_) (by simp only [getElem?_toArray, getElem?_cons_succ, getElem?_cons_zero]; rfl) (by kernel_rfl) (by exact fun _ _ _ h => h) (by first | assumption | exact KB.refl _) (.inl ⟨by rfl, fun W hW => ?_⟩) ?_; rotate_left
            · (go_simp; first | done | with_reducible rfl)
            try simp only [Act.put, List.setIfInBounds_toArray, List.set_cons_zero, List.set_cons_succ]
            refine btake 4 (oi := _) (v := ?_) (by simp only [getElem?_toArray, getElem?_cons_succ, getElem?_cons_zero]; rfl) (by kernel_rfl) (by exact fun _ _ _ h => h) (by first | assumption | exact KB.refl _) (.inl ⟨by rfl, fun W hW => ?_⟩) ?_; rotate_left
            · (go_simp; first | done | with_reducible rfl)
            try simp only [Act.put, List.setIfInBounds_toArray, List.set_cons_zero, List.set_cons_succ]
            refine btake 5 (oi := _) (v := ?_) (by simp only [getElem?_toArray, getElem?_cons_succ, getElem?_cons_zero]; rfl) (by kernel_rfl) (by exact fun _ _ _ h => h) (by first | assumption | exact KB.refl _) (.inl ⟨by rfl, fun W hW => ?_⟩) ?_; rotate_left
            · (go_simp; first | done | with_reducible rfl)
            try simp only [Act.put, List.setIfInBounds_toArray, List.set_cons_zero, List.set_cons_succ]
            refine btake 6 (oi := _) (v := ?_) (by simp only [getElem?_toArray, getElem?_cons_succ, getElem?_cons_zero]; rfl) (by kernel_rfl) (by exact fun _ _ _ h => h) (by first | assumption | exact KB.refl _) (.inl ⟨by rfl, fun W hW => ?_⟩) ?_; rotate_left
            · (go_simp; first | done | with_reducible rfl)
            try simp only [Act.put, List.setIfInBounds_toArray, List.set_cons_zero, List.set_cons_succ]
            refine btake 7 (oi := _) (v := ?_) (by simp only [getElem?_toArray, getElem?_cons_succ, getElem?_cons_zero]; rfl) (by kernel_rfl) (by exact fun _ _ _ h => h) (by first | assumption | exact KB.refl _) (.inl ⟨by rfl, fun W hW => ?_⟩) ?_; rotate_left
            · (go_simp; first | done | with_reducible rfl)
            try simp only [Act.put, List.setIfInBounds_toArray, List.set_cons_zero, List.set_cons_succ]
            refine btake 8 (oi := _) (v := ?_) (by simp only [getElem?_toArray, getElem?_cons_succ, getElem?_cons_zero]; rfl) (by kernel_rfl) (by exact fun _ _ _ h => h) (by first | assumption | exact KB.refl _) (.inl ⟨by rfl, fun W hW => ?_⟩) ?_; rotate_left
            · (go_simp; first | done | with_reducible rfl)
            try simp only [Act.put, List.setIfInBounds_toArray, List.set_cons_zero, List.set_cons_succ]
            refine btake 9 (oi := _) (v := ?_) (by simp only [getElem?_toArray, getElem?_cons_succ, getElem?_cons_zero]; rfl) (by kernel_rfl) (by exact fun _ _ _ h => h) (by first | assumption | exact KB.refl _) (.inl ⟨by rfl, fun W hW => ?_⟩) ?_; rotate_left
            · (go_simp; first | done | with_reducible rfl)
            try simp only [Act.put, List.setIfInBounds_toArray, List.set_cons_zero, List.set_cons_succ]
            refine btake 10 (oi := _) (v := ?_) (by simp only [getElem?_toArray, getElem?_cons_succ, getElem?_cons_zero]; rfl) (by kernel_rfl) (by exact fun _ _ _ h => h) (by first | assumption | exact KB.refl _) (.inl ⟨by rfl, fun W hW => ?_⟩) ?_; rotate_left
            · (go_simp; first | done | with_reducible rfl)
            try simp only [Act.put, List.setIfInBounds_toArray, List.set_cons_zero, List.set_cons_succ]
            refine btake 11 (oi := _) (v := ?_) (by simp only [getElem?_toArray, getElem?_cons_succ, getElem?_cons_zero]; rfl) (by kernel_rfl) (by exact fun _ _ _ h => h) (by first | assumption | exact KB.refl _) (.inl ⟨by rfl, fun W hW => ?_⟩) ?_; rotate_left
            · (go_simp; first | done | with_reducible rfl)
            try simp only [Act.put, List.setIfInBounds_toArray, List.set_cons_zero, List.set_cons_succ]
            refine bdone (by kernel_rfl) ?_
            clear e1 e2 d1 hbs dy hyr
            replace hown := hown.below (Below.refl _ _).drew
            replace hst := hst.below (Below.refl _ _).drew
            replace hbq := hbq.drew
            generalize wr.drew = wq at hown hst hbq ⊢
            generalize hA2 : (some (⟨b2, o2, none⟩ : Addr)) = A2 at *
            obtain ⟨Q, hQd⟩ : ∃ Q, q ++ piece ⟨ra, rb⟩ bs = Q := ⟨_, rfl⟩
            rw [hQd] at hmn
            have HMQ := Lib.hid (show Q.length + (minP (a.drop (k + 1)) bs).length ≤ 500000000 by
              rw [← List.length_append, hmn]; exact HLM.out)
            have HQN := Lib.hid hmn
            have HMB := Lib.hid (And.intro hbl (And.intro hc2 (And.intro hcm2 hokb)))
            have HHB := Lib.hid hbl
            have HOK2 := Lib.hid hokb
            have hmL : m ≤ 9223372036854775807 := by
              have h9 := hcm2
              simp only [maxLen] at h9
              omega
            clear hmn hbl hc2 hcm2 hokb
            go_wp2_with fail
            go_loopw [5, 40] (fun x5 x40 wr => ∃ (i : Nat) (v : Int) (o : Value) (p : List Rg), i ≤ m ∧ x40 = .int .i64 (i : Int) ∧ o = x5 ∧ OwnR wr w.heap.size o p ∧ o.ownBlock ≠ some gb ∧ StandsR wr gb ⟨v, rb⟩ ∧ 1 ≤ v ∧ v ≤ 1099511627776 ∧ p ++ piece ⟨v, rb⟩ (bs.drop i) = Q ∧ Below w.heap.size w wr) (fun _ x40 _ => m - (intOf x40).toNat)
            case atStart => exact ⟨0, ra, _, q, by omega, rfl, rfl, hown, hne, hst, by omega, by omega, hQd, hbq⟩
            case round =>
              clear hown hne hst hbq hQd
              obtain ⟨i, v, x5, p, hi, rfl, rfl, hown2, hne2, hst2, hv1, hv2, hQ2, hbx⟩ := hrel
              by_cases hli : i < m
              · have hib : i < bs.length := by have := HHB.out; omega
                obtain ⟨b2, o2, hA2, _, hb2W, d0, d1⟩ := rgAt hS hib
                have hxo := HOK2.out _ (List.getElem_mem hib)
                rw [show bs[i] = bs[i]?.getD ⟨0, 0⟩ by rw [List.getElem?_eq_getElem hib]; rfl] at hxo
                rw [piece_at hib] at hQ2
                subst hA2
                replace d0 := (hbx.cell hb2W).trans d0
                replace d1 := (hbx.cell hb2W).trans d1
                generalize bs[i]?.getD ⟨0, 0⟩ = x at *
                obtain ⟨xa, xb⟩ := x
                rw [ok_iff] at hxo
                unfold mx at hxo
                simp only at hxo hQ2 d0 d1
                have hdi : decide ((i : Int) < ((m : Nat) : Int)) = true := by rw [decide_eq_true_eq]; omega
                have hi0 : (0 : Int) ≤ (i : Int) := by omega
                have hi1 : (i : Int) < ((m : Nat) : Int) := by omega
                have hbx2 := hbx.alloc hbx.size (.cells #[.int .i64 xa, .int .i64 xb] 44)
                have how2 := hown2.below (boxR wr ⟨xa, xb⟩)
                have hst3 := hst2.below (boxR wr ⟨xa, xb⟩)
                have hgw := hst2.1
                have hng5 : x5.ownBlock ≠ some wr.heap.size := fun e => by have := (hown2.lt _ e).2; omega
                have m0 := hst3.2.1
                have m1 := hst3.2.2.1
                have m2 := hst3.2.2.2.1
                clear hown2 hst2
                by_cases hgt : rb < xa
                · have dg : decide (rb < xa) = true := by rw [decide_eq_true_eq]; exact hgt
                  rw [if_pos hgt] at hQ2
                  clear hgt hxo
                  have hA0 := (At.new wr 44 #[.int .i64 xa, .int .i64 xb])
                  generalize hW : wr.alloc (.cells #[.int .i64 xa, .int .i64 xb] 44) = W at how2 hst3 hbx2 hA0 m0 m1 m2
                  generalize hgx : wr.heap.size = gx at hA0
                  have x0 := hA0.c 0 rfl
                  have t0 := hst3.2.1
                  have t1 := hst3.2.2.1
                  by_cases hvb : v ≤ rb
                  · have dv : decide (v ≤ rb) = true := by rw [decide_eq_true_eq]; exact hvb
                    have hq3 := hQ2
                    rw [if_pos hvb] at hq3
                    have how3 := how2.below (balloc (Below.refl _ _) (.cells #[.int .i64 v, .int .i64 rb] 44))
                    have hbz3 := hbx2.alloc hbx2.size (.cells #[.int .i64 v, .int .i64 rb] 44)
                    have hsl3 := Sl.oneR (W) ⟨v, rb⟩
                    have HQ3 := Lib.hid hq3
                    have HL3 := Lib.hid (show p.length + 1 ≤ 1000000000 by
                      have e3 := HMQ.out
                      rw [← hq3] at e3
                      simp only [List.length_append, List.length_cons, List.length_nil] at e3
                      omega)
                    clear hq3 hvb
                    go_wp2_with (at_builtin; refine appR rfl rfl how3 hsl3 rfl rfl rfl (by rw [List.length_singleton]; exact HL3.out) hbz3.size ?_; intro v7 w7 h7 hg7 hat7)
                    go_roundw
                    case rel => exact ⟨k + 1, _, _, c2, bs, _, _, by omega, by go_num, rfl, rfl, hS, HMB.out.1, HMB.out.2.1, HMB.out.2.2.1, HMB.out.2.2.2, h7, by rw [HQ3.out]; exact HQN.out, own_belowR hbz3 hbz3.size how3 hg7⟩
                    case measure => simp [intOf] <;> omega
                  · have dv : decide (v ≤ rb) = false := by rw [decide_eq_false_iff_not]; exact hvb
                    have hq3 := hQ2
                    rw [if_neg hvb, List.append_nil] at hq3
                    have HQ3 := Lib.hid hq3
                    have HO3 := Lib.hid how2
                    have HB3 := Lib.hid hbx2
                    clear hq3 hvb
                    go_wp2_with fail
                    go_roundw
                    case rel => exact ⟨k + 1, _, _, c2, bs, _, _, by omega, by go_num, rfl, rfl, hS, HMB.out.1, HMB.out.2.1, HMB.out.2.2.1, HMB.out.2.2.2, HO3.out, by rw [HQ3.out]; exact HQN.out, HB3.out⟩
                    case measure => simp [intOf] <;> omega

                · have dg : decide (rb < xa) = false := by rw [decide_eq_false_iff_not]; exact hgt
                  have w1' : IntKind.i64.wrap (xa - 1) = xa - 1 := by rw [IntKind.wrap_i64]; omega
                  have w2' : IntKind.i64.wrap (xb + 1) = xb + 1 := by rw [IntKind.wrap_i64]; omega
                  have hx5 : 1 ≤ xb + 1 ∧ xb + 1 ≤ 1099511627776 := by omega
                  rw [if_neg hgt, ← List.append_assoc] at hQ2
                  clear hgt
                  by_cases hga : v < xa
                  · have da : decide (v < xa) = true := by rw [decide_eq_true_eq]; exact hga
                    rw [if_pos hga] at hQ2
                    clear hga
                    have hx6 : wr.heap.size ≠ gb := by omega
                    have hA0 := (At.new wr 44 #[.int .i64 xa, .int .i64 xb])
                    have HL4 := Lib.hid (show p.length + 1 ≤ 1000000000 by
                      have e3 := HMQ.out
                      rw [← hQ2] at e3
                      simp only [List.length_append, List.length_cons, List.length_nil] at e3
                      omega)
                    have HQ4 := Lib.hid hQ2
                    have HX := Lib.hid hx5
                    have hne5 : x5.ownBlock ≠ some wr.heap.size := fun e => hng5 e
                    clear hQ2 hxo hx5
                    generalize hW : wr.alloc (.cells #[.int .i64 xa, .int .i64 xb] 44) = W at how2 hst3 hbx2 hA0 m0 m1 m2
                    generalize hgx : wr.heap.size = gx at hA0 hx6 hne5
                    have x0 := hA0.c 0 rfl
                    have x1 := hA0.c 1 rfl
                    have how4 := how2.below (boxR W ⟨v, xa - 1⟩)
                    have hst4 := hst3.below (boxR W ⟨v, xa - 1⟩)
                    have hA4 := hA0.below (boxR W ⟨v, xa - 1⟩)
                    have hbx4 := hbx2.alloc hbx2.size (.cells #[.int .i64 v, .int .i64 (xa - 1)] 44)
                    have hsl4 := Sl.oneR W ⟨v, xa - 1⟩
                    go_wp2_with (at_builtin; refine appR rfl rfl how4 hsl4 rfl rfl rfl (by rw [List.length_singleton]; exact HL4.out) hbx4.size ?_; intro v7 w7 h7 hg7 hat7; have hst7 := hst4.grown hg7 hne2; have hA7 := hA4.grown hg7 hne5; have y1 := hA7.c 1 rfl; have s0 := hst7.2.1; have s2 := hst7.2.2.2.1)
                    have hne7 : v7.ownBlock ≠ some gb := by
                      rcases hat7 with h | h
                      · rw [h]; exact hne2
                      · rw [h]; intro e; injection e with e; have h1 := hst3.1; have h2 := hst4.1; simp at h2 e; omega
                    go_roundw
                    case rel => exact ⟨i + 1, xb + 1, _, p ++ [⟨v, xa - 1⟩], by omega, by go_num, rfl, ownsRow_setCell_other h7 hne7 _, hne7, hst7.setA (xb + 1), HX.out.1, HX.out.2, HQ4.out, (own_belowR hbx4 hbx4.size how4 hg7).setCell hgb _⟩
                    case measure => simp [intOf] <;> omega
                  · have da : decide (v < xa) = false := by rw [decide_eq_false_iff_not]; exact hga
                    rw [if_neg hga, List.append_nil] at hQ2
                    have HQ4 := Lib.hid hQ2
                    have HX := Lib.hid hx5
                    have hA0 := (At.new wr 44 #[.int .i64 xa, .int .i64 xb])
                    generalize hW : wr.alloc (.cells #[.int .i64 xa, .int .i64 xb] 44) = W at how2 hst3 hbx2 hA0 m0 m1 m2
                    generalize hgx : wr.heap.size = gx at hA0
                    have x0 := hA0.c 0 rfl
                    have x1 := hA0.c 1 rfl
                    have HF4 := Lib.hid (And.intro how2 (And.intro hst3 hbx2))
                    clear hQ2 hxo hx5 hga how2 hst3 hbx2
                    go_wp2_with fail
                    go_roundw
                    case rel => exact ⟨i + 1, xb + 1, _, p, by omega, by go_num, rfl, ownsRow_setCell_other HF4.out.1 hne2 _, hne2, HF4.out.2.1.setA (xb + 1), HX.out.1, HX.out.2, HQ4.out, HF4.out.2.2.setCell hgb _⟩
                    case measure => simp [intOf] <;> omega
              · have hdi : decide ((i : Int) < ((m : Nat) : Int)) = false := by rw [decide_eq_false_iff_not]; omega
                rw [piece_end (by have := HHB.out; omega)] at hQ2
                obtain rfl : i = m := by omega
                have t0 := hst2.2.1
                have t1 := hst2.2.2.1
                by_cases hvb : v ≤ rb
                · have dv : decide (v ≤ rb) = true := by rw [decide_eq_true_eq]; exact hvb
                  have hq3 := hQ2
                  rw [if_pos hvb] at hq3
                  have how3 := hown2.below (balloc (Below.refl _ _) (.cells #[.int .i64 v, .int .i64 rb] 44))
                  have hbz3 := hbx.alloc hbx.size (.cells #[.int .i64 v, .int .i64 rb] 44)
                  have hsl3 := Sl.oneR (wr) ⟨v, rb⟩
                  have HQ3 := Lib.hid hq3
                  have HL3 := Lib.hid (show p.length + 1 ≤ 1000000000 by
                    have e3 := HMQ.out
                    rw [← hq3] at e3
                    simp only [List.length_append, List.length_cons, List.length_nil] at e3
                    omega)
                  clear hq3 hvb
                  go_wp2_with (at_builtin; refine appR rfl rfl how3 hsl3 rfl rfl rfl (by rw [List.length_singleton]; exact HL3.out) hbz3.size ?_; intro v7 w7 h7 hg7 hat7)
                  go_roundw
                  case rel => exact ⟨k + 1, _, _, c2, bs, _, _, by omega, by go_num, rfl, rfl, hS, HMB.out.1, HMB.out.2.1, HMB.out.2.2.1, HMB.out.2.2.2, h7, by rw [HQ3.out]; exact HQN.out, own_belowR hbz3 hbz3.size how3 hg7⟩
                  case measure => simp [intOf] <;> omega
                · have dv : decide (v ≤ rb) = false := by rw [decide_eq_false_iff_not]; exact hvb
                  have hq3 := hQ2
                  rw [if_neg hvb, List.append_nil] at hq3
                  have HQ3 := Lib.hid hq3
                  have HO3 := Lib.hid hown2
                  have HB3 := Lib.hid hbx
                  clear hq3 hvb
                  go_wp2_with fail
                  go_roundw
                  case rel => exact ⟨k + 1, _, _, c2, bs, _, _, by omega, by go_num, rfl, rfl, hS, HMB.out.1, HMB.out.2.1, HMB.out.2.2.1, HMB.out.2.2.2, HO3.out, by rw [HQ3.out]; exact HQN.out, HB3.out⟩
                  case measure => simp [intOf] <;> omega
    · obtain rfl : k = n := by omega
      have hdk : decide ((k : Int) < (k : Int)) = false := by rw [decide_eq_false_iff_not]; omega
      rw [List.drop_eq_nil_of_le (by have := HN.out.1; omega), minP, List.append_nil, HM.out] at hmn0
      subst hmn0
      have HF := Lib.hid hown0
      clear hown0
      go_wp2_with fail
      go_ret
      exact RAns.of HF.out hbel
end Go.Proofs.Ytaflikgdlkaefaa
