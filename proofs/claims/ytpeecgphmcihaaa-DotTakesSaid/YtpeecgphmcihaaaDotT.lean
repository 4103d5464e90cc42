/- Dots: a dot taken from bytes. -/
import Derived.Test.YtpeecgphmcihaaaDotB
namespace Go.Proofs.Ytpeecgphmcihaaa
open Go.RowKit Go.Proofs.Ytpeecgphmcihaaa.Pl Go.Proofs.Ytpeecgphmcihaaa.Dt

def TakeDPost (w : World) (l : List UInt8) (e : Ending) (w' : World) : Prop :=
  e = .returned (.tuple #[(takeD l).1.v, .int .i64 ((takeD l).2.1 : Int), .int .i64 ((takeD l).2.2 : Int)]) ∧ Below w.heap.size w w'
theorem takeD_big {x : UInt8} {t : List UInt8} (h : 64 ≤ x.toNat) : takeD (x :: t) = (⟨0, 0⟩, 0, 21) := by rw [takeD, if_pos h]
theorem takeD_e {x : UInt8} {t : List UInt8} {v k e : Nat} (h : ¬ 64 ≤ x.toNat) (ht : takeS t = (v, k, e)) (he : e ≠ 0) : takeD (x :: t) = (⟨0, 0⟩, 0, e) := by rw [takeD]; simp only [ht]; rw [if_neg h, if_pos he]
theorem takeD_v {x : UInt8} {t : List UInt8} {v k : Nat} (h : ¬ 64 ≤ x.toNat) (ht : takeS t = (v, k, 0)) (hv : v < 1 ∨ v > 1099511627775) : takeD (x :: t) = (⟨0, 0⟩, 0, 21) := by rw [takeD]; simp only [ht]; rw [if_neg h, if_neg (by simp), if_pos hv]
theorem takeD_y {x : UInt8} {t : List UInt8} {v k : Nat} (h : ¬ 64 ≤ x.toNat) (ht : takeS t = (v, k, 0)) (hv : ¬ (v < 1 ∨ v > 1099511627775)) : takeD (x :: t) = (⟨(x.toNat : Int), (v : Int)⟩, k + 1, 0) := by rw [takeD]; simp only [ht]; rw [if_neg h, if_neg (by simp), if_neg hv]
theorem takeS_nil : takeS [] = (0, 0, 20) := by decide
theorem takeD_nil : takeD [] = (⟨0, 0⟩, 0, 20) := rfl
set_option maxRecDepth 100000 in
set_option maxHeartbeats 3200000 in
theorem DTake_any (w : World) (A : Option Addr) (n c : Nat) (l : List UInt8) (hb : Sl w w.heap.size A (bv l)) (h0 : n = l.length) (hc : n ≤ c) (hcm : c ≤ maxLen) :
    Calls Try.prog 20 #[.slice A n c] w (TakeDPost w l) := by
  cases l with
  | nil =>
    rw [List.length_nil] at h0
    subst h0
    go_enter Try.func20, Try.ntmps20
    go_wp2_with fail
    exact bodyPost_ret (v := .tuple #[.agg #[.int .i64 0, .int .i64 0], .int .i64 0, .int .i64 20]) (by simp [results, Try.results20, go_sem]) rfl ⟨by rw [takeD_nil]; rfl, (Below.refl _ _).alloc (Nat.le_refl _) _⟩
  | cons x t =>
    obtain ⟨b, o, rfl, _, hbw, hcl⟩ := hb.at_ (k := 0) (by simp)
    have c0 := hcl 0 _ (show (bv (x :: t))[0]? = some (.int .u8 (x.toNat : Int)) from rfl)
    rw [Nat.add_zero] at c0
    clear hcl
    have hn0 : ((n : Int) == 0) = false := by rw [beq_eq_false_iff_ne]; simp at h0; omega
    have hn1 : (0 : Int) < (n : Int) := by simp at h0; omega
    have hn2 : 0 < n := by simp at h0; omega
    have hx8 := x.toNat_lt
    by_cases hx : 64 ≤ x.toNat
    · have hT := Lib.hid (takeD_big (t := t) hx)
      generalize x.toNat = X at *
      have hd : decide ((64 : Int) ≤ (X : Int)) = true := by rw [decide_eq_true_eq]; omega
      go_enter Try.func20, Try.ntmps20
      go_wp2_with fail
      exact bodyPost_ret (v := .tuple #[.agg #[.int .i64 0, .int .i64 0], .int .i64 0, .int .i64 21]) (by simp [results, Try.results20, go_sem]) rfl ⟨by rw [hT.out]; rfl, (Below.refl _ _).alloc (Nat.le_refl _) _⟩
    · obtain ⟨⟨v, k, e⟩, ht⟩ : ∃ r, takeS t = r := ⟨_, rfl⟩
      have hcut := hb.cut 1 c (by simp at h0 ⊢; omega)
      have hdt : (bv (x :: t)).drop 1 = bv t := rfl
      rw [hdt] at hcut
      clear hdt
      have hT1 := takeD_e (x := x) (t := t) (v := v) (k := k) (e := e) hx ht
      have hT2 := fun he : e = 0 => takeD_v (x := x) (t := t) (v := v) (k := k) hx (he ▸ ht)
      have hT3 := fun he : e = 0 => takeD_y (x := x) (t := t) (v := v) (k := k) hx (he ▸ ht)
      have hTT := Lib.hid (And.intro hT1 (And.intro hT2 hT3))
      clear hT1 hT2 hT3
      have hlt : n - 1 = t.length := by rw [h0]; rfl
      have hkt : e = 0 → k + 1 ≤ n := fun he => by
        have := takeS_ok t (by rw [ht]; exact he)
        rw [ht] at this
        have := this.2.2.1
        simp only at this
        omega
      obtain ⟨A2, hA2⟩ : ∃ A2, (if c = 1 then some (⟨b, o, none⟩ : Addr) else (some (⟨b, o, none⟩ : Addr)).map (·.add 1)) = A2 := ⟨_, rfl⟩
      rw [hA2] at hcut
      have HT : RowKit.Hid (∀ cc, n - 1 ≤ cc → cc ≤ maxLen → Calls Try.prog 32 #[.slice A2 (n - 1) cc] (w.alloc (.cells #[.int .i64 0, .int .i64 0] 23)) fun e' w' => e' = .returned (.tuple #[.int .u64 (v : Int), .int .i64 (k : Int), .int .i64 (e : Int)]) ∧ (w.alloc (.cells #[.int .i64 0, .int .i64 0] 23)) = w') := by
        intro cc h1 h2
        have h := Take_any (w.alloc (.cells #[.int .i64 0, .int .i64 0] 23)) _ A2 cc t (hcut.alloc _) (by omega) h2
        rw [ht, ← hlt] at h
        exact h
      have hAe : (c = 1 ∧ A2 = some (⟨b, o, none⟩ : Addr)) ∨ (¬ c = 1 ∧ A2 = some (⟨b, o + 1, none⟩ : Addr)) := by
        by_cases h : c = 1
        · rw [if_pos h] at hA2; exact .inl ⟨h, hA2.symm⟩
        · rw [if_neg h] at hA2; exact .inr ⟨h, hA2.symm⟩
      have hd : decide ((64 : Int) ≤ (x.toNat : Int)) = false := by rw [decide_eq_false_iff_not]; omega
      have hk1 : (1 : Int) ≤ (n : Int) := by omega
      have hk2 : 1 ≤ n := by omega
      have HC := Lib.hid (And.intro hc hcm)
      have HX := Lib.hid (show x.toNat < 64 by omega)
      clear hcut hA2 ht hb h0 hlt hx hn1 hn2 hx8 hcm
      generalize x.toNat = X at *
      by_cases he : e = 0
      · have hk9 := hkt he
        have hTa := hTT.out.2.1 he
        have hTb := hTT.out.2.2 he
        clear hkt hTT
        subst he
        by_cases hv : v < 1 ∨ v > 1099511627775
        · have hR := Lib.hid (hTa hv)
          clear hTa hTb
          rcases hv with hv | hv
          · have hv1 : decide ((v : Int) < 1) = true := by rw [decide_eq_true_eq]; omega
            clear hv
            rcases hAe with ⟨hc1, rfl⟩ | ⟨hc1, rfl⟩
            all_goals
              go_enter Try.func20, Try.ntmps20
              go_wp2_with fail
              refine (HT.out _ (by have := HC.out; omega) (by have := HC.out; omega)).mono ?_
              rintro e' w1 ⟨rfl, rfl⟩
              go_wp2_with fail
              exact bodyPost_ret (v := .tuple #[.agg #[.int .i64 0, .int .i64 0], .int .i64 0, .int .i64 21]) (by simp [results, Try.results20, go_sem]) rfl ⟨by rw [hR.out]; rfl, (Below.refl _ _).alloc (Nat.le_refl _) _⟩
          · have hv1 : decide ((v : Int) < 1) = false := by rw [decide_eq_false_iff_not]; omega
            have hv2 : decide ((1099511627775 : Int) < (v : Int)) = true := by rw [decide_eq_true_eq]; omega
            clear hv
            rcases hAe with ⟨hc1, rfl⟩ | ⟨hc1, rfl⟩
            all_goals
              go_enter Try.func20, Try.ntmps20
              go_wp2_with fail
              refine (HT.out _ (by have := HC.out; omega) (by have := HC.out; omega)).mono ?_
              rintro e' w1 ⟨rfl, rfl⟩
              go_wp2_with fail
              exact bodyPost_ret (v := .tuple #[.agg #[.int .i64 0, .int .i64 0], .int .i64 0, .int .i64 21]) (by simp [results, Try.results20, go_sem]) rfl ⟨by rw [hR.out]; rfl, (Below.refl _ _).alloc (Nat.le_refl _) _⟩
        · have hR := Lib.hid (hTb hv)
          have hv1 : decide ((v : Int) < 1) = false := by rw [decide_eq_false_iff_not]; omega
          have hv2 : decide ((1099511627775 : Int) < (v : Int)) = false := by rw [decide_eq_false_iff_not]; omega
          have hw1 : IntKind.i64.wrap (v : Int) = (v : Int) := by rw [IntKind.wrap_i64]; omega
          have hw2 : IntKind.i64.wrap ((k : Int) + 1) = (k : Int) + 1 := by have := HC.out; simp only [maxLen] at this; rw [IntKind.wrap_i64]; omega
          have hw3 : IntKind.i64.wrap (X : Int) = (X : Int) := by have := HX.out; rw [IntKind.wrap_i64]; omega
          clear hTa hTb hv
          rcases hAe with ⟨hc1, rfl⟩ | ⟨hc1, rfl⟩
          all_goals
            go_enter Try.func20, Try.ntmps20
            go_wp2_with fail
            refine (HT.out _ (by have := HC.out; omega) (by have := HC.out; omega)).mono ?_
            rintro e' w1 ⟨rfl, rfl⟩
            go_wp2_with fail
            exact bodyPost_ret (v := .tuple #[.agg #[.int .i64 (X : Int), .int .i64 (v : Int)], .int .i64 ((k : Int) + 1), .int .i64 0]) (by simp [results, Try.results20, go_sem]) rfl ⟨by rw [hR.out]; rfl, (Below.refl _ _).alloc (Nat.le_refl _) _⟩
      · have hR := Lib.hid (hTT.out.1 he)
        have he1 : ((e : Int) != 0) = true := by rw [bne_iff_ne]; omega
        clear hTT hkt he
        rcases hAe with ⟨hc1, rfl⟩ | ⟨hc1, rfl⟩
        all_goals
          go_enter Try.func20, Try.ntmps20
          go_wp2_with fail
          refine (HT.out _ (by have := HC.out; omega) (by have := HC.out; omega)).mono ?_
          rintro e' w1 ⟨rfl, rfl⟩
          go_wp2_with fail
          exact bodyPost_ret (v := .tuple #[.agg #[.int .i64 0, .int .i64 0], .int .i64 0, .int .i64 (e : Int)]) (by simp [results, Try.results20, go_sem]) rfl ⟨by rw [hR.out]; rfl, (Below.refl _ _).alloc (Nat.le_refl _) _⟩
set_option maxRecDepth 100000 in
set_option maxHeartbeats 3200000 in
theorem RDTake_any (w : World) (A : Option Addr) (n c : Nat) (l : List UInt8) (hb : Sl w w.heap.size A (bv l)) (h0 : n = l.length) (hc : n ≤ c) (hcm : c ≤ maxLen) :
    Calls Try.prog 21 #[.slice A n c] w (TakeDPost w l) := by
  cases l with
  | nil =>
    rw [List.length_nil] at h0
    subst h0
    go_enter Try.func21, Try.ntmps21
    go_wp2_with fail
    exact bodyPost_ret (v := .tuple #[.agg #[.int .i64 0, .int .i64 0], .int .i64 0, .int .i64 20]) (by simp [results, Try.results21, go_sem]) rfl ⟨by rw [takeD_nil]; rfl, (Below.refl _ _).alloc (Nat.le_refl _) _⟩
  | cons x t =>
    obtain ⟨b, o, rfl, _, hbw, hcl⟩ := hb.at_ (k := 0) (by simp)
    have c0 := hcl 0 _ (show (bv (x :: t))[0]? = some (.int .u8 (x.toNat : Int)) from rfl)
    rw [Nat.add_zero] at c0
    clear hcl
    have hn0 : ((n : Int) == 0) = false := by rw [beq_eq_false_iff_ne]; simp at h0; omega
    have hn1 : (0 : Int) < (n : Int) := by simp at h0; omega
    have hn2 : 0 < n := by simp at h0; omega
    have hx8 := x.toNat_lt
    by_cases hx : 64 ≤ x.toNat
    · have hT := Lib.hid (takeD_big (t := t) hx)
      generalize x.toNat = X at *
      have hd : decide ((64 : Int) ≤ (X : Int)) = true := by rw [decide_eq_true_eq]; omega
      go_enter Try.func21, Try.ntmps21
      go_wp2_with fail
      exact bodyPost_ret (v := .tuple #[.agg #[.int .i64 0, .int .i64 0], .int .i64 0, .int .i64 21]) (by simp [results, Try.results21, go_sem]) rfl ⟨by rw [hT.out]; rfl, (Below.refl _ _).alloc (Nat.le_refl _) _⟩
    · obtain ⟨⟨v, k, e⟩, ht⟩ : ∃ r, takeS t = r := ⟨_, rfl⟩
      have hcut := hb.cut 1 c (by simp at h0 ⊢; omega)
      have hdt : (bv (x :: t)).drop 1 = bv t := rfl
      rw [hdt] at hcut
      clear hdt
      have hT1 := takeD_e (x := x) (t := t) (v := v) (k := k) (e := e) hx ht
      have hT2 := fun he : e = 0 => takeD_v (x := x) (t := t) (v := v) (k := k) hx (he ▸ ht)
      have hT3 := fun he : e = 0 => takeD_y (x := x) (t := t) (v := v) (k := k) hx (he ▸ ht)
      have hTT := Lib.hid (And.intro hT1 (And.intro hT2 hT3))
      clear hT1 hT2 hT3
      have hlt : n - 1 = t.length := by rw [h0]; rfl
      have hkt : e = 0 → k + 1 ≤ n := fun he => by
        have := takeS_ok t (by rw [ht]; exact he)
        rw [ht] at this
        have := this.2.2.1
        simp only at this
        omega
      obtain ⟨A2, hA2⟩ : ∃ A2, (if c = 1 then some (⟨b, o, none⟩ : Addr) else (some (⟨b, o, none⟩ : Addr)).map (·.add 1)) = A2 := ⟨_, rfl⟩
      rw [hA2] at hcut
      have HT : RowKit.Hid (∀ cc, n - 1 ≤ cc → cc ≤ maxLen → Calls Try.prog 33 #[.slice A2 (n - 1) cc] (w.alloc (.cells #[.int .i64 0, .int .i64 0] 23)) fun e' w' => e' = .returned (.tuple #[.int .u64 (v : Int), .int .i64 (k : Int), .int .i64 (e : Int)]) ∧ (w.alloc (.cells #[.int .i64 0, .int .i64 0] 23)) = w') := by
        intro cc h1 h2
        have h := RefTake_any (w.alloc (.cells #[.int .i64 0, .int .i64 0] 23)) _ A2 cc t (hcut.alloc _) (by omega) h2
        rw [ht, ← hlt] at h
        exact h
      have hAe : (c = 1 ∧ A2 = some (⟨b, o, none⟩ : Addr)) ∨ (¬ c = 1 ∧ A2 = some (⟨b, o + 1, none⟩ : Addr)) := by
        by_cases h : c = 1
        · rw [if_pos h] at hA2; exact .inl ⟨h, hA2.symm⟩
        · rw [if_neg h] at hA2; exact .inr ⟨h, hA2.symm⟩
      have hd : decide ((64 : Int) ≤ (x.toNat : Int)) = false := by rw [decide_eq_false_iff_not]; omega
      have hk1 : (1 : Int) ≤ (n : Int) := by omega
      have hk2 : 1 ≤ n := by omega
      have HC := Lib.hid (And.intro hc hcm)
      have HX := Lib.hid (show x.toNat < 64 by omega)
      clear hcut hA2 ht hb h0 hlt hx hn1 hn2 hx8 hcm
      generalize x.toNat = X at *
      by_cases he : e = 0
      · have hk9 := hkt he
        have hTa := hTT.out.2.1 he
        have hTb := hTT.out.2.2 he
        clear hkt hTT
        subst he
        by_cases hv : v < 1 ∨ v > 1099511627775
        · have hR := Lib.hid (hTa hv)
          clear hTa hTb
          rcases hv with hv | hv
          · have hv1 : decide ((v : Int) < 1) = true := by rw [decide_eq_true_eq]; omega
            clear hv
            rcases hAe with ⟨hc1, rfl⟩ | ⟨hc1, rfl⟩
            all_goals
              go_enter Try.func21, Try.ntmps21
              go_wp2_with fail
              refine (HT.out _ (by have := HC.out; omega) (by have := HC.out; omega)).mono ?_
              rintro e' w1 ⟨rfl, rfl⟩
              go_wp2_with fail
              exact bodyPost_ret (v := .tuple #[.agg #[.int .i64 0, .int .i64 0], .int .i64 0, .int .i64 21]) (by simp [results, Try.results21, go_sem]) rfl ⟨by rw [hR.out]; rfl, (Below.refl _ _).alloc (Nat.le_refl _) _⟩
          · have hv1 : decide ((v : Int) < 1) = false := by rw [decide_eq_false_iff_not]; omega
            have hv2 : decide ((1099511627775 : Int) < (v : Int)) = true := by rw [decide_eq_true_eq]; omega
            clear hv
            rcases hAe with ⟨hc1, rfl⟩ | ⟨hc1, rfl⟩
            all_goals
              go_enter Try.func21, Try.ntmps21
              go_wp2_with fail
              refine (HT.out _ (by have := HC.out; omega) (by have := HC.out; omega)).mono ?_
              rintro e' w1 ⟨rfl, rfl⟩
              go_wp2_with fail
              exact bodyPost_ret (v := .tuple #[.agg #[.int .i64 0, .int .i64 0], .int .i64 0, .int .i64 21]) (by simp [results, Try.results21, go_sem]) rfl ⟨by rw [hR.out]; rfl, (Below.refl _ _).alloc (Nat.le_refl _) _⟩
        · have hR := Lib.hid (hTb hv)
          have hv1 : decide ((v : Int) < 1) = false := by rw [decide_eq_false_iff_not]; omega
          have hv2 : decide ((1099511627775 : Int) < (v : Int)) = false := by rw [decide_eq_false_iff_not]; omega
          have hw1 : IntKind.i64.wrap (v : Int) = (v : Int) := by rw [IntKind.wrap_i64]; omega
          have hw2 : IntKind.i64.wrap ((k : Int) + 1) = (k : Int) + 1 := by have := HC.out; simp only [maxLen] at this; rw [IntKind.wrap_i64]; omega
          have hw3 : IntKind.i64.wrap (X : Int) = (X : Int) := by have := HX.out; rw [IntKind.wrap_i64]; omega
          clear hTa hTb hv
          rcases hAe with ⟨hc1, rfl⟩ | ⟨hc1, rfl⟩
          all_goals
            go_enter Try.func21, Try.ntmps21
            go_wp2_with fail
            refine (HT.out _ (by have := HC.out; omega) (by have := HC.out; omega)).mono ?_
            rintro e' w1 ⟨rfl, rfl⟩
            go_wp2_with fail
            exact bodyPost_ret (v := .tuple #[.agg #[.int .i64 (X : Int), .int .i64 (v : Int)], .int .i64 ((k : Int) + 1), .int .i64 0]) (by simp [results, Try.results21, go_sem]) rfl ⟨by rw [hR.out]; rfl, (Below.refl _ _).alloc (Nat.le_refl _) _⟩
      · have hR := Lib.hid (hTT.out.1 he)
        have he1 : ((e : Int) != 0) = true := by rw [bne_iff_ne]; omega
        clear hTT hkt he
        rcases hAe with ⟨hc1, rfl⟩ | ⟨hc1, rfl⟩
        all_goals
          go_enter Try.func21, Try.ntmps21
          go_wp2_with fail
          refine (HT.out _ (by have := HC.out; omega) (by have := HC.out; omega)).mono ?_
          rintro e' w1 ⟨rfl, rfl⟩
          go_wp2_with fail
          exact bodyPost_ret (v := .tuple #[.agg #[.int .i64 0, .int .i64 0], .int .i64 0, .int .i64 (e : Int)]) (by simp [results, Try.results21, go_sem]) rfl ⟨by rw [hR.out]; rfl, (Below.refl _ _).alloc (Nat.le_refl _) _⟩
end Go.Proofs.Ytpeecgphmcihaaa

