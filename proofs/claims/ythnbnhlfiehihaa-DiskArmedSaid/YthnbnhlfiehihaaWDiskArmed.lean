/- 'DiskArmed': the walk of the law. -/
import Derived.Test.YthnbnhlfiehihaaDkH
import Derived.Test.YthnbnhlfiehihaaSlB
import Derived.Test.YthnbnhlfiehihaaRegZ
namespace Go.Proofs.Ythnbnhlfiehihaa
open Go.RowKit Go.Maps
set_option maxRecDepth 20000

theorem ds_ok {c a k : Int} {b : List UInt8} {su n : Nat} (hb : b.length ≤ 1000) (hs : su ≤ b.length) (ha : 0 ≤ a) (ha1 : a ≤ 1000) (hk : 0 ≤ k) (hk1 : k ≤ 1000) (hc : 1 ≤ c) (hcn : c ≤ n) : (DS c a k b su).ok n :=
  ⟨by simp [DS], by simp [DS, RiseN], by simpa [DS] using hs, by simpa [DS, used1] using hb, ha, by simp only [DS]; omega, by simp only [DS]; omega, by simp only [DS]; omega, by simpa [DS] using hc, hcn⟩
theorem do_ok {c k : Int} {b : List UInt8} {su n : Nat} (hb : b.length ≤ 1000) (hs : su ≤ b.length) (hk : 0 ≤ k) (hk1 : k ≤ 1000) (hc : 1 ≤ c) (hcn : c ≤ n) : (DO c k b su).ok n :=
  ⟨by simp [DO], by simp [DO, RiseN], by simpa [DO] using hs, by simpa [DO, used1] using hb, by simp [DO], by simp [DO], by simp only [DO]; omega, by simp only [DO]; omega, by simpa [DO] using hc, hcn⟩
set_option maxRecDepth 100000 in
set_option maxHeartbeats 16000000 in
theorem DiskArmed_walk (w : World) (A0 : Option Addr) (c0 : Nat) (l0 : List UInt8) (s0 : Sl w w.heap.size A0 (bv l0)) (hc0 : l0.length ≤ c0) (hm0 : c0 ≤ 140737488351232) (A1 : Option Addr) (c1 : Nat) (l1 : List UInt8) (s1 : Sl w w.heap.size A1 (bv l1)) (hc1 : l1.length ≤ c1) (hm1 : c1 ≤ 140737488351232)
    (nn : Nat) (hnn : nn < 256) (kk : Nat) (hkk : kk < 256) (pick : Int) (hpick : -9223372036854775808 ≤ pick ∧ pick ≤ 9223372036854775807) :
    Calls Try.prog 3 #[.slice A0 l0.length c0, .slice A1 l1.length c1, .int .u8 (nn : Int), .int .u8 (kk : Int), .int .i64 pick] w fun e w' => e = .returned (.bool true) ∧ Below w.heap.size w w' := by
  have hK := known_any w
  obtain ⟨n0, hn0⟩ : ∃ n, l0.length = n := ⟨_, rfl⟩
  obtain ⟨n1, hn1⟩ : ∃ n, l1.length = n := ⟨_, rfl⟩
  rw [hn0] at hc0 ⊢
  rw [hn1] at hc1 ⊢
  have HL := Lib.hid (And.intro hn0 (And.intro hn1 (And.intro s0 s1)))
  clear hn0 hn1 s0 s1
  by_cases h0 : 200 < n0
  · have hd0 : decide ((200 : Int) < (n0 : Int)) = true := by simp; omega
    go_enter Try.func3, Try.ntmps3
    go_wp2_with (go_at_call 7; refine hK.mono ?_; rintro e w1 ⟨rfl, hb1⟩)
    go_ret
    exact ⟨rfl, hb1⟩
  have hd0 : decide ((200 : Int) < (n0 : Int)) = false := by simp; omega
  by_cases h1 : 200 < n1
  · have hd1 : decide ((200 : Int) < (n1 : Int)) = true := by simp; omega
    go_enter Try.func3, Try.ntmps3
    go_wp2_with (go_at_call 7; refine hK.mono ?_; rintro e w1 ⟨rfl, hb1⟩)
    go_ret
    exact ⟨rfl, hb1⟩
  have hd1 : decide ((200 : Int) < (n1 : Int)) = false := by simp; omega
  go_enter Try.func3, Try.ntmps3
  go_wp2_with (first
    | (go_at_call 7; refine hK.mono ?_; rintro e w1 ⟨rfl, hb1⟩)
    | (go_at_call 8; refine (New_any _ 1000).mono ?_; rintro e w2 ⟨p, F, H, rfl, hp2, hH, hb2⟩; have hFw : ∀ k, F k → w.heap.size ≤ k := (fun k hk => Nat.le_trans hb1.size (hH k (hp2.fh hk))))
    | (go_at_call 9; refine (Create_lit _ p F H 0 d0 (r := 0) rfl hp2 (DK.ok.new 1000) (by omega) (by decide)).mono ?_; rintro e w3 ⟨rfl, hp3, hg3⟩; clear hp2; have hb3 : Below w.heap.size w w3 := hg3.belowB (hb1.trans (hb2.mono hb1.size)) (Nat.le_refl _) hFw; have sl3 : Sl w3 w3.heap.size A0 (bv l0) := (HL.out.2.2.1.below' hb3).more hb3.size; have nf0 := nfOf HL.out.2.2.1 hFw)
    | (go_at_call 10; refine (Append_lit _ p F H 1 (d1 (b := l0) (by rw [HL.out.1]; omega)) (r := 0) rfl hp3 (ds_ok (by simp) (by simp) (by omega) (by omega) (by omega) (by omega) (by omega) (by omega)) (by omega) (by decide) _ _ n0 HL.out.1 (by omega) hc0 sl3 nf0).mono ?_; rintro e w4 ⟨rfl, H4, hp4, hg4⟩; clear hp3 sl3)
    | (go_at_call 11; refine (Arm_lit _ p F H4 (d2 ((nn : Int) % 8 + 1) (kk : Int) l0 (by omega)) hp4 (by omega) (by omega)).mono ?_; rintro e w5 ⟨rfl, hp5, hg5⟩; clear hp4))
  obtain ⟨m, hm, hm1, hm8⟩ : ∃ m : Nat, ((nn : Int) % 8 + 1) = (m : Int) ∧ 1 ≤ m ∧ m ≤ 8 := ⟨nn % 8 + 1, by omega, by omega, by omega⟩
  rw [hm] at hp5 ⊢
  clear hm
  have hb5 : Below w.heap.size w w5 := hg5.belowB (hg4.belowB hb3 (Nat.le_refl _) hFw) (Nat.le_refl _) hFw
  have H5 := Lib.hid (And.intro hp5 (And.intro hb5 (And.intro hFw nf0)))
  clear hp5 hb5 hFw nf0 hg5 hg4 hg3 hb3 hb2 hb1 hH hd0 hd1 hK
  go_loopw [13] (fun x13 wr => ∃ i : Nat, 1 ≤ i ∧ i ≤ m ∧ x13 = .int .i64 (i : Int) ∧ PD wr p F H4 (DS (1 + i) (m - i + 1) kk l0 (if i = 1 then 0 else n0)) ∧ Grew F w5 wr) (fun x13 _ => m - (intOf x13).toNat)
  case atStart => exact ⟨1, by omega, hm1, rfl, by rw [show ((m : Int) - ((1 : Nat) : Int) + 1) = (m : Int) from by omega]; exact H5.out.1, Grew.refl _ _⟩
  case round =>
    obtain ⟨i, hi1, hi, rfl, hp6, hg6⟩ := hrel
    have hsu : (if i = 1 then 0 else n0) ≤ l0.length := by rw [HL.out.1]; split <;> omega
    by_cases hlt : i < m
    · have hS := Sync_lit wr p F H4 (1 + i) (d3 (c := 1 + i) (a := (m : Int) - i + 1) (k := kk) (b := l0) (su := if i = 1 then 0 else n0) (by omega)) (r := 0) rfl hp6 (ds_ok (by rw [HL.out.1]; omega) hsu (by omega) (by omega) (by omega) (by omega) (by omega) (by omega)) (by omega) (by decide)
      have HG := Lib.hid hg6
      clear hp6 hsu hg6
      go_wp2_with (first
        | (go_at_call 12; refine hS.mono ?_; rintro e w7 ⟨rfl, hp7, hg7⟩; have hD := Down_lit w7 p F H4 (t := false) rfl hp7)
        | (go_at_call 13; refine hD.mono ?_; rintro e w8 ⟨rfl, rfl⟩))
      go_roundw
      case rel =>
        refine ⟨i + 1, by omega, hlt, by go_num, ?_, HG.out.trans hg7 (fun _ _ => id)⟩
        rw [if_neg (by omega), show (1 + ((i + 1 : Nat) : Int)) = 1 + (i : Int) + 1 from by omega, show ((m : Int) - ((i + 1 : Nat) : Int) + 1) = (m : Int) - i + 1 - 1 from by omega, ← HL.out.1]
        exact hp7
      case measure => simp [intOf]; omega
    · have him : i = m := by omega
      subst him
      obtain ⟨su, hsue⟩ : ∃ su, (if i = 1 then 0 else n0) = su := ⟨_, rfl⟩
      rw [hsue] at hp6 hsu
      rw [show ((i : Int) - (i : Int) + 1) = 1 from by omega] at hp6
      have HS := Lib.hid hsue
      have hb6 := hg6.belowB H5.out.2.1 (Nat.le_refl _) H5.out.2.2.1
      clear hsue hg6
      obtain ⟨KN, hmn, hKv⟩ : ∃ K : Nat, min (kk : Int) (n1 : Int) = (K : Int) ∧ K = min kk n1 := ⟨min kk n1, by omega, rfl⟩
      by_cases hi2 : i = 1
      · have hsu0 : su = 0 := by rw [← HS.out, if_pos hi2]
        have hdi : decide ((1 : Int) < (i : Int)) = false := by simp; omega
        have hall : (l0 ++ l1.take kk).length = n0 + KN := by rw [List.length_append, List.length_take, HL.out.1, HL.out.2.1]; omega
        obtain ⟨al, hal⟩ : ∃ al, l0 ++ l1.take kk = al := ⟨_, rfl⟩
        rw [hal] at hall
        have hsal : su ≤ al.length := by rw [hall]; omega
        have hKk : KN ≤ 200 := by omega
        have hwas := Calls_lit wr p F H4 (r := 1 + (i : Int)) rfl hp6
        have sl1 : Sl wr wr.heap.size A1 (bv l1) := (HL.out.2.2.2.below' hb6).more hb6.size
        have nf1 := nfOf HL.out.2.2.2 H5.out.2.2.1
        have e4 := d4 (c := 1 + (i : Int)) (k := (kk : Int)) (b := l0) (cc := l1) (su := su) (by rw [HL.out.1]; omega) (by rw [HL.out.2.1]; omega)
        rw [Int.toNat_natCast, hal] at e4
        have hal2 : l0 ++ l1.take KN = al := by
          rw [← hal]
          rcases Nat.le_total kk n1 with h | h
          · rw [hKv, Nat.min_eq_left h]
          · rw [hKv, Nat.min_eq_right h, List.take_of_length_le (by rw [HL.out.2.1]; exact Nat.le_refl _), List.take_of_length_le (by rw [HL.out.2.1]; exact h)]
        have hKn : KN ≤ n1 := by omega
        clear hKv
        have HAL := Lib.hid (And.intro hal2 (And.intro hall (And.intro hsal (And.intro e4 (And.intro sl1 (And.intro nf1 hsu0))))))
        clear hal2 hal hall hsal e4 sl1 nf1 hsu0
        go_wp2_with (first
          | (go_at_call 14; refine hwas.mono ?_; rintro e wx ⟨rfl, rfl⟩; clear hwas)
          | (go_at_call 10; refine (Append_lit _ p F H4 (1 + i) HAL.out.2.2.2.1 (r := 34) rfl hp6 (ds_ok (by rw [HL.out.1]; omega) hsu (by omega) (by omega) (by omega) (by omega) (by omega) (by omega)) (by omega) (by decide) _ _ n1 HL.out.2.1 (by omega) hc1 HAL.out.2.2.2.2.1 HAL.out.2.2.2.2.2.1).mono ?_; rintro e w7 ⟨rfl, H7, hp7, hg7⟩; have hq7 := hg7.belowB hb6 (Nat.le_refl _) H5.out.2.2.1; clear hp6; have hD7 := Down_lit w7 p F H7 (t := true) rfl hp7)
          | (go_at_call 13; refine hD7.mono ?_; rintro e wx ⟨rfl, rfl⟩; clear hD7)
          | (go_at_call 12; refine (Sync_lit _ p F H7 (1 + i) (d5 (1 + (i : Int)) (kk : Int) al su) (r := 34) rfl hp7 (do_ok (by rw [HAL.out.2.1]; omega) HAL.out.2.2.1 (by omega) (by omega) (by omega) (by omega)) (by omega) (by decide)).mono ?_; rintro e w8 ⟨rfl, hp8, hg8⟩; have hq8 := hg8.belowB hq7 (Nat.le_refl _) H5.out.2.2.1; clear hp7)
          | (go_at_call 9; refine (Create_lit _ p F H7 (1 + i) (d6 (1 + (i : Int)) (kk : Int) al su) (r := 34) rfl hp8 (do_ok (by rw [HAL.out.2.1]; omega) HAL.out.2.2.1 (by omega) (by omega) (by omega) (by omega)) (by omega) (by decide)).mono ?_; rintro e w9 ⟨rfl, hp9, hg9⟩; have hq9 := hg9.belowB hq8 (Nat.le_refl _) H5.out.2.2.1; clear hp8; have hC9 := Calls_lit w9 p F H7 (r := 1 + (i : Int)) rfl hp9)
          | (go_at_call 14; refine hC9.mono ?_; rintro e wx ⟨rfl, rfl⟩; clear hC9)
          | (go_at_call 15; refine (Read_lit _ p F H7 (1 + i) (d7 (1 + (i : Int)) (kk : Int) al su) hp9 (do_ok (by rw [HAL.out.2.1]; omega) HAL.out.2.2.1 (by omega) (by omega) (by omega) (by omega)) (by decide)).mono ?_; rintro e wa ⟨Aa, ca, rfl, _, _, hba⟩; have hpa := hp9.below hba; have hqa := hq9.trans (hba.mono hq9.size); clear hp9; have hUa := Used_lit wa p F H7 (r := (n0 : Int) + (KN : Int)) ((d13 (1 + (i : Int)) (kk : Int) al su).trans (by rw [HAL.out.2.1]; omega)) hpa; have hSa := Sure_lit wa p F H7 (x := [102]) (r := 0) ((d11 (1 + (i : Int)) (kk : Int) al su).trans (by rw [HAL.out.2.2.2.2.2.2]; rfl)) hpa (by decide); have nba := Sl.ints wa 3 [pick] (0, 0); have nza := hpa.newNF)
          | (go_at_call 16; refine hUa.mono ?_; rintro e wx ⟨rfl, rfl⟩; clear hUa)
          | (go_at_call 17; refine hSa.mono ?_; rintro e wx ⟨rfl, rfl⟩; clear hSa)
          | (go_at_call 18; refine (Crash_lit _ p F H7 (1 + i) (d8 (c := 1 + (i : Int)) (k := (kk : Int)) HAL.out.2.2.1 pick) (hpa.al _) (do_ok (by rw [HAL.out.2.1]; omega) HAL.out.2.2.1 (by omega) (by omega) (by omega) (by omega)) (by omega) _ 1 1 rfl nba (.inr nza) (by omega)).mono ?_; rintro e wb ⟨rfl, Hb, hpb, hgb⟩; have hqb := hgb.belowB (hqa.alloc hqa.size _) (Nat.le_refl _) H5.out.2.2.1; clear hpa nba nza))
        obtain ⟨Lq, hLq⟩ : ∃ Lq, su + (pick % ((al.length - su + 1 : Nat) : Int)).toNat = Lq := ⟨_, rfl⟩
        have hLa : Lq ≤ al.length := by
          have h1 := Int.emod_lt_of_pos pick (show (0 : Int) < ((al.length - su + 1 : Nat) : Int) by omega)
          have h2 := HAL.out.2.2.1
          omega
        rw [hLq] at hpb
        have HB := Lib.hid (And.intro hpb (And.intro hqb (And.intro ((HL.out.2.2.1.below' hqb).more hqb.size) (And.intro ((HL.out.2.2.2.below' hqb).more hqb.size) (And.intro hLq hLa)))))
        clear hpb hqb hLq hLa hgb hqa hq9 hq8 hq7 hba hg9 hg8 hg7 hb6
        have hKc : KN ≤ c1 := by omega
        have hS0 : KB wb.heap wb.drew := KB.refl _
        refine bstartS (KB wb.heap) (by kernel_rfl) ?_
        refine btakeS 0 (oi := _) (v := ?_) (by simp only [List.getElem?_toArray, List.getElem?_cons_zero]; rfl) (by kernel_rfl) (by exact fun _ _ _ h => h) (by first | assumption | exact KB.refl _) (.inl ⟨by rfl, fun W hW => ?_⟩) ?_; rotate_left
        · (go_simp; first | done | with_reducible rfl)
        try simp only [Act.put, List.setIfInBounds_toArray, List.set_cons_zero, List.set_cons_succ]
        refine btakeS 2 (oi := _) (v := ?_) (by simp only [List.getElem?_toArray, List.getElem?_cons_succ, List.getElem?_cons_zero]; rfl) (by kernel_rfl) (by exact fun _ _ _ h => h) (by first | assumption | exact KB.refl _) (.inl ⟨by rfl, fun W hW => ?_⟩) ?_; rotate_left
        · (go_simp; first | done | with_reducible rfl)
        try simp only [Act.put, List.setIfInBounds_toArray, List.set_cons_zero, List.set_cons_succ]
        refine btakeS 3 (oi := _) (v := ?_) (by simp only [List.getElem?_toArray, List.getElem?_cons_succ, List.getElem?_cons_zero]; rfl) (by kernel_rfl) (by exact fun _ _ _ h => h) (by first | assumption | exact KB.refl _) (.inl ⟨by rfl, fun W hW => ?_⟩) ?_; rotate_left
        · (go_simp; first | done | with_reducible rfl)
        try simp only [Act.put, List.setIfInBounds_toArray, List.set_cons_zero, List.set_cons_succ]
        refine btakeS 4 (oi := _) (v := ?_) (by simp only [List.getElem?_toArray, List.getElem?_cons_succ, List.getElem?_cons_zero]; rfl) (by kernel_rfl) (by exact fun _ _ _ h => h) (by first | assumption | exact KB.refl _) (.inl ⟨by rfl, fun W hW => ?_⟩) ?_; rotate_left
        · (go_simp; first | done | with_reducible rfl)
        try simp only [Act.put, List.setIfInBounds_toArray, List.set_cons_zero, List.set_cons_succ]
        -- 1: Op.call { callee := Callee.builtin Builtin.append, args := #[Operand.const (Value.slice none 0 0), Operand.tmp 127], argTypes := #[22, 22] }
        refine bopS 1 (o := _) (by simp only [List.getElem?_toArray, List.getElem?_cons_succ, List.getElem?_cons_zero]; rfl) (by kernel_rfl) (by rfl) (fun K hK => ?_)
        refine wp_app (by rfl) (OwnB.nil wb.drew wb.heap.size) HB.out.2.2.1 HL.out.1.symm (by rfl) (by rfl) (by rw [HL.out.1]; simp; omega) (Nat.le_refl _) ?_
        intro v1 wc hown1 hg1 hat1
        have hbc : Below wb.heap.size wb wc := own_below (Below.refl _ wb).drew (Nat.le_refl _) (OwnB.nil wb.drew wb.heap.size) hg1
        have hkb : KB wb.heap wc := KB.of hbc
        obtain ⟨A2, c2, hv2, _⟩ := hown1.form
        subst hv2
        have HC := Lib.hid (And.intro hown1 hbc)
        clear hown1 hbc hg1 hat1
        refine hK.out _ _ hkb ?_; clear hK K
        try simp only [Act.put, List.setIfInBounds_toArray, List.set_cons_zero, List.set_cons_succ]
        -- 5: Op.call { callee := Callee.builtin Builtin.append, args := #[Operand.tmp 128, Operand.tmp 131], argTypes := #[22, 22] }
        refine bopS 5 (o := _) (by simp only [List.getElem?_toArray, List.getElem?_cons_succ, List.getElem?_cons_zero]; rfl) (by kernel_rfl) (by rfl) (fun K hK => ?_)
        refine wp_app (m := KN) (c := c1) (by rfl) HC.out.1 (by rw [← bv_take]; exact (HB.out.2.2.2.1.below HC.out.2).tk KN) (by rw [List.length_take, HL.out.2.1]; omega) (by rfl) (by rfl) (by rw [List.length_append, List.length_take, HL.out.1]; simp; omega) HC.out.2.size ?_
        intro v3 wd hown3 hg3 hat3
        have hbd : Below wb.heap.size wb wd := own_below HC.out.2 HC.out.2.size HC.out.1 hg3
        have hkb : KB wb.heap wd := KB.of hbd
        rw [List.nil_append, HAL.out.1] at hown3
        obtain ⟨A3, c3, hv3, _⟩ := hown3.form
        subst hv3
        have HD := Lib.hid (And.intro hown3 hbd)
        clear hown3 hbd hg3 hat3
        refine hK.out _ _ hkb ?_; clear hK K
        try simp only [Act.put, List.setIfInBounds_toArray, List.set_cons_zero, List.set_cons_succ]
        refine btakeS 6 (oi := _) (v := ?_) (by simp only [List.getElem?_toArray, List.getElem?_cons_succ, List.getElem?_cons_zero]; rfl) (by kernel_rfl) (by exact fun _ _ _ h => h) (by first | assumption | exact KB.refl _) (.inl ⟨by rfl, fun W hW => ?_⟩) ?_; rotate_left
        · (go_simp; first | done | with_reducible rfl)
        try simp only [Act.put, List.setIfInBounds_toArray, List.set_cons_zero, List.set_cons_succ]
        refine bdoneS (by kernel_rfl) ?_
        have hpd := HB.out.1.below HD.out.2
        have hqd := HB.out.2.1.trans (HD.out.2.mono HB.out.2.1.size)
        obtain ⟨an, han⟩ : ∃ an, al.length = an := ⟨_, rfl⟩
        obtain ⟨D, hD⟩ : ∃ D, an - su = D := ⟨_, rfl⟩
        have hDs : an = D := by have h1 := HAL.out.2.2.2.2.2.2; have h2 := HAL.out.2.1; omega
        have hLi : 0 + pick % ((D + 1 : Nat) : Int) = (Lq : Int) := by
          have h1 := HB.out.2.2.2.2.1
          rw [han, hD] at h1
          have h2 := Int.emod_nonneg pick (show ((D + 1 : Nat) : Int) ≠ 0 by omega)
          have h3 := HAL.out.2.2.2.2.2.2
          omega
        have hP := fun W => Place_any W pick D (by have h2 := HAL.out.2.1; omega)
        obtain ⟨pl, hpl⟩ : ∃ pl, pick % ((D + 1 : Nat) : Int) = pl := ⟨_, rfl⟩
        have hDb : D ≤ 400 := by have h2 := HAL.out.2.1; omega
        have han4 : an ≤ 400 := by have h2 := HAL.out.2.1; omega
        rw [hpl] at hP hLi
        rw [han]
        have HLI := Lib.hid hLi
        clear hLi
        have HQ := Lib.hid (And.intro hpd (And.intro hqd (And.intro han hpl)))
        clear hpl hD hpd hqd han
        have hsl : (al.take Lq).length = Lq := by rw [List.length_take]; exact Nat.min_eq_left HB.out.2.2.2.2.2
        have HSL := Lib.hid hsl
        clear hsl
        go_wp2_with fail
        refine (Read_lit _ p F Hb (1 + i) (d9 (1 + (i : Int)) 0 (kk : Int) (al.take Lq) Lq) HQ.out.1 (ds_ok (by rw [HSL.out]; have h1 := HB.out.2.2.2.2.2; have h2 := HAL.out.2.1; omega) (by rw [HSL.out]; exact Nat.le_refl _) (by omega) (by omega) (by omega) (by omega) (by omega) (by omega)) (by decide)).mono ?_
        rintro e we ⟨Ar, cr, rfl, hsr, hnr, hbe⟩
        rw [HSL.out]
        go_wp2_with fail
        refine (hP _).mono ?_
        rintro e wx ⟨rfl, rfl⟩
        have hLi := HLI.out
        obtain ⟨lq, hlq⟩ : ∃ lq : Nat, Lq = lq := ⟨_, rfl⟩
        have hpl3 : pl = (Lq : Int) := by omega
        subst hpl3
        have hLqb : Lq ≤ 400 := by have h1 := HB.out.2.2.2.2.2; have h2 := HAL.out.2.1; omega
        have hpe := HQ.out.1.below hbe
        have hoke : (DS (1 + (i : Int)) 0 (kk : Int) (al.take Lq) Lq).ok (1 + i) := ds_ok (by rw [HSL.out]; have h1 := HB.out.2.2.2.2.2; have h2 := HAL.out.2.1; omega) (by rw [HSL.out]; exact Nat.le_refl _) (by omega) (by omega) (by omega) (by omega) (by omega) (by omega)
        have cv1 := convB hsr Lq cr HSL.out.symm
        have cv2 := convB (show Sl wx wx.heap.size A3 (bv (al.take Lq)) from by
          obtain ⟨A', c', e', _, _, h5, _⟩ := HD.out.1.form
          injection e' with e1 _ _
          subst e1
          rw [← bv_take]
          exact ((h5.tk Lq).below hbe).more hbe.size) Lq c3 HSL.out.symm
        have hcap3 : Lq ≤ c3 := by
          obtain ⟨A', c', e', h5, _⟩ := HD.out.1.form
          injection e' with _ _ e3
          subst e3
          exact Nat.le_trans HB.out.2.2.2.2.2 h5
        have HZ := Lib.hid (And.intro hpe (And.intro hoke (HQ.out.2.1.trans (hbe.mono HQ.out.2.1.size))))
        have hS0 : KB wx.heap wx.drew := KB.refl _
        clear hLi hP hlq lq hpe hoke hsr hnr hbe
        go_wp2_with fail
        refine bstartZ (KB wx.heap) [23] (by kernel_rfl) ?_
        refine btakeZ 0 [[21, 20, 15, 6, 5, 1]] (oi := _) (v := ?_) (by simp only [List.getElem?_toArray, List.getElem?_cons_succ, List.getElem?_cons_zero]; rfl) (by kernel_rfl) (by exact fun _ _ _ h => h) (by first | assumption | exact KB.refl _) (.inl ⟨by rfl, fun W hW => ?_⟩) ?_; rotate_left
        · (go_simp; first | done | with_reducible rfl)
        try simp only [Act.put, List.setIfInBounds_toArray, List.set_cons_zero, List.set_cons_succ]
        refine btakeZ 1 [[21, 20, 15, 6, 5]] (oi := _) (v := ?_) (by simp only [List.getElem?_toArray, List.getElem?_cons_succ, List.getElem?_cons_zero]; rfl) (by kernel_rfl) (by exact fun _ _ _ h => h) (by first | assumption | exact KB.refl _) (.inl ⟨by rfl, fun W hW => ?_⟩) ?_; rotate_left
        · (go_simp; first | done | with_reducible rfl)
        try simp only [Act.put, List.setIfInBounds_toArray, List.set_cons_zero, List.set_cons_succ]
        refine btakeZ 2 [[21, 20, 15, 6, 3]] (oi := _) (v := ?_) (by simp only [List.getElem?_toArray, List.getElem?_cons_succ, List.getElem?_cons_zero]; rfl) (by kernel_rfl) (by exact fun _ _ _ h => h) (by first | assumption | exact KB.refl _) (.inl ⟨by rfl, fun W hW => ?_⟩) ?_; rotate_left
        · (go_simp; first | done | with_reducible rfl)
        try simp only [Act.put, List.setIfInBounds_toArray, List.set_cons_zero, List.set_cons_succ]
        -- 3: (*newsreel/disk.Disk).Down
        refine bopY 3 (o := _) (by simp only [List.getElem?_toArray, List.getElem?_cons_succ, List.getElem?_cons_zero]; rfl) (by kernel_rfl) (by rfl) (fun K hK => ?_)
        go_simp
        refine (Down_lit wx.drew p F Hb (t := false) rfl HZ.out.1.drew).mono ?_
        rintro e wy ⟨rfl, rfl⟩
        have hkb := hS0
        refine hK.out _ _ hkb ?_; clear hK K
        try simp only [Act.put, List.setIfInBounds_toArray, List.set_cons_zero, List.set_cons_succ]
        refine btakeZ 4 [[21, 20, 15, 6, 5]] (oi := _) (v := ?_) (by simp only [List.getElem?_toArray, List.getElem?_cons_succ, List.getElem?_cons_zero]; rfl) (by kernel_rfl) (by exact fun _ _ _ h => h) (by first | assumption | exact KB.refl _) (.inl ⟨by rfl, fun W hW => ?_⟩) ?_; rotate_left
        · (go_simp; first | done | with_reducible rfl)
        try simp only [Act.put, List.setIfInBounds_toArray, List.set_cons_zero, List.set_cons_succ]
        refine btakeZ 5 [[21, 20, 15, 6]] (oi := _) (v := ?_) (by simp only [List.getElem?_toArray, List.getElem?_cons_succ, List.getElem?_cons_zero]; rfl) (by kernel_rfl) (by exact fun _ _ _ h => h) (by first | assumption | exact KB.refl _) (.inl ⟨by rfl, fun W hW => ?_⟩) ?_; rotate_left
        · (go_simp; first | done | with_reducible rfl)
        try simp only [Act.put, List.setIfInBounds_toArray, List.set_cons_zero, List.set_cons_succ]
        refine btakeZ 6 [[21, 20, 15]] (oi := _) (v := ?_) (by simp only [List.getElem?_toArray, List.getElem?_cons_succ, List.getElem?_cons_zero]; rfl) (by kernel_rfl) (by exact fun _ _ _ h => h) (by first | assumption | exact KB.refl _) (.inl ⟨by rfl, fun W hW => ?_⟩) ?_; rotate_left
        · (go_simp; first | done | with_reducible rfl)
        try simp only [Act.put, List.setIfInBounds_toArray, List.set_cons_zero, List.set_cons_succ]
        refine btakeZ 7 [[21, 20, 15, 14, 13, 8]] (oi := _) (v := ?_) (by simp only [List.getElem?_toArray, List.getElem?_cons_succ, List.getElem?_cons_zero]; rfl) (by kernel_rfl) (by exact fun _ _ _ h => h) (by first | assumption | exact KB.refl _) (.inl ⟨by rfl, fun W hW => ?_⟩) ?_; rotate_left
        · (go_simp; first | done | with_reducible rfl)
        try simp only [Act.put, List.setIfInBounds_toArray, List.set_cons_zero, List.set_cons_succ]
        refine btakeZ 8 [[21, 20, 15, 14, 13]] (oi := _) (v := ?_) (by simp only [List.getElem?_toArray, List.getElem?_cons_succ, List.getElem?_cons_zero]; rfl) (by kernel_rfl) (by exact fun _ _ _ h => h) (by first | assumption | exact KB.refl _) (.inl ⟨by rfl, fun W hW => ?_⟩) ?_; rotate_left
        · (go_simp; first | done | with_reducible rfl)
        try simp only [Act.put, List.setIfInBounds_toArray, List.set_cons_zero, List.set_cons_succ]
        refine btakeZ 9 [[21, 20, 15, 14, 13, 12, 11]] (oi := _) (v := ?_) (by simp only [List.getElem?_toArray, List.getElem?_cons_succ, List.getElem?_cons_zero]; rfl) (by kernel_rfl) (by exact fun _ _ _ h => h) (by first | assumption | exact KB.refl _) (.inl ⟨by rfl, fun W hW => ?_⟩) ?_; rotate_left
        · (go_simp; first | done | with_reducible rfl)
        try simp only [Act.put, List.setIfInBounds_toArray, List.set_cons_zero, List.set_cons_succ]
        refine btakeZ 10 [[21, 20, 15, 14, 13, 12, 11]] (oi := _) (v := ?_) (by simp only [List.getElem?_toArray, List.getElem?_cons_succ, List.getElem?_cons_zero]; rfl) (by kernel_rfl) (by exact fun _ _ _ h => h) (by first | assumption | exact KB.refl _) (.inl ⟨by rfl, fun W hW => ?_⟩) ?_; rotate_left
        · (go_simp; first | done | with_reducible rfl)
        try simp only [Act.put, List.setIfInBounds_toArray, List.set_cons_zero, List.set_cons_succ]
        refine btakeZ 11 [[21, 20, 15, 14, 13, 12]] (oi := _) (v := ?_) (by simp only [List.getElem?_toArray, List.getElem?_cons_succ, List.getElem?_cons_zero]; rfl) (by kernel_rfl) (by exact fun _ _ _ h => h) (by first | assumption | exact KB.refl _) (.inl ⟨by rfl, fun W hW => ?_⟩) ?_; rotate_left
        · refine Eq.trans (exec_pre1B (x := .tmp 156) (y := .tmp 157) (A := A3) (m := D) (c := c3) (j := Lq) ?_ ?_ ?_ hcap3 _) ?_ <;> first | rfl | with_reducible rfl
        try simp only [Act.put, List.setIfInBounds_toArray, List.set_cons_zero, List.set_cons_succ]
        refine btakeZ 12 [[21, 20, 15, 14, 13]] (oi := _) (v := ?_) (by simp only [List.getElem?_toArray, List.getElem?_cons_succ, List.getElem?_cons_zero]; rfl) (by kernel_rfl) (by exact fun _ _ _ h => h) (by first | assumption | exact KB.refl _) (.inl ⟨by rfl, fun W hW => ?_⟩) ?_; rotate_left
        · (go_simp; first | done | with_reducible rfl)
        try simp only [Act.put, List.setIfInBounds_toArray, List.set_cons_zero, List.set_cons_succ]
        refine btakeZ 13 [[21, 20, 15, 14]] (oi := _) (v := ?_) (by simp only [List.getElem?_toArray, List.getElem?_cons_succ, List.getElem?_cons_zero]; rfl) (by kernel_rfl) (by exact fun _ _ _ h => h) (by first | assumption | exact KB.refl _) (.inl ⟨by rfl, fun W hW => ?_⟩) ?_; rotate_left
        · (go_simp; first | done | with_reducible rfl)
        try simp only [Act.put, List.setIfInBounds_toArray, List.set_cons_zero, List.set_cons_succ]
        refine btakeZ 14 [[21, 20, 15]] (oi := _) (v := ?_) (by simp only [List.getElem?_toArray, List.getElem?_cons_succ, List.getElem?_cons_zero]; rfl) (by kernel_rfl) (by exact fun _ _ _ h => h) (by first | assumption | exact KB.refl _) (.inl ⟨by rfl, fun W hW => ?_⟩) ?_; rotate_left
        · (go_simp; first | done | with_reducible rfl)
        try simp only [Act.put, List.setIfInBounds_toArray, List.set_cons_zero, List.set_cons_succ]
        refine btakeZ 15 [[21, 20]] (oi := _) (v := ?_) (by simp only [List.getElem?_toArray, List.getElem?_cons_succ, List.getElem?_cons_zero]; rfl) (by kernel_rfl) (by exact fun _ _ _ h => h) (by first | assumption | exact KB.refl _) (.inl ⟨by rfl, fun W hW => ?_⟩) ?_; rotate_left
        · (go_simp; first | done | with_reducible rfl)
        try simp only [Act.put, List.setIfInBounds_toArray, List.set_cons_zero, List.set_cons_succ]
        refine btakeZ 16 [[21, 17]] (oi := _) (v := ?_) (by simp only [List.getElem?_toArray, List.getElem?_cons_succ, List.getElem?_cons_zero]; rfl) (by kernel_rfl) (by exact fun _ _ _ h => h) (by first | assumption | exact KB.refl _) (.inl ⟨by rfl, fun W hW => ?_⟩) ?_; rotate_left
        · (go_simp; first | done | with_reducible rfl)
        try simp only [Act.put, List.setIfInBounds_toArray, List.set_cons_zero, List.set_cons_succ]
        refine btakeZ 18 [[21, 20, 19]] (oi := _) (v := ?_) (by simp only [List.getElem?_toArray, List.getElem?_cons_succ, List.getElem?_cons_zero]; rfl) (by kernel_rfl) (by exact fun _ _ _ h => h) (by first | assumption | exact KB.refl _) (.inl ⟨by rfl, fun W hW => ?_⟩) ?_; rotate_left
        · (go_simp; first | done | with_reducible rfl)
        try simp only [Act.put, List.setIfInBounds_toArray, List.set_cons_zero, List.set_cons_succ]
        -- 17: (*newsreel/disk.Disk).Sure
        refine bopY 17 (o := _) (by simp only [List.getElem?_toArray, List.getElem?_cons_succ, List.getElem?_cons_zero]; rfl) (by kernel_rfl) (by rfl) (fun K hK => ?_)
        go_simp
        refine (Sure_lit wx.drew p F Hb (x := [102]) (r := (Lq : Int)) (d10 (1 + (i : Int)) 0 (kk : Int) (al.take Lq) Lq) HZ.out.1.drew (by decide)).mono ?_
        rintro e wy ⟨rfl, rfl⟩
        have hkb := hS0
        refine hK.out _ _ hkb ?_; clear hK K
        try simp only [Act.put, List.setIfInBounds_toArray, List.set_cons_zero, List.set_cons_succ]
        refine btakeZ 19 [[21, 20]] (oi := _) (v := ?_) (by simp only [List.getElem?_toArray, List.getElem?_cons_succ, List.getElem?_cons_zero]; rfl) (by kernel_rfl) (by exact fun _ _ _ h => h) (by first | assumption | exact KB.refl _) (.inl ⟨by rfl, fun W hW => ?_⟩) ?_; rotate_left
        · (go_simp; first | done | with_reducible rfl)
        try simp only [Act.put, List.setIfInBounds_toArray, List.set_cons_zero, List.set_cons_succ]
        refine btakeZ 20 [[21]] (oi := _) (v := ?_) (by simp only [List.getElem?_toArray, List.getElem?_cons_succ, List.getElem?_cons_zero]; rfl) (by kernel_rfl) (by exact fun _ _ _ h => h) (by first | assumption | exact KB.refl _) (.inl ⟨by rfl, fun W hW => ?_⟩) ?_; rotate_left
        · (go_simp; first | done | with_reducible rfl)
        try simp only [Act.put, List.setIfInBounds_toArray, List.set_cons_zero, List.set_cons_succ]
        refine btakeZ 21 [[]] (oi := _) (v := ?_) (by simp only [List.getElem?_toArray, List.getElem?_cons_succ, List.getElem?_cons_zero]; rfl) (by kernel_rfl) (by exact fun _ _ _ h => h) (by first | assumption | exact KB.refl _) (.inl ⟨by rfl, fun W hW => ?_⟩) ?_; rotate_left
        · (go_simp; first | done | with_reducible rfl)
        try simp only [Act.put, List.setIfInBounds_toArray, List.set_cons_zero, List.set_cons_succ]
        refine btakeZ 22 [[]] (oi := _) (v := ?_) (by simp only [List.getElem?_toArray, List.getElem?_cons_succ, List.getElem?_cons_zero]; rfl) (by kernel_rfl) (by exact fun _ _ _ h => h) (by first | assumption | exact KB.refl _) (.inl ⟨by rfl, fun W hW => ?_⟩) ?_; rotate_left
        · (go_simp; first | done | with_reducible rfl)
        try simp only [Act.put, List.setIfInBounds_toArray, List.set_cons_zero, List.set_cons_succ]
        -- 23: (*newsreel/disk.Disk).Sync
        refine bopZ 23 (o := _) (by simp only [List.getElem?_toArray, List.getElem?_cons_succ, List.getElem?_cons_zero]; rfl) (by kernel_rfl) (by rfl) (by rfl) (fun K hK => ?_)
        go_simp
        refine (Sync_lit wx.drew p F Hb (1 + i) (d12 (1 + (i : Int)) (kk : Int) (al.take Lq) Lq) (r := 0) rfl HZ.out.1.drew HZ.out.2.1 (by omega) (by decide)).mono ?_
        rintro e wz ⟨rfl, hpz, hgz⟩
        refine hK.out _ _ ?_; clear hK K
        try simp only [Act.put, List.setIfInBounds_toArray, List.set_cons_zero, List.set_cons_succ]
        refine btakeT 24 (oi := _) (v := ?_) (by simp only [List.getElem?_toArray, List.getElem?_cons_succ, List.getElem?_cons_zero]; rfl) (by kernel_rfl) (by exact fun _ _ _ h => h) (by first | exact .inl (by assumption) | exact .inr (by kernel_rfl)) (.inl ⟨by rfl, fun W hW => ?_⟩) ?_; rotate_left
        · (go_simp; first | done | with_reducible rfl)
        try simp only [Act.put, List.setIfInBounds_toArray, List.set_cons_zero, List.set_cons_succ]
        refine btakeT 25 (oi := _) (v := ?_) (by simp only [List.getElem?_toArray, List.getElem?_cons_succ, List.getElem?_cons_zero]; rfl) (by kernel_rfl) (by exact fun _ _ _ h => h) (by first | exact .inl (by assumption) | exact .inr (by kernel_rfl)) (.inl ⟨by rfl, fun W hW => ?_⟩) ?_; rotate_left
        · (go_simp; first | done | with_reducible rfl)
        try simp only [Act.put, List.setIfInBounds_toArray, List.set_cons_zero, List.set_cons_succ]
        refine btakeT 26 (oi := _) (v := ?_) (by simp only [List.getElem?_toArray, List.getElem?_cons_succ, List.getElem?_cons_zero]; rfl) (by kernel_rfl) (by exact fun _ _ _ h => h) (by first | exact .inl (by assumption) | exact .inr (by kernel_rfl)) (.inl ⟨by rfl, fun W hW => ?_⟩) ?_; rotate_left
        · (go_simp; first | done | with_reducible rfl)
        try simp only [Act.put, List.setIfInBounds_toArray, List.set_cons_zero, List.set_cons_succ]
        refine bdoneZ (by kernel_rfl) ?_
        go_wp2_with fail
        go_ret
        exact ⟨rfl, hgz.belowB HZ.out.2.2.drew (Nat.le_refl _) H5.out.2.2.1⟩
      · have hsu0 : su = n0 := by rw [← HS.out, if_neg hi2]
        have hdi : decide ((1 : Int) < (i : Int)) = true := by simp; omega
        have hall : (l0 ++ l1.take kk).length = n0 + KN := by rw [List.length_append, List.length_take, HL.out.1, HL.out.2.1]; omega
        obtain ⟨al, hal⟩ : ∃ al, l0 ++ l1.take kk = al := ⟨_, rfl⟩
        rw [hal] at hall
        have hsal : su ≤ al.length := by rw [hall]; omega
        have hKk : KN ≤ 200 := by omega
        have hwas := Calls_lit wr p F H4 (r := 1 + (i : Int)) rfl hp6
        have sl1 : Sl wr wr.heap.size A1 (bv l1) := (HL.out.2.2.2.below' hb6).more hb6.size
        have nf1 := nfOf HL.out.2.2.2 H5.out.2.2.1
        have e4 := d4 (c := 1 + (i : Int)) (k := (kk : Int)) (b := l0) (cc := l1) (su := su) (by rw [HL.out.1]; omega) (by rw [HL.out.2.1]; omega)
        rw [Int.toNat_natCast, hal] at e4
        have hal2 : l0 ++ l1.take KN = al := by
          rw [← hal]
          rcases Nat.le_total kk n1 with h | h
          · rw [hKv, Nat.min_eq_left h]
          · rw [hKv, Nat.min_eq_right h, List.take_of_length_le (by rw [HL.out.2.1]; exact Nat.le_refl _), List.take_of_length_le (by rw [HL.out.2.1]; exact h)]
        have hKn : KN ≤ n1 := by omega
        clear hKv
        have HAL := Lib.hid (And.intro hal2 (And.intro hall (And.intro hsal (And.intro e4 (And.intro sl1 (And.intro nf1 hsu0))))))
        clear hal2 hal hall hsal e4 sl1 nf1 hsu0
        go_wp2_with (first
          | (go_at_call 14; refine hwas.mono ?_; rintro e wx ⟨rfl, rfl⟩; clear hwas)
          | (go_at_call 10; refine (Append_lit _ p F H4 (1 + i) HAL.out.2.2.2.1 (r := 34) rfl hp6 (ds_ok (by rw [HL.out.1]; omega) hsu (by omega) (by omega) (by omega) (by omega) (by omega) (by omega)) (by omega) (by decide) _ _ n1 HL.out.2.1 (by omega) hc1 HAL.out.2.2.2.2.1 HAL.out.2.2.2.2.2.1).mono ?_; rintro e w7 ⟨rfl, H7, hp7, hg7⟩; have hq7 := hg7.belowB hb6 (Nat.le_refl _) H5.out.2.2.1; clear hp6; have hD7 := Down_lit w7 p F H7 (t := true) rfl hp7)
          | (go_at_call 13; refine hD7.mono ?_; rintro e wx ⟨rfl, rfl⟩; clear hD7)
          | (go_at_call 12; refine (Sync_lit _ p F H7 (1 + i) (d5 (1 + (i : Int)) (kk : Int) al su) (r := 34) rfl hp7 (do_ok (by rw [HAL.out.2.1]; omega) HAL.out.2.2.1 (by omega) (by omega) (by omega) (by omega)) (by omega) (by decide)).mono ?_; rintro e w8 ⟨rfl, hp8, hg8⟩; have hq8 := hg8.belowB hq7 (Nat.le_refl _) H5.out.2.2.1; clear hp7)
          | (go_at_call 9; refine (Create_lit _ p F H7 (1 + i) (d6 (1 + (i : Int)) (kk : Int) al su) (r := 34) rfl hp8 (do_ok (by rw [HAL.out.2.1]; omega) HAL.out.2.2.1 (by omega) (by omega) (by omega) (by omega)) (by omega) (by decide)).mono ?_; rintro e w9 ⟨rfl, hp9, hg9⟩; have hq9 := hg9.belowB hq8 (Nat.le_refl _) H5.out.2.2.1; clear hp8; have hC9 := Calls_lit w9 p F H7 (r := 1 + (i : Int)) rfl hp9)
          | (go_at_call 14; refine hC9.mono ?_; rintro e wx ⟨rfl, rfl⟩; clear hC9)
          | (go_at_call 15; refine (Read_lit _ p F H7 (1 + i) (d7 (1 + (i : Int)) (kk : Int) al su) hp9 (do_ok (by rw [HAL.out.2.1]; omega) HAL.out.2.2.1 (by omega) (by omega) (by omega) (by omega)) (by decide)).mono ?_; rintro e wa ⟨Aa, ca, rfl, _, _, hba⟩; have hpa := hp9.below hba; have hqa := hq9.trans (hba.mono hq9.size); clear hp9; have hUa := Used_lit wa p F H7 (r := (n0 : Int) + (KN : Int)) ((d13 (1 + (i : Int)) (kk : Int) al su).trans (by rw [HAL.out.2.1]; omega)) hpa; have hSa := Sure_lit wa p F H7 (x := [102]) (r := (n0 : Int)) ((d11 (1 + (i : Int)) (kk : Int) al su).trans (by rw [HAL.out.2.2.2.2.2.2])) hpa (by decide); have nba := Sl.ints wa 3 [pick] (0, 0); have nza := hpa.newNF)
          | (go_at_call 16; refine hUa.mono ?_; rintro e wx ⟨rfl, rfl⟩; clear hUa)
          | (go_at_call 17; refine hSa.mono ?_; rintro e wx ⟨rfl, rfl⟩; clear hSa)
          | (go_at_call 18; refine (Crash_lit _ p F H7 (1 + i) (d8 (c := 1 + (i : Int)) (k := (kk : Int)) HAL.out.2.2.1 pick) (hpa.al _) (do_ok (by rw [HAL.out.2.1]; omega) HAL.out.2.2.1 (by omega) (by omega) (by omega) (by omega)) (by omega) _ 1 1 rfl nba (.inr nza) (by omega)).mono ?_; rintro e wb ⟨rfl, Hb, hpb, hgb⟩; have hqb := hgb.belowB (hqa.alloc hqa.size _) (Nat.le_refl _) H5.out.2.2.1; clear hpa nba nza))
        obtain ⟨Lq, hLq⟩ : ∃ Lq, su + (pick % ((al.length - su + 1 : Nat) : Int)).toNat = Lq := ⟨_, rfl⟩
        have hLa : Lq ≤ al.length := by
          have h1 := Int.emod_lt_of_pos pick (show (0 : Int) < ((al.length - su + 1 : Nat) : Int) by omega)
          have h2 := HAL.out.2.2.1
          omega
        rw [hLq] at hpb
        have HB := Lib.hid (And.intro hpb (And.intro hqb (And.intro ((HL.out.2.2.1.below' hqb).more hqb.size) (And.intro ((HL.out.2.2.2.below' hqb).more hqb.size) (And.intro hLq hLa)))))
        clear hpb hqb hLq hLa hgb hqa hq9 hq8 hq7 hba hg9 hg8 hg7 hb6
        have hKc : KN ≤ c1 := by omega
        have hS0 : KB wb.heap wb.drew := KB.refl _
        refine bstartS (KB wb.heap) (by kernel_rfl) ?_
        refine btakeS 0 (oi := _) (v := ?_) (by simp only [List.getElem?_toArray, List.getElem?_cons_zero]; rfl) (by kernel_rfl) (by exact fun _ _ _ h => h) (by first | assumption | exact KB.refl _) (.inl ⟨by rfl, fun W hW => ?_⟩) ?_; rotate_left
        · (go_simp; first | done | with_reducible rfl)
        try simp only [Act.put, List.setIfInBounds_toArray, List.set_cons_zero, List.set_cons_succ]
        refine btakeS 2 (oi := _) (v := ?_) (by simp only [List.getElem?_toArray, List.getElem?_cons_succ, List.getElem?_cons_zero]; rfl) (by kernel_rfl) (by exact fun _ _ _ h => h) (by first | assumption | exact KB.refl _) (.inl ⟨by rfl, fun W hW => ?_⟩) ?_; rotate_left
        · (go_simp; first | done | with_reducible rfl)
        try simp only [Act.put, List.setIfInBounds_toArray, List.set_cons_zero, List.set_cons_succ]
        refine btakeS 3 (oi := _) (v := ?_) (by simp only [List.getElem?_toArray, List.getElem?_cons_succ, List.getElem?_cons_zero]; rfl) (by kernel_rfl) (by exact fun _ _ _ h => h) (by first | assumption | exact KB.refl _) (.inl ⟨by rfl, fun W hW => ?_⟩) ?_; rotate_left
        · (go_simp; first | done | with_reducible rfl)
        try simp only [Act.put, List.setIfInBounds_toArray, List.set_cons_zero, List.set_cons_succ]
        refine btakeS 4 (oi := _) (v := ?_) (by simp only [List.getElem?_toArray, List.getElem?_cons_succ, List.getElem?_cons_zero]; rfl) (by kernel_rfl) (by exact fun _ _ _ h => h) (by first | assumption | exact KB.refl _) (.inl ⟨by rfl, fun W hW => ?_⟩) ?_; rotate_left
        · (go_simp; first | done | with_reducible rfl)
        try simp only [Act.put, List.setIfInBounds_toArray, List.set_cons_zero, List.set_cons_succ]
        -- 1: Op.call { callee := Callee.builtin Builtin.append, args := #[Operand.const (Value.slice none 0 0), Operand.tmp 127], argTypes := #[22, 22] }
        refine bopS 1 (o := _) (by simp only [List.getElem?_toArray, List.getElem?_cons_succ, List.getElem?_cons_zero]; rfl) (by kernel_rfl) (by rfl) (fun K hK => ?_)
        refine wp_app (by rfl) (OwnB.nil wb.drew wb.heap.size) HB.out.2.2.1 HL.out.1.symm (by rfl) (by rfl) (by rw [HL.out.1]; simp; omega) (Nat.le_refl _) ?_
        intro v1 wc hown1 hg1 hat1
        have hbc : Below wb.heap.size wb wc := own_below (Below.refl _ wb).drew (Nat.le_refl _) (OwnB.nil wb.drew wb.heap.size) hg1
        have hkb : KB wb.heap wc := KB.of hbc
        obtain ⟨A2, c2, hv2, _⟩ := hown1.form
        subst hv2
        have HC := Lib.hid (And.intro hown1 hbc)
        clear hown1 hbc hg1 hat1
        refine hK.out _ _ hkb ?_; clear hK K
        try simp only [Act.put, List.setIfInBounds_toArray, List.set_cons_zero, List.set_cons_succ]
        -- 5: Op.call { callee := Callee.builtin Builtin.append, args := #[Operand.tmp 128, Operand.tmp 131], argTypes := #[22, 22] }
        refine bopS 5 (o := _) (by simp only [List.getElem?_toArray, List.getElem?_cons_succ, List.getElem?_cons_zero]; rfl) (by kernel_rfl) (by rfl) (fun K hK => ?_)
        refine wp_app (m := KN) (c := c1) (by rfl) HC.out.1 (by rw [← bv_take]; exact (HB.out.2.2.2.1.below HC.out.2).tk KN) (by rw [List.length_take, HL.out.2.1]; omega) (by rfl) (by rfl) (by rw [List.length_append, List.length_take, HL.out.1]; simp; omega) HC.out.2.size ?_
        intro v3 wd hown3 hg3 hat3
        have hbd : Below wb.heap.size wb wd := own_below HC.out.2 HC.out.2.size HC.out.1 hg3
        have hkb : KB wb.heap wd := KB.of hbd
        rw [List.nil_append, HAL.out.1] at hown3
        obtain ⟨A3, c3, hv3, _⟩ := hown3.form
        subst hv3
        have HD := Lib.hid (And.intro hown3 hbd)
        clear hown3 hbd hg3 hat3
        refine hK.out _ _ hkb ?_; clear hK K
        try simp only [Act.put, List.setIfInBounds_toArray, List.set_cons_zero, List.set_cons_succ]
        refine btakeS 6 (oi := _) (v := ?_) (by simp only [List.getElem?_toArray, List.getElem?_cons_succ, List.getElem?_cons_zero]; rfl) (by kernel_rfl) (by exact fun _ _ _ h => h) (by first | assumption | exact KB.refl _) (.inl ⟨by rfl, fun W hW => ?_⟩) ?_; rotate_left
        · (go_simp; first | done | with_reducible rfl)
        try simp only [Act.put, List.setIfInBounds_toArray, List.set_cons_zero, List.set_cons_succ]
        refine bdoneS (by kernel_rfl) ?_
        have hpd := HB.out.1.below HD.out.2
        have hqd := HB.out.2.1.trans (HD.out.2.mono HB.out.2.1.size)
        obtain ⟨an, han⟩ : ∃ an, al.length = an := ⟨_, rfl⟩
        obtain ⟨D, hD⟩ : ∃ D, an - su = D := ⟨_, rfl⟩
        have hDs : (an : Int) - (n0 : Int) = (D : Int) := by have h1 := HAL.out.2.2.2.2.2.2; have h2 := HAL.out.2.1; omega
        have hLi : (n0 : Int) + pick % ((D + 1 : Nat) : Int) = (Lq : Int) := by
          have h1 := HB.out.2.2.2.2.1
          rw [han, hD] at h1
          have h2 := Int.emod_nonneg pick (show ((D + 1 : Nat) : Int) ≠ 0 by omega)
          have h3 := HAL.out.2.2.2.2.2.2
          omega
        have hP := fun W => Place_any W pick D (by have h2 := HAL.out.2.1; omega)
        obtain ⟨pl, hpl⟩ : ∃ pl, pick % ((D + 1 : Nat) : Int) = pl := ⟨_, rfl⟩
        have hDb : D ≤ 400 := by have h2 := HAL.out.2.1; omega
        have han4 : an ≤ 400 := by have h2 := HAL.out.2.1; omega
        rw [hpl] at hP hLi
        rw [han]
        have HLI := Lib.hid hLi
        clear hLi
        have HQ := Lib.hid (And.intro hpd (And.intro hqd (And.intro han hpl)))
        clear hpl hD hpd hqd han
        have hsl : (al.take Lq).length = Lq := by rw [List.length_take]; exact Nat.min_eq_left HB.out.2.2.2.2.2
        have HSL := Lib.hid hsl
        clear hsl
        go_wp2_with fail
        refine (Read_lit _ p F Hb (1 + i) (d9 (1 + (i : Int)) 0 (kk : Int) (al.take Lq) Lq) HQ.out.1 (ds_ok (by rw [HSL.out]; have h1 := HB.out.2.2.2.2.2; have h2 := HAL.out.2.1; omega) (by rw [HSL.out]; exact Nat.le_refl _) (by omega) (by omega) (by omega) (by omega) (by omega) (by omega)) (by decide)).mono ?_
        rintro e we ⟨Ar, cr, rfl, hsr, hnr, hbe⟩
        rw [HSL.out]
        go_wp2_with fail
        refine (hP _).mono ?_
        rintro e wx ⟨rfl, rfl⟩
        have hLi := HLI.out
        obtain ⟨lq, hlq⟩ : ∃ lq : Nat, Lq = lq := ⟨_, rfl⟩
        have hpl3 : pl = (Lq : Int) - (n0 : Int) := by omega
        subst hpl3
        have hLqb : Lq ≤ 400 := by have h1 := HB.out.2.2.2.2.2; have h2 := HAL.out.2.1; omega
        have hnl : (n0 : Int) + ((Lq : Int) - (n0 : Int)) = (Lq : Int) := by omega
        have hpe := HQ.out.1.below hbe
        have hoke : (DS (1 + (i : Int)) 0 (kk : Int) (al.take Lq) Lq).ok (1 + i) := ds_ok (by rw [HSL.out]; have h1 := HB.out.2.2.2.2.2; have h2 := HAL.out.2.1; omega) (by rw [HSL.out]; exact Nat.le_refl _) (by omega) (by omega) (by omega) (by omega) (by omega) (by omega)
        have cv1 := convB hsr Lq cr HSL.out.symm
        have cv2 := convB (show Sl wx wx.heap.size A3 (bv (al.take Lq)) from by
          obtain ⟨A', c', e', _, _, h5, _⟩ := HD.out.1.form
          injection e' with e1 _ _
          subst e1
          rw [← bv_take]
          exact ((h5.tk Lq).below hbe).more hbe.size) Lq c3 HSL.out.symm
        have hcap3 : Lq ≤ c3 := by
          obtain ⟨A', c', e', h5, _⟩ := HD.out.1.form
          injection e' with _ _ e3
          subst e3
          exact Nat.le_trans HB.out.2.2.2.2.2 h5
        have HZ := Lib.hid (And.intro hpe (And.intro hoke (HQ.out.2.1.trans (hbe.mono HQ.out.2.1.size))))
        have hS0 : KB wx.heap wx.drew := KB.refl _
        clear hLi hP hlq lq hpe hoke hsr hnr hbe
        go_wp2_with fail
        refine bstartZ (KB wx.heap) [23] (by kernel_rfl) ?_
        refine btakeZ 0 [[21, 20, 15, 6, 5, 1]] (oi := _) (v := ?_) (by simp only [List.getElem?_toArray, List.getElem?_cons_succ, List.getElem?_cons_zero]; rfl) (by kernel_rfl) (by exact fun _ _ _ h => h) (by first | assumption | exact KB.refl _) (.inl ⟨by rfl, fun W hW => ?_⟩) ?_; rotate_left
        · (go_simp; first | done | with_reducible rfl)
        try simp only [Act.put, List.setIfInBounds_toArray, List.set_cons_zero, List.set_cons_succ]
        refine btakeZ 1 [[21, 20, 15, 6, 5]] (oi := _) (v := ?_) (by simp only [List.getElem?_toArray, List.getElem?_cons_succ, List.getElem?_cons_zero]; rfl) (by kernel_rfl) (by exact fun _ _ _ h => h) (by first | assumption | exact KB.refl _) (.inl ⟨by rfl, fun W hW => ?_⟩) ?_; rotate_left
        · (go_simp; first | done | with_reducible rfl)
        try simp only [Act.put, List.setIfInBounds_toArray, List.set_cons_zero, List.set_cons_succ]
        refine btakeZ 2 [[21, 20, 15, 6, 3]] (oi := _) (v := ?_) (by simp only [List.getElem?_toArray, List.getElem?_cons_succ, List.getElem?_cons_zero]; rfl) (by kernel_rfl) (by exact fun _ _ _ h => h) (by first | assumption | exact KB.refl _) (.inl ⟨by rfl, fun W hW => ?_⟩) ?_; rotate_left
        · (go_simp; first | done | with_reducible rfl)
        try simp only [Act.put, List.setIfInBounds_toArray, List.set_cons_zero, List.set_cons_succ]
        -- 3: (*newsreel/disk.Disk).Down
        refine bopY 3 (o := _) (by simp only [List.getElem?_toArray, List.getElem?_cons_succ, List.getElem?_cons_zero]; rfl) (by kernel_rfl) (by rfl) (fun K hK => ?_)
        go_simp
        refine (Down_lit wx.drew p F Hb (t := false) rfl HZ.out.1.drew).mono ?_
        rintro e wy ⟨rfl, rfl⟩
        have hkb := hS0
        refine hK.out _ _ hkb ?_; clear hK K
        try simp only [Act.put, List.setIfInBounds_toArray, List.set_cons_zero, List.set_cons_succ]
        refine btakeZ 4 [[21, 20, 15, 6, 5]] (oi := _) (v := ?_) (by simp only [List.getElem?_toArray, List.getElem?_cons_succ, List.getElem?_cons_zero]; rfl) (by kernel_rfl) (by exact fun _ _ _ h => h) (by first | assumption | exact KB.refl _) (.inl ⟨by rfl, fun W hW => ?_⟩) ?_; rotate_left
        · (go_simp; first | done | with_reducible rfl)
        try simp only [Act.put, List.setIfInBounds_toArray, List.set_cons_zero, List.set_cons_succ]
        refine btakeZ 5 [[21, 20, 15, 6]] (oi := _) (v := ?_) (by simp only [List.getElem?_toArray, List.getElem?_cons_succ, List.getElem?_cons_zero]; rfl) (by kernel_rfl) (by exact fun _ _ _ h => h) (by first | assumption | exact KB.refl _) (.inl ⟨by rfl, fun W hW => ?_⟩) ?_; rotate_left
        · (go_simp; first | done | with_reducible rfl)
        try simp only [Act.put, List.setIfInBounds_toArray, List.set_cons_zero, List.set_cons_succ]
        refine btakeZ 6 [[21, 20, 15]] (oi := _) (v := ?_) (by simp only [List.getElem?_toArray, List.getElem?_cons_succ, List.getElem?_cons_zero]; rfl) (by kernel_rfl) (by exact fun _ _ _ h => h) (by first | assumption | exact KB.refl _) (.inl ⟨by rfl, fun W hW => ?_⟩) ?_; rotate_left
        · (go_simp; first | done | with_reducible rfl)
        try simp only [Act.put, List.setIfInBounds_toArray, List.set_cons_zero, List.set_cons_succ]
        refine btakeZ 7 [[21, 20, 15, 14, 13, 8]] (oi := _) (v := ?_) (by simp only [List.getElem?_toArray, List.getElem?_cons_succ, List.getElem?_cons_zero]; rfl) (by kernel_rfl) (by exact fun _ _ _ h => h) (by first | assumption | exact KB.refl _) (.inl ⟨by rfl, fun W hW => ?_⟩) ?_; rotate_left
        · (go_simp; first | done | with_reducible rfl)
        try simp only [Act.put, List.setIfInBounds_toArray, List.set_cons_zero, List.set_cons_succ]
        refine btakeZ 8 [[21, 20, 15, 14, 13]] (oi := _) (v := ?_) (by simp only [List.getElem?_toArray, List.getElem?_cons_succ, List.getElem?_cons_zero]; rfl) (by kernel_rfl) (by exact fun _ _ _ h => h) (by first | assumption | exact KB.refl _) (.inl ⟨by rfl, fun W hW => ?_⟩) ?_; rotate_left
        · (go_simp; first | done | with_reducible rfl)
        try simp only [Act.put, List.setIfInBounds_toArray, List.set_cons_zero, List.set_cons_succ]
        refine btakeZ 9 [[21, 20, 15, 14, 13, 12, 11]] (oi := _) (v := ?_) (by simp only [List.getElem?_toArray, List.getElem?_cons_succ, List.getElem?_cons_zero]; rfl) (by kernel_rfl) (by exact fun _ _ _ h => h) (by first | assumption | exact KB.refl _) (.inl ⟨by rfl, fun W hW => ?_⟩) ?_; rotate_left
        · (go_simp; first | done | with_reducible rfl)
        try simp only [Act.put, List.setIfInBounds_toArray, List.set_cons_zero, List.set_cons_succ]
        refine btakeZ 10 [[21, 20, 15, 14, 13, 12, 11]] (oi := _) (v := ?_) (by simp only [List.getElem?_toArray, List.getElem?_cons_succ, List.getElem?_cons_zero]; rfl) (by kernel_rfl) (by exact fun _ _ _ h => h) (by first | assumption | exact KB.refl _) (.inl ⟨by rfl, fun W hW => ?_⟩) ?_; rotate_left
        · (go_simp; first | done | with_reducible rfl)
        try simp only [Act.put, List.setIfInBounds_toArray, List.set_cons_zero, List.set_cons_succ]
        refine btakeZ 11 [[21, 20, 15, 14, 13, 12]] (oi := _) (v := ?_) (by simp only [List.getElem?_toArray, List.getElem?_cons_succ, List.getElem?_cons_zero]; rfl) (by kernel_rfl) (by exact fun _ _ _ h => h) (by first | assumption | exact KB.refl _) (.inl ⟨by rfl, fun W hW => ?_⟩) ?_; rotate_left
        · refine Eq.trans (exec_pre1B (x := .tmp 156) (y := .tmp 157) (A := A3) (m := an) (c := c3) (j := Lq) ?_ ?_ ?_ hcap3 _) ?_ <;> first | rfl | with_reducible rfl
        try simp only [Act.put, List.setIfInBounds_toArray, List.set_cons_zero, List.set_cons_succ]
        refine btakeZ 12 [[21, 20, 15, 14, 13]] (oi := _) (v := ?_) (by simp only [List.getElem?_toArray, List.getElem?_cons_succ, List.getElem?_cons_zero]; rfl) (by kernel_rfl) (by exact fun _ _ _ h => h) (by first | assumption | exact KB.refl _) (.inl ⟨by rfl, fun W hW => ?_⟩) ?_; rotate_left
        · (go_simp; first | done | with_reducible rfl)
        try simp only [Act.put, List.setIfInBounds_toArray, List.set_cons_zero, List.set_cons_succ]
        refine btakeZ 13 [[21, 20, 15, 14]] (oi := _) (v := ?_) (by simp only [List.getElem?_toArray, List.getElem?_cons_succ, List.getElem?_cons_zero]; rfl) (by kernel_rfl) (by exact fun _ _ _ h => h) (by first | assumption | exact KB.refl _) (.inl ⟨by rfl, fun W hW => ?_⟩) ?_; rotate_left
        · (go_simp; first | done | with_reducible rfl)
        try simp only [Act.put, List.setIfInBounds_toArray, List.set_cons_zero, List.set_cons_succ]
        refine btakeZ 14 [[21, 20, 15]] (oi := _) (v := ?_) (by simp only [List.getElem?_toArray, List.getElem?_cons_succ, List.getElem?_cons_zero]; rfl) (by kernel_rfl) (by exact fun _ _ _ h => h) (by first | assumption | exact KB.refl _) (.inl ⟨by rfl, fun W hW => ?_⟩) ?_; rotate_left
        · (go_simp; first | done | with_reducible rfl)
        try simp only [Act.put, List.setIfInBounds_toArray, List.set_cons_zero, List.set_cons_succ]
        refine btakeZ 15 [[21, 20]] (oi := _) (v := ?_) (by simp only [List.getElem?_toArray, List.getElem?_cons_succ, List.getElem?_cons_zero]; rfl) (by kernel_rfl) (by exact fun _ _ _ h => h) (by first | assumption | exact KB.refl _) (.inl ⟨by rfl, fun W hW => ?_⟩) ?_; rotate_left
        · (go_simp; first | done | with_reducible rfl)
        try simp only [Act.put, List.setIfInBounds_toArray, List.set_cons_zero, List.set_cons_succ]
        refine btakeZ 16 [[21, 17]] (oi := _) (v := ?_) (by simp only [List.getElem?_toArray, List.getElem?_cons_succ, List.getElem?_cons_zero]; rfl) (by kernel_rfl) (by exact fun _ _ _ h => h) (by first | assumption | exact KB.refl _) (.inl ⟨by rfl, fun W hW => ?_⟩) ?_; rotate_left
        · (go_simp; first | done | with_reducible rfl)
        try simp only [Act.put, List.setIfInBounds_toArray, List.set_cons_zero, List.set_cons_succ]
        refine btakeZ 18 [[21, 20, 19]] (oi := _) (v := ?_) (by simp only [List.getElem?_toArray, List.getElem?_cons_succ, List.getElem?_cons_zero]; rfl) (by kernel_rfl) (by exact fun _ _ _ h => h) (by first | assumption | exact KB.refl _) (.inl ⟨by rfl, fun W hW => ?_⟩) ?_; rotate_left
        · (go_simp; first | done | with_reducible rfl)
        try simp only [Act.put, List.setIfInBounds_toArray, List.set_cons_zero, List.set_cons_succ]
        -- 17: (*newsreel/disk.Disk).Sure
        refine bopY 17 (o := _) (by simp only [List.getElem?_toArray, List.getElem?_cons_succ, List.getElem?_cons_zero]; rfl) (by kernel_rfl) (by rfl) (fun K hK => ?_)
        go_simp
        refine (Sure_lit wx.drew p F Hb (x := [102]) (r := (Lq : Int)) (d10 (1 + (i : Int)) 0 (kk : Int) (al.take Lq) Lq) HZ.out.1.drew (by decide)).mono ?_
        rintro e wy ⟨rfl, rfl⟩
        have hkb := hS0
        refine hK.out _ _ hkb ?_; clear hK K
        try simp only [Act.put, List.setIfInBounds_toArray, List.set_cons_zero, List.set_cons_succ]
        refine btakeZ 19 [[21, 20]] (oi := _) (v := ?_) (by simp only [List.getElem?_toArray, List.getElem?_cons_succ, List.getElem?_cons_zero]; rfl) (by kernel_rfl) (by exact fun _ _ _ h => h) (by first | assumption | exact KB.refl _) (.inl ⟨by rfl, fun W hW => ?_⟩) ?_; rotate_left
        · (go_simp; first | done | with_reducible rfl)
        try simp only [Act.put, List.setIfInBounds_toArray, List.set_cons_zero, List.set_cons_succ]
        refine btakeZ 20 [[21]] (oi := _) (v := ?_) (by simp only [List.getElem?_toArray, List.getElem?_cons_succ, List.getElem?_cons_zero]; rfl) (by kernel_rfl) (by exact fun _ _ _ h => h) (by first | assumption | exact KB.refl _) (.inl ⟨by rfl, fun W hW => ?_⟩) ?_; rotate_left
        · (go_simp; first | done | with_reducible rfl)
        try simp only [Act.put, List.setIfInBounds_toArray, List.set_cons_zero, List.set_cons_succ]
        refine btakeZ 21 [[]] (oi := _) (v := ?_) (by simp only [List.getElem?_toArray, List.getElem?_cons_succ, List.getElem?_cons_zero]; rfl) (by kernel_rfl) (by exact fun _ _ _ h => h) (by first | assumption | exact KB.refl _) (.inl ⟨by rfl, fun W hW => ?_⟩) ?_; rotate_left
        · (go_simp; first | done | with_reducible rfl)
        try simp only [Act.put, List.setIfInBounds_toArray, List.set_cons_zero, List.set_cons_succ]
        refine btakeZ 22 [[]] (oi := _) (v := ?_) (by simp only [List.getElem?_toArray, List.getElem?_cons_succ, List.getElem?_cons_zero]; rfl) (by kernel_rfl) (by exact fun _ _ _ h => h) (by first | assumption | exact KB.refl _) (.inl ⟨by rfl, fun W hW => ?_⟩) ?_; rotate_left
        · (go_simp; first | done | with_reducible rfl)
        try simp only [Act.put, List.setIfInBounds_toArray, List.set_cons_zero, List.set_cons_succ]
        -- 23: (*newsreel/disk.Disk).Sync
        refine bopZ 23 (o := _) (by simp only [List.getElem?_toArray, List.getElem?_cons_succ, List.getElem?_cons_zero]; rfl) (by kernel_rfl) (by rfl) (by rfl) (fun K hK => ?_)
        go_simp
        refine (Sync_lit wx.drew p F Hb (1 + i) (d12 (1 + (i : Int)) (kk : Int) (al.take Lq) Lq) (r := 0) rfl HZ.out.1.drew HZ.out.2.1 (by omega) (by decide)).mono ?_
        rintro e wz ⟨rfl, hpz, hgz⟩
        refine hK.out _ _ ?_; clear hK K
        try simp only [Act.put, List.setIfInBounds_toArray, List.set_cons_zero, List.set_cons_succ]
        refine btakeT 24 (oi := _) (v := ?_) (by simp only [List.getElem?_toArray, List.getElem?_cons_succ, List.getElem?_cons_zero]; rfl) (by kernel_rfl) (by exact fun _ _ _ h => h) (by first | exact .inl (by assumption) | exact .inr (by kernel_rfl)) (.inl ⟨by rfl, fun W hW => ?_⟩) ?_; rotate_left
        · (go_simp; first | done | with_reducible rfl)
        try simp only [Act.put, List.setIfInBounds_toArray, List.set_cons_zero, List.set_cons_succ]
        refine btakeT 25 (oi := _) (v := ?_) (by simp only [List.getElem?_toArray, List.getElem?_cons_succ, List.getElem?_cons_zero]; rfl) (by kernel_rfl) (by exact fun _ _ _ h => h) (by first | exact .inl (by assumption) | exact .inr (by kernel_rfl)) (.inl ⟨by rfl, fun W hW => ?_⟩) ?_; rotate_left
        · (go_simp; first | done | with_reducible rfl)
        try simp only [Act.put, List.setIfInBounds_toArray, List.set_cons_zero, List.set_cons_succ]
        refine btakeT 26 (oi := _) (v := ?_) (by simp only [List.getElem?_toArray, List.getElem?_cons_succ, List.getElem?_cons_zero]; rfl) (by kernel_rfl) (by exact fun _ _ _ h => h) (by first | exact .inl (by assumption) | exact .inr (by kernel_rfl)) (.inl ⟨by rfl, fun W hW => ?_⟩) ?_; rotate_left
        · (go_simp; first | done | with_reducible rfl)
        try simp only [Act.put, List.setIfInBounds_toArray, List.set_cons_zero, List.set_cons_succ]
        refine bdoneZ (by kernel_rfl) ?_
        go_wp2_with fail
        go_ret
        exact ⟨rfl, hgz.belowB HZ.out.2.2.drew (Nat.le_refl _) H5.out.2.2.1⟩
end Go.Proofs.Ythnbnhlfiehihaa

