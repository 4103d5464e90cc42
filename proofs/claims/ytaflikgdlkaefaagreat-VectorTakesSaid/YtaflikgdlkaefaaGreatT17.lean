/- Vectors: the document's VecTake. -/
import Derived.Test.YtaflikgdlkaefaaGreatT12
import Derived.Test.YtaflikgdlkaefaaGreatT16
open List (getElem?_toArray getElem?_cons_succ getElem?_cons_zero)
namespace Go.Proofs.YtaflikgdlkaefaaGreat
open Go.RowKit Go.Proofs.YtaflikgdlkaefaaGreat.Pl Go.Proofs.YtaflikgdlkaefaaGreat.Sp Go.Proofs.YtaflikgdlkaefaaGreat.Ve
set_option maxRecDepth 20000

/-- what VecTake's loop holds -/
def TakeInvD (w : World) (b : List UInt8) (T : VL × Nat × Nat) (n : Nat) (x6 x9 : Value) (wr : World) : Prop :=
 ∃ (i k : Nat) (last : Int) (R : List RA) (v : Value), i ≤ n ∧ x9 = .int .i64 (i : Int) ∧ x6 = .int .i64 (k : Int) ∧ k ≤ b.length ∧ R.length = i ∧ goT b (n - i) (R.map RA.p) last k = T ∧ (i = 0 → last = -1) ∧ (∀ q, R[i - 1]? = some q → 0 < i → q.r = last) ∧
  At wr w.heap.size [.slice none 0 0] ∧ At wr (w.heap.size + 1) [v] ∧ VOwn wr (w.heap.size + 2) v R ∧ w.heap.size + 2 ≤ wr.heap.size ∧ Below w.heap.size w wr
set_option maxRecDepth 100000 in
set_option maxHeartbeats 12800000 in
theorem RVTake_any (w : World) (A : Option Addr) (n0 c : Nat) (b : List UInt8) (hb : Sl w w.heap.size A (bv b)) (h0 : n0 = b.length) (hc : n0 ≤ c) (hcm : c ≤ maxLen) (hbl : n0 ≤ 100000000) :
  Calls Tryz.prog 31 #[.slice A n0 c] w (TakeVPost w (takeV b)) := by
 obtain ⟨T, hT⟩ : ∃ T, takeV b = T := ⟨_, rfl⟩
 rw [hT]
 obtain ⟨⟨n, k1, e1⟩, ht⟩ : ∃ r, takeS b = r := ⟨_, rfl⟩
 have hb1 : Below w.heap.size w (w.alloc (.cells #[.slice none 0 0] 24)) := balloc (Below.refl _ _) _
 have a2 : At (w.alloc (.cells #[.slice none 0 0] 24)) w.heap.size [.slice none 0 0] := At.new w 24 #[.slice none 0 0]
 have hsz : (w.alloc (.cells #[.slice none 0 0] 24)).heap.size = w.heap.size + 1 := by simp
 have hTk := RTake_t' _ _ A n0 c b n k1 e1 ((hb.below hb1).more hb1.size) h0 hc hcm ht
 have hle := takeS_le b
 rw [ht] at hle
 dsimp only at hle
 have htv : T = if e1 ≠ 0 then ([], 0, e1) else if n > 64 then ([], 0, 21) else goT b n [] (-1) k1 := by rw [← hT]; unfold takeV; rw [ht]
 have HT := Lib.hid hTk
 have hsl := sl_postB A n0 c
 have HB := Lib.hid (And.intro hb (And.intro h0 (And.intro hc (And.intro hcm (And.intro hbl (And.intro hsl (And.intro htv hle)))))))
 have HA := Lib.hid (And.intro a2 hb1)
 have HSZ := Lib.hid hsz
 clear hTk hb h0 hc hcm hbl htv hle ht hT hsl a2 hb1 hsz
 go_enter Tryz.func31, Tryz.ntmps31
 go_wp2_with fail
 generalize w.alloc (.cells #[.slice none 0 0] 24) = W1 at *
 refine HT.out.mono ?_
 rintro e w1 ⟨rfl, rfl⟩
 have p0 := HA.out.1.c 0 rfl
 have f0 := HA.out.1.f 0 rfl
 have hz2 := HA.out.1.set 0 (.slice none 0 0) (by simp)
 have hzb : Below w.heap.size w (W1.setCell ⟨w.heap.size, 0, none⟩ (.slice none 0 0)) := HA.out.2.setCell (Nat.le_refl _) _
 have HZ := Lib.hid (And.intro hz2 hzb)
 clear hz2 hzb
 by_cases he : e1 = 0
 ·subst he
  by_cases q1 : 64 < n
  ·have HG := Lib.hid (show T = ([], 0, 21) by rw [HB.out.2.2.2.2.2.2.1, if_neg (by simp), if_pos q1])
   have d1 : decide ((64 : Int) < (n : Int)) = true := by rw [decide_eq_true_eq]; omega
   go_wp2_with fail
   exact bodyPost_ret (results_take rfl _ rfl rfl rfl HZ.out.1) rfl ⟨none, 0, 0, [], by rw [HG.out]; rfl, ⟨rfl, Nat.le_refl _, by simp [maxLen], .inl rfl, by simp, by rw [HG.out]; rfl⟩, HZ.out.2⟩
  ·have d1 : decide ((64 : Int) < (n : Int)) = false := by rw [decide_eq_false_iff_not]; omega
   have HG := Lib.hid (show T = goT b n [] (-1) k1 by rw [HB.out.2.2.2.2.2.2.1, if_neg (by simp), if_neg q1])
   have hwn : IntKind.i64.wrap (n : Int) = (n : Int) := by rw [IntKind.wrap_i64]; omega
   have hb8 : Below W1.heap.size W1 (W1.alloc (.cells #[.slice none 0 0] 24)) := balloc (Below.refl _ _) _
   have a8 : At (W1.alloc (.cells #[.slice none 0 0] 24)) (w.heap.size + 1) [.slice none 0 0] := by
    have := At.new W1 24 #[.slice none 0 0]
    rw [HSZ.out] at this
    exact this
   have hs8 : w.heap.size + 2 ≤ (W1.alloc (.cells #[.slice none 0 0] 24)).heap.size := by have := HSZ.out; simp; omega
   have HQ := Lib.hid (And.intro (HA.out.1.below hb8) (And.intro a8 (And.intro hs8 (HA.out.2.trans (hb8.mono HA.out.2.size)))))
   have hsz := HSZ.out
   clear hb8 a8 hs8 HZ p0 f0
   go_wp2_with fail
   clear hsz
   go_loopw [6, 9] (fun x6 x9 wr => TakeInvD w b T n x6 x9 wr) (fun _ x9 _ => n - (intOf x9).toNat)
   case atStart => exact ⟨0, k1, -1, [], _, by omega, rfl, rfl, HB.out.2.2.2.2.2.2.2, rfl, HG.out.symm, fun _ => rfl, fun q h => absurd h (by simp), HQ.out.1, HQ.out.2.1, VOwn.nil _ _, HQ.out.2.2.1, HQ.out.2.2.2⟩
   case round =>
    clear HQ HG HA HT
    obtain ⟨i, k, last, R, v, hi, rfl, rfl, hk, hRl, hgo, hl0, hl1, h2, h8, hO, hs2, hbel⟩ := hrel
    have HRL := Lib.hid hRl
    clear hRl
    have p0 := h2.c 0 rfl
    have f0 := h2.f 0 rfl
    by_cases hlt : i < n
    ·obtain ⟨m, hm⟩ : ∃ m, n - i = m + 1 := ⟨n - i - 1, by omega⟩
     have hd1 : decide ((i : Int) < (n : Int)) = true := by rw [decide_eq_true_eq]; omega
     have hgt : T = if b.length ≤ k then ([], 0, 20) else if 64 ≤ at_ b k ∨ (at_ b k : Int) ≤ last then ([], 0, 21) else if (rowS b (k + 1)).2.2 ≠ 0 then ([], 0, (rowS b (k + 1)).2.2) else goT b m (R.map RA.p ++ [((at_ b k : Int), (rowS b (k + 1)).1)]) (at_ b k : Int) (rowS b (k + 1)).2.1 := by rw [← hgo, hm]; rfl
     have HGT := Lib.hid (And.intro hgt hm)
     have hz2 := h2.set 0 (.slice none 0 0) (by simp)
     have hzb : Below w.heap.size w (wr.setCell ⟨w.heap.size, 0, none⟩ (.slice none 0 0)) := hbel.setCell (Nat.le_refl _) _
     have HZ := Lib.hid (And.intro hz2 hzb)
     clear hgt hm hgo hz2 hzb
     by_cases hkb : b.length ≤ k
     ·have HG := Lib.hid (show T = ([], 0, 20) by rw [HGT.out.1, if_pos hkb])
      obtain rfl : k = n0 := by have := HB.out.2.1; omega
      go_wp2_with fail
      exact bodyPost_ret (results_take rfl _ rfl rfl rfl HZ.out.1) rfl ⟨none, 0, 0, [], by rw [HG.out]; rfl, ⟨rfl, Nat.le_refl _, by simp [maxLen], .inl rfl, by simp, by rw [HG.out]; rfl⟩, HZ.out.2⟩
     ·have hkn : k < n0 := by have := HB.out.2.1; omega
      have z1 : ((k : Int) == (n0 : Int)) = false := by rw [beq_eq_false_iff_ne]; omega
      have z2 : decide ((k : Int) = (n0 : Int)) = false := by rw [decide_eq_false_iff_not]; omega
      have z3 : (k == n0) = false := by rw [beq_eq_false_iff_ne]; omega
      have z4 : decide (k = n0) = false := by rw [decide_eq_false_iff_not]; omega
      have k0 : (0 : Int) ≤ (k : Int) := by omega
      have kn : (k : Int) < (n0 : Int) := by omega
      have hbW := (HB.out.1.below hbel).more hbel.size
      obtain ⟨bb, oo, eA, _, hbbW, hcell⟩ := hbW.at_ (k := k) (by simp [bv]; omega)
      obtain ⟨X, hX⟩ : ∃ X, at_ b k = X := ⟨_, rfl⟩
      have hX8 : X < 256 := by rw [← hX]; exact UInt8.toNat_lt _
      have hx0 := hcell k (.int .u8 (X : Int)) (by
       rw [← hX]
       unfold at_
       simp [bv, u8v, List.getElem?_eq_getElem (show k < b.length by omega)])
      obtain ⟨A3, hsl3, hS3⟩ := HB.out.2.2.2.2.2.1 k (by omega) HB.out.2.2.1
      have hRow := RRow_any wr.drew A3 (n0 - k) (c - k) (b.drop k) X (by rw [at_drop0]; exact hX) hX8 (by omega) (hS3 wr _ b HB.out.2.1.symm hbW) (by rw [List.length_drop]; have := HB.out.2.1; omega) (by have := HB.out.2.2.1; omega) (by have := HB.out.2.2.2.1; omega) (by have := HB.out.2.2.2.2.1; omega)
      have hrd := rowS_drop b k
      have hrl := rowS_le b (k := k + 1) (by omega)
      obtain ⟨G, hG⟩ : ∃ G, rowS (b.drop k) 1 = G := ⟨_, rfl⟩
      rw [hG] at hRow hrd
      have HR := Lib.hid hRow
      have HRD := Lib.hid (And.intro hrd (And.intro hrl hX))
      have HSL := Lib.hid hsl3
      clear hRow hrd hrl hX hG hsl3 hS3 hcell hbW
      subst eA
      have cx : IntKind.i64.wrap (X : Int) = (X : Int) := by rw [IntKind.wrap_i64]; omega
      have HW := Lib.hid (And.intro h2 (And.intro h8 (And.intro hO (And.intro hs2 (And.intro hbel (And.intro hl0 hl1))))))
      by_cases q2 : 64 ≤ X
      ·have d2 : decide ((64 : Int) ≤ (X : Int)) = true := by rw [decide_eq_true_eq]; omega
       have e0 := cellB hx0
       have hq0 : KB wr.heap wr := KB.refl wr
       clear h2 h8 hO hbel hl0 hl1
       go_wp2_with fail
       refine bstartH (wr.heap) (by kernel_rfl) ?_
       refine btake 0 (oi := _) (v := ?_) (by simp only [List.getElem?_toArray, List.getElem?_cons_zero]; rfl) (by kernel_rfl) (by exact fun _ _ _ h => h) (by first | assumption | exact KB.refl _) (.inl ⟨by rfl, fun W hW => ?_⟩) ?_; rotate_left
       ·(go_simp; first | done | with_reducible rfl)
       try simp only [Act.put, List.setIfInBounds_toArray, List.set_cons_zero, List.set_cons_succ]
       refine btake 1 (oi := _) (v := ?_) (by simp only [getElem?_toArray, getElem?_cons_succ, getElem?_cons_zero]; rfl) (by kernel_rfl) (by exact fun _ _ _ h => h) (by first | assumption | exact KB.refl _) (.inl ⟨by rfl, fun W hW => ?_⟩) ?_; rotate_left
       ·(go_simp; first | done | with_reducible rfl)
       try simp only [Act.put, List.setIfInBounds_toArray, List.set_cons_zero, List.set_cons_succ]
       refine btake 2 (oi := _) (v := ?_) (by simp only [getElem?_toArray, getElem?_cons_succ, getElem?_cons_zero]; rfl) (by kernel_rfl) (by exact fun _ _ _ h => h) (by first | assumption | exact KB.refl _) (.inl ⟨by rfl, fun W hW => ?_⟩) ?_; rotate_left
       ·(go_simp; first | done | with_reducible rfl)
       try simp only [Act.put, List.setIfInBounds_toArray, List.set_cons_zero, List.set_cons_succ]
       refine btake 3 (oi := _) (v := ?_) (by simp only [getElem?_toArray, getElem?_cons_succ, getElem?_cons_zero]; rfl) (by kernel_rfl) (by exact fun _ _ _ h => h) (by first | assumption | exact KB.refl _) (.inl ⟨by rfl, fun W hW => ?_⟩) ?_; rotate_left
       ·(go_simp; first | done | with_reducible rfl)
       try simp only [Act.put, List.setIfInBounds_toArray, List.set_cons_zero, List.set_cons_succ]
       refine btake 4 (oi := _) (v := ?_) (by simp only [getElem?_toArray, getElem?_cons_succ, getElem?_cons_zero]; rfl) (by kernel_rfl) (by exact fun _ _ _ h => h) (by first | assumption | exact KB.refl _) (.inl ⟨by rfl, fun W hW => ?_⟩) ?_; rotate_left
       ·(go_simp; first | done | with_reducible rfl)
       try simp only [Act.put, List.setIfInBounds_toArray, List.set_cons_zero, List.set_cons_succ]
       refine btake 5 (oi := _) (v := ?_) (by simp only [getElem?_toArray, getElem?_cons_succ, getElem?_cons_zero]; rfl) (by kernel_rfl) (by exact fun _ _ _ h => h) (by first | assumption | exact KB.refl _) (.inl ⟨by rfl, fun W hW => ?_⟩) ?_; rotate_left
       ·(go_simp; first | done | with_reducible rfl)
       try simp only [Act.put, List.setIfInBounds_toArray, List.set_cons_zero, List.set_cons_succ]
       refine btake 6 (oi := _) (v := undef) (by simp only [getElem?_toArray, getElem?_cons_succ, getElem?_cons_zero]; rfl) (by kernel_rfl) (by exact fun _ _ _ h => h) (by first | assumption | exact KB.refl _) (.inr ⟨by rfl, rfl⟩) ?_
       try simp only [Act.put, List.setIfInBounds_toArray, List.set_cons_zero, List.set_cons_succ]
       refine btake 7 (oi := _) (v := undef) (by simp only [getElem?_toArray, getElem?_cons_succ, getElem?_cons_zero]; rfl) (by kernel_rfl) (by exact fun _ _ _ h => h) (by first | assumption | exact KB.refl _) (.inr ⟨by rfl, rfl⟩) ?_
       try simp only [Act.put, List.setIfInBounds_toArray, List.set_cons_zero, List.set_cons_succ]
       refine btake 8 (oi := _) (v := undef) (by simp only [getElem?_toArray, getElem?_cons_succ, getElem?_cons_zero]; rfl) (by kernel_rfl) (by exact fun _ _ _ h => h) (by first | assumption | exact KB.refl _) (.inr ⟨by rfl, rfl⟩) ?_
       try simp only [Act.put, List.setIfInBounds_toArray, List.set_cons_zero, List.set_cons_succ]
       refine btake 9 (oi := _) (v := undef) (by simp only [getElem?_toArray, getElem?_cons_succ, getElem?_cons_zero]; rfl) (by kernel_rfl) (by exact fun _ _ _ h => h) (by first | assumption | exact KB.refl _) (.inr ⟨by rfl, rfl⟩) ?_
       try simp only [Act.put, List.setIfInBounds_toArray, List.set_cons_zero, List.set_cons_succ]
       refine btake 10 (oi := _) (v := undef) (by simp only [getElem?_toArray, getElem?_cons_succ, getElem?_cons_zero]; rfl) (by kernel_rfl) (by exact fun _ _ _ h => h) (by first | assumption | exact KB.refl _) (.inr ⟨by rfl, rfl⟩) ?_
       try simp only [Act.put, List.setIfInBounds_toArray, List.set_cons_zero, List.set_cons_succ]
       refine btake 11 (oi := _) (v := undef) (by simp only [getElem?_toArray, getElem?_cons_succ, getElem?_cons_zero]; rfl) (by kernel_rfl) (by exact fun _ _ _ h => h) (by first | assumption | exact KB.refl _) (.inr ⟨by rfl, rfl⟩) ?_
       try simp only [Act.put, List.setIfInBounds_toArray, List.set_cons_zero, List.set_cons_succ]
       refine btake 12 (oi := _) (v := undef) (by simp only [getElem?_toArray, getElem?_cons_succ, getElem?_cons_zero]; rfl) (by kernel_rfl) (by exact fun _ _ _ h => h) (by first | assumption | exact KB.refl _) (.inr ⟨by rfl, rfl⟩) ?_
       try simp only [Act.put, List.setIfInBounds_toArray, List.set_cons_zero, List.set_cons_succ]
       refine btake 13 (oi := _) (v := undef) (by simp only [getElem?_toArray, getElem?_cons_succ, getElem?_cons_zero]; rfl) (by kernel_rfl) (by exact fun _ _ _ h => h) (by first | assumption | exact KB.refl _) (.inr ⟨by rfl, rfl⟩) ?_
       try simp only [Act.put, List.setIfInBounds_toArray, List.set_cons_zero, List.set_cons_succ]
       refine btake 14 (oi := _) (v := undef) (by simp only [getElem?_toArray, getElem?_cons_succ, getElem?_cons_zero]; rfl) (by kernel_rfl) (by exact fun _ _ _ h => h) (by first | assumption | exact KB.refl _) (.inr ⟨by rfl, rfl⟩) ?_
       try simp only [Act.put, List.setIfInBounds_toArray, List.set_cons_zero, List.set_cons_succ]
       refine btake 15 (oi := _) (v := undef) (by simp only [getElem?_toArray, getElem?_cons_succ, getElem?_cons_zero]; rfl) (by kernel_rfl) (by exact fun _ _ _ h => h) (by first | assumption | exact KB.refl _) (.inr ⟨by rfl, rfl⟩) ?_
       try simp only [Act.put, List.setIfInBounds_toArray, List.set_cons_zero, List.set_cons_succ]
       refine btake 16 (oi := _) (v := undef) (by simp only [getElem?_toArray, getElem?_cons_succ, getElem?_cons_zero]; rfl) (by kernel_rfl) (by exact fun _ _ _ h => h) (by first | assumption | exact KB.refl _) (.inr ⟨by rfl, rfl⟩) ?_
       try simp only [Act.put, List.setIfInBounds_toArray, List.set_cons_zero, List.set_cons_succ]
       refine btake 17 (oi := _) (v := undef) (by simp only [getElem?_toArray, getElem?_cons_succ, getElem?_cons_zero]; rfl) (by kernel_rfl) (by exact fun _ _ _ h => h) (by first | assumption | exact KB.refl _) (.inr ⟨by rfl, rfl⟩) ?_
       try simp only [Act.put, List.setIfInBounds_toArray, List.set_cons_zero, List.set_cons_succ]
       refine btake 18 (oi := _) (v := undef) (by simp only [getElem?_toArray, getElem?_cons_succ, getElem?_cons_zero]; rfl) (by kernel_rfl) (by exact fun _ _ _ h => h) (by first | assumption | exact KB.refl _) (.inr ⟨by rfl, rfl⟩) ?_
       try simp only [Act.put, List.setIfInBounds_toArray, List.set_cons_zero, List.set_cons_succ]
       refine btake 19 (oi := _) (v := undef) (by simp only [getElem?_toArray, getElem?_cons_succ, getElem?_cons_zero]; rfl) (by kernel_rfl) (by exact fun _ _ _ h => h) (by first | assumption | exact KB.refl _) (.inr ⟨by rfl, rfl⟩) ?_
       try simp only [Act.put, List.setIfInBounds_toArray, List.set_cons_zero, List.set_cons_succ]
       refine btake 20 (oi := _) (v := undef) (by simp only [getElem?_toArray, getElem?_cons_succ, getElem?_cons_zero]; rfl) (by kernel_rfl) (by exact fun _ _ _ h => h) (by first | assumption | exact KB.refl _) (.inr ⟨by rfl, rfl⟩) ?_
       try simp only [Act.put, List.setIfInBounds_toArray, List.set_cons_zero, List.set_cons_succ]
       refine btake 21 (oi := _) (v := undef) (by simp only [getElem?_toArray, getElem?_cons_succ, getElem?_cons_zero]; rfl) (by kernel_rfl) (by exact fun _ _ _ h => h) (by first | assumption | exact KB.refl _) (.inr ⟨by rfl, rfl⟩) ?_
       try simp only [Act.put, List.setIfInBounds_toArray, List.set_cons_zero, List.set_cons_succ]
       refine btake 22 (oi := _) (v := undef) (by simp only [getElem?_toArray, getElem?_cons_succ, getElem?_cons_zero]; rfl) (by kernel_rfl) (by exact fun _ _ _ h => h) (by first | assumption | exact KB.refl _) (.inr ⟨by rfl, rfl⟩) ?_
       try simp only [Act.put, List.setIfInBounds_toArray, List.set_cons_zero, List.set_cons_succ]
       refine btake 23 (oi := _) (v := ?_) (by simp only [getElem?_toArray, getElem?_cons_succ, getElem?_cons_zero]; rfl) (by kernel_rfl) (by exact fun _ _ _ h => h) (by first | assumption | exact KB.refl _) (.inl ⟨by rfl, fun W hW => ?_⟩) ?_; rotate_left
       ·(go_simp; first | done | with_reducible rfl)
       try simp only [Act.put, List.setIfInBounds_toArray, List.set_cons_zero, List.set_cons_succ]
       refine bdone (by kernel_rfl) ?_
       have HG := Lib.hid (show T = ([], 0, 21) by rw [HGT.out.1, if_neg (by omega), HRD.out.2.2, if_pos (.inl q2)])
       go_wp2_with fail
       exact bodyPost_ret (results_take rfl _ rfl rfl rfl HZ.out.1.drew) rfl ⟨none, 0, 0, [], by rw [HG.out]; rfl, ⟨rfl, Nat.le_refl _, by simp [maxLen], .inl rfl, by simp, by rw [HG.out]; rfl⟩, HZ.out.2.drew⟩
      ·have d2 : decide ((64 : Int) ≤ (X : Int)) = false := by rw [decide_eq_false_iff_not]; omega
       have e0 := cellB hx0
       rcases Nat.eq_zero_or_pos i with hi0 | hi0
       ·subst hi0
        have q6 : ¬ ((X : Int) ≤ last) := by rw [hl0 rfl]; omega
        clear h2 h8 hO hbel hl0 hl1
        go_wp2_with fail
        refine bstartH (wr.heap) (by kernel_rfl) ?_
        refine btake 0 (oi := _) (v := ?_) (by simp only [List.getElem?_toArray, List.getElem?_cons_zero]; rfl) (by kernel_rfl) (by exact fun _ _ _ h => h) (by first | assumption | exact KB.refl _) (.inl ⟨by rfl, fun W hW => ?_⟩) ?_; rotate_left
        ·(go_simp; first | done | with_reducible rfl)
        try simp only [Act.put, List.setIfInBounds_toArray, List.set_cons_zero, List.set_cons_succ]
        refine btake 1 (oi := _) (v := ?_) (by simp only [getElem?_toArray, getElem?_cons_succ, getElem?_cons_zero]; rfl) (by kernel_rfl) (by exact fun _ _ _ h => h) (by first | assumption | exact KB.refl _) (.inl ⟨by rfl, fun W hW => ?_⟩) ?_; rotate_left
        ·(go_simp; first | done | with_reducible rfl)
        try simp only [Act.put, List.setIfInBounds_toArray, List.set_cons_zero, List.set_cons_succ]
        refine btake 2 (oi := _) (v := ?_) (by simp only [getElem?_toArray, getElem?_cons_succ, getElem?_cons_zero]; rfl) (by kernel_rfl) (by exact fun _ _ _ h => h) (by first | assumption | exact KB.refl _) (.inl ⟨by rfl, fun W hW => ?_⟩) ?_; rotate_left
        ·(go_simp; first | done | with_reducible rfl)
        try simp only [Act.put, List.setIfInBounds_toArray, List.set_cons_zero, List.set_cons_succ]
        refine btake 3 (oi := _) (v := ?_) (by simp only [getElem?_toArray, getElem?_cons_succ, getElem?_cons_zero]; rfl) (by kernel_rfl) (by exact fun _ _ _ h => h) (by first | assumption | exact KB.refl _) (.inl ⟨by rfl, fun W hW => ?_⟩) ?_; rotate_left
        ·(go_simp; first | done | with_reducible rfl)
        try simp only [Act.put, List.setIfInBounds_toArray, List.set_cons_zero, List.set_cons_succ]
        refine btake 4 (oi := _) (v := ?_) (by simp only [getElem?_toArray, getElem?_cons_succ, getElem?_cons_zero]; rfl) (by kernel_rfl) (by exact fun _ _ _ h => h) (by first | assumption | exact KB.refl _) (.inl ⟨by rfl, fun W hW => ?_⟩) ?_; rotate_left
        ·(go_simp; first | done | with_reducible rfl)
        try simp only [Act.put, List.setIfInBounds_toArray, List.set_cons_zero, List.set_cons_succ]
        refine btake 5 (oi := _) (v := ?_) (by simp only [getElem?_toArray, getElem?_cons_succ, getElem?_cons_zero]; rfl) (by kernel_rfl) (by exact fun _ _ _ h => h) (by first | assumption | exact KB.refl _) (.inl ⟨by rfl, fun W hW => ?_⟩) ?_; rotate_left
        ·(go_simp; first | done | with_reducible rfl)
        try simp only [Act.put, List.setIfInBounds_toArray, List.set_cons_zero, List.set_cons_succ]
        refine btake 6 (oi := _) (v := ?_) (by simp only [getElem?_toArray, getElem?_cons_succ, getElem?_cons_zero]; rfl) (by kernel_rfl) (by exact fun _ _ _ h => h) (by first | assumption | exact KB.refl _) (.inl ⟨by rfl, fun W hW => ?_⟩) ?_; rotate_left
        ·(go_simp; first | done | with_reducible rfl)
        try simp only [Act.put, List.setIfInBounds_toArray, List.set_cons_zero, List.set_cons_succ]
        refine btake 7 (oi := _) (v := ?_) (by simp only [getElem?_toArray, getElem?_cons_succ, getElem?_cons_zero]; rfl) (by kernel_rfl) (by exact fun _ _ _ h => h) (by first | assumption | exact KB.refl _) (.inl ⟨by rfl, fun W hW => ?_⟩) ?_; rotate_left
        ·(go_simp; first | done | with_reducible rfl)
        try simp only [Act.put, List.setIfInBounds_toArray, List.set_cons_zero, List.set_cons_succ]
        refine btake 8 (oi := _) (v := ?_) (by simp only [getElem?_toArray, getElem?_cons_succ, getElem?_cons_zero]; rfl) (by kernel_rfl) (by exact fun _ _ _ h => h) (by first | assumption | exact KB.refl _) (.inl ⟨by rfl, fun W hW => ?_⟩) ?_; rotate_left
        ·(go_simp; first | done | with_reducible rfl)
        try simp only [Act.put, List.setIfInBounds_toArray, List.set_cons_zero, List.set_cons_succ]
        refine btake 9 (oi := _) (v := undef) (by simp only [getElem?_toArray, getElem?_cons_succ, getElem?_cons_zero]; rfl) (by kernel_rfl) (by exact fun _ _ _ h => h) (by first | assumption | exact KB.refl _) (.inr ⟨by rfl, rfl⟩) ?_
        try simp only [Act.put, List.setIfInBounds_toArray, List.set_cons_zero, List.set_cons_succ]
        refine btake 10 (oi := _) (v := undef) (by simp only [getElem?_toArray, getElem?_cons_succ, getElem?_cons_zero]; rfl) (by kernel_rfl) (by exact fun _ _ _ h => h) (by first | assumption | exact KB.refl _) (.inr ⟨by rfl, rfl⟩) ?_
        try simp only [Act.put, List.setIfInBounds_toArray, List.set_cons_zero, List.set_cons_succ]
        refine btake 11 (oi := _) (v := undef) (by simp only [getElem?_toArray, getElem?_cons_succ, getElem?_cons_zero]; rfl) (by kernel_rfl) (by exact fun _ _ _ h => h) (by first | assumption | exact KB.refl _) (.inr ⟨by rfl, rfl⟩) ?_
        try simp only [Act.put, List.setIfInBounds_toArray, List.set_cons_zero, List.set_cons_succ]
        refine btake 12 (oi := _) (v := undef) (by simp only [getElem?_toArray, getElem?_cons_succ, getElem?_cons_zero]; rfl) (by kernel_rfl) (by exact fun _ _ _ h => h) (by first | assumption | exact KB.refl _) (.inr ⟨by rfl, rfl⟩) ?_
        try simp only [Act.put, List.setIfInBounds_toArray, List.set_cons_zero, List.set_cons_succ]
        refine btake 13 (oi := _) (v := undef) (by simp only [getElem?_toArray, getElem?_cons_succ, getElem?_cons_zero]; rfl) (by kernel_rfl) (by exact fun _ _ _ h => h) (by first | assumption | exact KB.refl _) (.inr ⟨by rfl, rfl⟩) ?_
        try simp only [Act.put, List.setIfInBounds_toArray, List.set_cons_zero, List.set_cons_succ]
        refine btake 14 (oi := _) (v := undef) (by simp only [getElem?_toArray, getElem?_cons_succ, getElem?_cons_zero]; rfl) (by kernel_rfl) (by exact fun _ _ _ h => h) (by first | assumption | exact KB.refl _) (.inr ⟨by rfl, rfl⟩) ?_
        try simp only [Act.put, List.setIfInBounds_toArray, List.set_cons_zero, List.set_cons_succ]
        refine btake 15 (oi := _) (v := undef) (by simp only [getElem?_toArray, getElem?_cons_succ, getElem?_cons_zero]; rfl) (by kernel_rfl) (by exact fun _ _ _ h => h) (by first | assumption | exact KB.refl _) (.inr ⟨by rfl, rfl⟩) ?_
        try simp only [Act.put, List.setIfInBounds_toArray, List.set_cons_zero, List.set_cons_succ]
        refine btake 16 (oi := _) (v := undef) (by simp only [getElem?_toArray, getElem?_cons_succ, getElem?_cons_zero]; rfl) (by kernel_rfl) (by exact fun _ _ _ h => h) (by first | assumption | exact KB.refl _) (.inr ⟨by rfl, rfl⟩) ?_
        try simp only [Act.put, List.setIfInBounds_toArray, List.set_cons_zero, List.set_cons_succ]
        refine btake 17 (oi := _) (v := undef) (by simp only [getElem?_toArray, getElem?_cons_succ, getElem?_cons_zero]; rfl) (by kernel_rfl) (by exact fun _ _ _ h => h) (by first | assumption | exact KB.refl _) (.inr ⟨by rfl, rfl⟩) ?_
        try simp only [Act.put, List.setIfInBounds_toArray, List.set_cons_zero, List.set_cons_succ]
        refine btake 18 (oi := _) (v := undef) (by simp only [getElem?_toArray, getElem?_cons_succ, getElem?_cons_zero]; rfl) (by kernel_rfl) (by exact fun _ _ _ h => h) (by first | assumption | exact KB.refl _) (.inr ⟨by rfl, rfl⟩) ?_
        try simp only [Act.put, List.setIfInBounds_toArray, List.set_cons_zero, List.set_cons_succ]
        refine btake 19 (oi := _) (v := undef) (by simp only [getElem?_toArray, getElem?_cons_succ, getElem?_cons_zero]; rfl) (by kernel_rfl) (by exact fun _ _ _ h => h) (by first | assumption | exact KB.refl _) (.inr ⟨by rfl, rfl⟩) ?_
        try simp only [Act.put, List.setIfInBounds_toArray, List.set_cons_zero, List.set_cons_succ]
        refine btake 20 (oi := _) (v := undef) (by simp only [getElem?_toArray, getElem?_cons_succ, getElem?_cons_zero]; rfl) (by kernel_rfl) (by exact fun _ _ _ h => h) (by first | assumption | exact KB.refl _) (.inr ⟨by rfl, rfl⟩) ?_
        try simp only [Act.put, List.setIfInBounds_toArray, List.set_cons_zero, List.set_cons_succ]
        refine btake 21 (oi := _) (v := undef) (by simp only [getElem?_toArray, getElem?_cons_succ, getElem?_cons_zero]; rfl) (by kernel_rfl) (by exact fun _ _ _ h => h) (by first | assumption | exact KB.refl _) (.inr ⟨by rfl, rfl⟩) ?_
        try simp only [Act.put, List.setIfInBounds_toArray, List.set_cons_zero, List.set_cons_succ]
        refine btake 22 (oi := _) (v := ?_) (by simp only [getElem?_toArray, getElem?_cons_succ, getElem?_cons_zero]; rfl) (by kernel_rfl) (by exact fun _ _ _ h => h) (by first | assumption | exact KB.refl _) (.inl ⟨by rfl, fun W hW => ?_⟩) ?_; rotate_left
        ·(go_simp; first | done | with_reducible rfl)
        try simp only [Act.put, List.setIfInBounds_toArray, List.set_cons_zero, List.set_cons_succ]
        refine btake 23 (oi := _) (v := ?_) (by simp only [getElem?_toArray, getElem?_cons_succ, getElem?_cons_zero]; rfl) (by kernel_rfl) (by exact fun _ _ _ h => h) (by first | assumption | exact KB.refl _) (.inl ⟨by rfl, fun W hW => ?_⟩) ?_; rotate_left
        ·(go_simp; first | done | with_reducible rfl)
        try simp only [Act.put, List.setIfInBounds_toArray, List.set_cons_zero, List.set_cons_succ]
        refine bdone (by kernel_rfl) ?_
        have HNF := Lib.hid (show ¬ (64 ≤ X ∨ (X : Int) ≤ last) by omega)
        clear e0
        go_wp2_with (refine mval rfl (exec_postB rfl rfl rfl HSL.out _) ?_)
        refine HR.out.mono ?_
        rintro e w5 ⟨r, vq, rfl, hq5, hr5, hb5⟩
        obtain ⟨gl, gp, ge⟩ := G
        dsimp only at hq5 hr5 ⊢
        obtain ⟨Aq, cq, e5, hq1, hq2, hq3, hq4⟩ := hq5.form
        subst e5
        by_cases he5 : ge = 0
        ·subst he5
         obtain rfl : r = (X : Int) := hr5 rfl
         have B5 : Below wr.heap.size wr w5 := (Below.refl _ wr).drew.trans hb5
         have hb6 := balloc (Below.refl w5.heap.size w5) (.cells #[.int .i64 (X : Int), .slice Aq gl.length cq] 60)
         have a10 := At.new w5 60 #[.int .i64 (X : Int), .slice Aq gl.length cq]
         have B6 := B5.trans (hb6.mono B5.size)
         have hO6 := HW.out.2.2.1.below B6
         have hst : RSt w5 ⟨(X : Int), Aq, cq, gl⟩ := ⟨hq3, hq1, hq2⟩
         have y8 := (HW.out.2.1.below B6).c 0 rfl
         have hkk : k + 1 ≤ b.length := by omega
         have hnext : goT b m (R.map RA.p ++ [((X : Int), gl)]) (X : Int) (k + gp) = T := by
          have h1 := HGT.out.1
          rw [if_neg (by omega), HRD.out.2.2, if_neg HNF.out, HRD.out.1] at h1
          simp only [sh, ne_eq, not_true_eq_false, if_false, if_true] at h1
          exact h1.symm
         have hkg : k + gp ≤ b.length := by
          have h1 := HRD.out.2.1
          rw [HRD.out.1] at h1
          simpa [sh] using h1
         have hap : gl ≠ [] → ∀ b1 o1 s1, Aq = some ⟨b1, o1, s1⟩ → wr.heap.size ≤ b1 := fun _ b1 o1 s1 e => (hq4.2 ⟨b1, o1, s1⟩ e).1
         have wkg : IntKind.i64.wrap ((k : Int) + (gp : Int)) = ((k + gp : Nat) : Int) := by have := HB.out.2.1; have := HB.out.2.2.2.2.1; rw [IntKind.wrap_i64]; omega
         have H5 := Lib.hid (And.intro hst (And.intro B5 (And.intro B6 (And.intro a10 (And.intro hnext (And.intro hkg hap))))))
         have hszO : w.heap.size + 2 ≤ (w5.alloc (.cells #[.int .i64 (X : Int), .slice Aq gl.length cq] 60)).heap.size := Nat.le_trans HW.out.2.2.2.1 B6.size
         have ya := a10.c 0 rfl
         have yb := a10.c 1 rfl
         have hb7 : Below (w5.alloc (.cells #[.int .i64 (X : Int), .slice Aq gl.length cq] 60)).heap.size (w5.alloc (.cells #[.int .i64 (X : Int), .slice Aq gl.length cq] 60)) ((w5.alloc (.cells #[.int .i64 (X : Int), .slice Aq gl.length cq] 60)).alloc (.cells #[.int .i64 (X : Int), .slice Aq gl.length cq] 60)) := balloc (Below.refl _ _) _
         have hsl7 : Sl ((w5.alloc (.cells #[.int .i64 (X : Int), .slice Aq gl.length cq] 60)).alloc (.cells #[.int .i64 (X : Int), .slice Aq gl.length cq] 60)) ((w5.alloc (.cells #[.int .i64 (X : Int), .slice Aq gl.length cq] 60)).alloc (.cells #[.int .i64 (X : Int), .slice Aq gl.length cq] 60)).heap.size (some ⟨w5.heap.size + 1, 0, none⟩) (EV.dv [⟨(X : Int), Aq, cq, gl⟩]) := by
          have := (ET.Own.row (c := 1) (EV.own1 (w5.alloc (.cells #[.int .i64 (X : Int), .slice Aq gl.length cq] 60)) ⟨(X : Int), Aq, cq, gl⟩)).sl
          rw [World.size_alloc w5] at this
          exact this
         have hO7 := hO6.below hb7
         have h87 := (HW.out.2.1.below B6).below hb7
         have hsz7 : w.heap.size + 2 ≤ ((w5.alloc (.cells #[.int .i64 (X : Int), .slice Aq gl.length cq] 60)).alloc (.cells #[.int .i64 (X : Int), .slice Aq gl.length cq] 60)).heap.size := Nat.le_trans hszO hb7.size
         have H7 := Lib.hid (And.intro hsl7 (And.intro hO7 (And.intro h87 (And.intro hb7 hsz7))))
         have HLN := Lib.hid (show R.length + 1 ≤ 1000 by have := HRL.out; omega)
         clear hq5 hr5 hb5 hq1 hq2 hq3 hq4 hb6 a10 B5 B6 hst hnext hkg hap HR hb7 hsl7 hO7 h87 hsz7 hszO hO6 p0 f0
         go_wp2_with (at_builtin; refine appE (E := EV) rfl rfl H7.out.2.1.own H7.out.1 rfl rfl rfl (by have := HLN.out; simp; omega) H7.out.2.2.2.2 ?_; intro v9 w9 hown9 hg9 hat9; have H9 := Lib.hid (And.intro hown9 (And.intro hg9 hat9)); have h89 := H7.out.2.2.1.grown hg9 (fun e => by have := (H7.out.2.1.own.lt' _ e).1; omega); have z9 := h89.c 0 rfl; have f9 := h89.f 0 rfl; obtain ⟨A9, c9, e9, _⟩ := hown9.form; obtain ⟨n9, hn9⟩ : ∃ m, (R ++ [(⟨(X : Int), Aq, cq, gl⟩ : RA)]).length = m := ⟨_, rfl⟩; rw [hn9] at e9; have HE9 := Lib.hid (And.intro e9 (And.intro hn9 h89)); subst e9; clear hn9 hown9 hg9 hat9 h89)
         have q2 := grownC w9 (w.heap.size + 1) 0 (.slice A9 n9 c9)
         have hwr5 := H5.out.2.1.size
         have hO9 := (H7.out.2.1.app (q := ⟨(X : Int), Aq, cq, gl⟩) ((H5.out.1.below (balloc (Below.refl w5.heap.size w5) _)).below H7.out.2.2.2.1) (fun hl b1 o1 s1 e => by
          have x1 := H5.out.2.2.2.2.2.2 hl b1 o1 s1 e
          refine ⟨by have := HW.out.2.2.2.1; omega, fun e' => ?_⟩
          have x3 := (HW.out.2.2.1.own.lt' b1 e').2
          omega) H9.out.1 H9.out.2.1 H9.out.2.2).kept q2 (by omega)
         have hgr : ∀ r, _ → w.heap.size + 2 ≤ r := fun r e => (H7.out.2.1.own.lt' r e).1
         have h29 := (((HW.out.1.below H5.out.2.2.1).below H7.out.2.2.2.1).grown H9.out.2.1 (fun e => by have := hgr _ e; omega)).grown q2 (fun e => by have := Option.some.inj e; omega)
         have B9 : Below w.heap.size w w9 := ((HW.out.2.2.2.2.1.trans (H5.out.2.2.1.mono HW.out.2.2.2.2.1.size)).trans (H7.out.2.2.2.1.mono (Nat.le_trans HW.out.2.2.2.2.1.size H5.out.2.2.1.size))).grown H9.out.2.1 (Nat.le_trans (by omega) H7.out.2.2.2.2) (fun r e => by have := hgr r e; omega)
         have HF := Lib.hid (And.intro hO9 (And.intro h29 (And.intro (HE9.out.2.2.set 0 (.slice A9 n9 c9) (by simp)) (And.intro (B9.setCell (p := ⟨w.heap.size + 1, 0, none⟩) (show w.heap.size ≤ w.heap.size + 1 by omega) (.slice A9 n9 c9)) (show w.heap.size + 2 ≤ (w9.setCell ⟨w.heap.size + 1, 0, none⟩ (.slice A9 n9 c9)).heap.size by have h1 := H9.out.2.1.size; have h2 := H7.out.2.2.2.2; simp; omega)))))
         clear q2 hO9 hgr h29 B9
         go_roundw
         case rel =>
          have hmm : n - (0 + 1) = m := by have := HGT.out.2; omega
          refine ⟨0 + 1, k + gp, (X : Int), R ++ [⟨(X : Int), Aq, cq, gl⟩], _, by omega, by go_num, rfl, H5.out.2.2.2.2.2.1, by rw [List.length_append, List.length_singleton, HRL.out], by rw [hmm, List.map_append]; exact H5.out.2.2.2.2.1, fun h => absurd h (by omega), fun q' hq' _ => ?_, HF.out.2.1, HF.out.2.2.1, HF.out.1, HF.out.2.2.2.2, HF.out.2.2.2.1⟩
          rw [show 0 + 1 - 1 = 0 from rfl, List.getElem?_append_right (by rw [HRL.out]; omega), HRL.out, Nat.sub_self] at hq'
          rw [← Option.some.inj hq']
         case measure => simp [intOf]; omega
        ·have HG := Lib.hid (show T = ([], 0, ge) by
          have h1 := HGT.out.1
          rw [if_neg (by omega), HRD.out.2.2, if_neg HNF.out, HRD.out.1] at h1
          simp only [sh] at h1
          rw [if_pos he5] at h1
          exact h1)
         have B5 : Below wr.heap.size wr w5 := (Below.refl _ wr).drew.trans hb5
         have hb6 := B5.trans ((balloc (Below.refl w5.heap.size w5) (.cells #[.int .i64 r, .slice Aq gl.length cq] 60)).mono B5.size)
         have z1 : ((ge : Int) == 0) = false := by rw [beq_eq_false_iff_ne]; omega
         have z2 : decide ((ge : Int) = 0) = false := by rw [decide_eq_false_iff_not]; omega
         have h26 := HW.out.1.below hb6
         have p1 := h26.c 0 rfl
         have f1 := h26.f 0 rfl
         have HY := Lib.hid (And.intro (h26.set 0 (.slice none 0 0) (by simp)) ((HW.out.2.2.2.2.1.trans (hb6.mono HW.out.2.2.2.2.1.size)).setCell (p := ⟨w.heap.size, 0, none⟩) (Nat.le_refl _) (.slice none 0 0)))
         clear h26 hb6 B5 hq5 hb5 p0 f0 hq1 hq2 hq3 hq4
         go_wp2_with fail
         exact bodyPost_ret (results_take rfl _ rfl rfl rfl HY.out.1) rfl ⟨none, 0, 0, [], by rw [HG.out]; rfl, ⟨rfl, Nat.le_refl _, by simp [maxLen], .inl rfl, by simp, by rw [HG.out]; rfl⟩, HY.out.2⟩
       ·have d3 : decide ((0 : Int) < (i : Int)) = true := by rw [decide_eq_true_eq]; omega
        have hi1 : IntKind.i64.wrap ((i : Int) - 1) = ((i - 1 : Nat) : Int) := by rw [IntKind.wrap_i64]; omega
        obtain ⟨A', c', rfl, hvs⟩ := hO.vs
        obtain ⟨q, b9, o9, hq, _, _, rfl, hb9W, g0, _⟩ := hvs.at_ (k := i - 1) (by have := HRL.out; omega)
        have hql := hl1 q hq hi0
        rw [hql] at g0
        have i0 : (0 : Int) ≤ ((i - 1 : Nat) : Int) := by omega
        have i1 : ((i - 1 : Nat) : Int) < (R.length : Int) := by have := HRL.out; omega
        have e8 := h8.e 0 rfl
        have e9 := cellB g0
        clear h2 h8 hO hbel hl0 hl1 hvs hq hql
        by_cases q6 : (X : Int) ≤ last
        ·have d6 : decide ((X : Int) ≤ last) = true := decide_eq_true q6
         go_wp2_with fail
         refine bstartH (wr.heap) (by kernel_rfl) ?_
         refine btake 0 (oi := _) (v := ?_) (by simp only [List.getElem?_toArray, List.getElem?_cons_zero]; rfl) (by kernel_rfl) (by exact fun _ _ _ h => h) (by first | assumption | exact KB.refl _) (.inl ⟨by rfl, fun W hW => ?_⟩) ?_; rotate_left
         ·(go_simp; first | done | with_reducible rfl)
         try simp only [Act.put, List.setIfInBounds_toArray, List.set_cons_zero, List.set_cons_succ]
         refine btake 1 (oi := _) (v := ?_) (by simp only [getElem?_toArray, getElem?_cons_succ, getElem?_cons_zero]; rfl) (by kernel_rfl) (by exact fun _ _ _ h => h) (by first | assumption | exact KB.refl _) (.inl ⟨by rfl, fun W hW => ?_⟩) ?_; rotate_left
         ·(go_simp; first | done | with_reducible rfl)
         try simp only [Act.put, List.setIfInBounds_toArray, List.set_cons_zero, List.set_cons_succ]
         refine btake 2 (oi := _) (v := ?_) (by simp only [getElem?_toArray, getElem?_cons_succ, getElem?_cons_zero]; rfl) (by kernel_rfl) (by exact fun _ _ _ h => h) (by first | assumption | exact KB.refl _) (.inl ⟨by rfl, fun W hW => ?_⟩) ?_; rotate_left
         ·(go_simp; first | done | with_reducible rfl)
         try simp only [Act.put, List.setIfInBounds_toArray, List.set_cons_zero, List.set_cons_succ]
         refine btake 3 (oi := _) (v := ?_) (by simp only [getElem?_toArray, getElem?_cons_succ, getElem?_cons_zero]; rfl) (by kernel_rfl) (by exact fun _ _ _ h => h) (by first | assumption | exact KB.refl _) (.inl ⟨by rfl, fun W hW => ?_⟩) ?_; rotate_left
         ·(go_simp; first | done | with_reducible rfl)
         try simp only [Act.put, List.setIfInBounds_toArray, List.set_cons_zero, List.set_cons_succ]
         refine btake 4 (oi := _) (v := ?_) (by simp only [getElem?_toArray, getElem?_cons_succ, getElem?_cons_zero]; rfl) (by kernel_rfl) (by exact fun _ _ _ h => h) (by first | assumption | exact KB.refl _) (.inl ⟨by rfl, fun W hW => ?_⟩) ?_; rotate_left
         ·(go_simp; first | done | with_reducible rfl)
         try simp only [Act.put, List.setIfInBounds_toArray, List.set_cons_zero, List.set_cons_succ]
         refine btake 5 (oi := _) (v := ?_) (by simp only [getElem?_toArray, getElem?_cons_succ, getElem?_cons_zero]; rfl) (by kernel_rfl) (by exact fun _ _ _ h => h) (by first | assumption | exact KB.refl _) (.inl ⟨by rfl, fun W hW => ?_⟩) ?_; rotate_left
         ·(go_simp; first | done | with_reducible rfl)
         try simp only [Act.put, List.setIfInBounds_toArray, List.set_cons_zero, List.set_cons_succ]
         refine btake 6 (oi := _) (v := ?_) (by simp only [getElem?_toArray, getElem?_cons_succ, getElem?_cons_zero]; rfl) (by kernel_rfl) (by exact fun _ _ _ h => h) (by first | assumption | exact KB.refl _) (.inl ⟨by rfl, fun W hW => ?_⟩) ?_; rotate_left
         ·(go_simp; first | done | with_reducible rfl)
         try simp only [Act.put, List.setIfInBounds_toArray, List.set_cons_zero, List.set_cons_succ]
         refine btake 7 (oi := _) (v := ?_) (by simp only [getElem?_toArray, getElem?_cons_succ, getElem?_cons_zero]; rfl) (by kernel_rfl) (by exact fun _ _ _ h => h) (by first | assumption | exact KB.refl _) (.inl ⟨by rfl, fun W hW => ?_⟩) ?_; rotate_left
         ·(go_simp; first | done | with_reducible rfl)
         try simp only [Act.put, List.setIfInBounds_toArray, List.set_cons_zero, List.set_cons_succ]
         refine btake 8 (oi := _) (v := ?_) (by simp only [getElem?_toArray, getElem?_cons_succ, getElem?_cons_zero]; rfl) (by kernel_rfl) (by exact fun _ _ _ h => h) (by first | assumption | exact KB.refl _) (.inl ⟨by rfl, fun W hW => ?_⟩) ?_; rotate_left
         ·(go_simp; first | done | with_reducible rfl)
         try simp only [Act.put, List.setIfInBounds_toArray, List.set_cons_zero, List.set_cons_succ]
         refine btake 9 (oi := _) (v := ?_) (by simp only [getElem?_toArray, getElem?_cons_succ, getElem?_cons_zero]; rfl) (by kernel_rfl) (by exact fun _ _ _ h => h) (by first | assumption | exact KB.refl _) (.inl ⟨by rfl, fun W hW => ?_⟩) ?_; rotate_left
         ·(go_simp; first | done | with_reducible rfl)
         try simp only [Act.put, List.setIfInBounds_toArray, List.set_cons_zero, List.set_cons_succ]
         refine btake 10 (oi := _) (v := ?_) (by simp only [getElem?_toArray, getElem?_cons_succ, getElem?_cons_zero]; rfl) (by kernel_rfl) (by exact fun _ _ _ h => h) (by first | assumption | exact KB.refl _) (.inl ⟨by rfl, fun W hW => ?_⟩) ?_; rotate_left
         ·(go_simp; first | done | with_reducible rfl)
         try simp only [Act.put, List.setIfInBounds_toArray, List.set_cons_zero, List.set_cons_succ]
         refine btake 11 (oi := _) (v := ?_) (by simp only [getElem?_toArray, getElem?_cons_succ, getElem?_cons_zero]; rfl) (by kernel_rfl) (by exact fun _ _ _ h => h) (by first | assumption | exact KB.refl _) (.inl ⟨by rfl, fun W hW => ?_⟩) ?_; rotate_left
         ·(go_simp; first | done | with_reducible rfl)
         try simp only [Act.put, List.setIfInBounds_toArray, List.set_cons_zero, List.set_cons_succ]
         refine btake 12 (oi := _) (v := ?_) (by simp only [getElem?_toArray, getElem?_cons_succ, getElem?_cons_zero]; rfl) (by kernel_rfl) (by exact fun _ _ _ h => h) (by first | assumption | exact KB.refl _) (.inl ⟨by rfl, fun W hW => ?_⟩) ?_; rotate_left
         ·(go_simp; first | done | with_reducible rfl)
         try simp only [Act.put, List.setIfInBounds_toArray, List.set_cons_zero, List.set_cons_succ]
         refine btake 13 (oi := _) (v := ?_) (by simp only [getElem?_toArray, getElem?_cons_succ, getElem?_cons_zero]; rfl) (by kernel_rfl) (by exact fun _ _ _ h => h) (by first | assumption | exact KB.refl _) (.inl ⟨by rfl, fun W hW => ?_⟩) ?_; rotate_left
         ·(go_simp; first | done | with_reducible rfl)
         try simp only [Act.put, List.setIfInBounds_toArray, List.set_cons_zero, List.set_cons_succ]
         refine btake 14 (oi := _) (v := ?_) (by simp only [getElem?_toArray, getElem?_cons_succ, getElem?_cons_zero]; rfl) (by kernel_rfl) (by exact fun _ _ _ h => h) (by first | assumption | exact KB.refl _) (.inl ⟨by rfl, fun W hW => ?_⟩) ?_; rotate_left
         ·(go_simp; first | done | with_reducible rfl)
         try simp only [Act.put, List.setIfInBounds_toArray, List.set_cons_zero, List.set_cons_succ]
         refine btake 15 (oi := _) (v := ?_) (by simp only [getElem?_toArray, getElem?_cons_succ, getElem?_cons_zero]; rfl) (by kernel_rfl) (by exact fun _ _ _ h => h) (by first | assumption | exact KB.refl _) (.inl ⟨by rfl, fun W hW => ?_⟩) ?_; rotate_left
         ·(go_simp; first | done | with_reducible rfl)
         try simp only [Act.put, List.setIfInBounds_toArray, List.set_cons_zero, List.set_cons_succ]
         refine btake 16 (oi := _) (v := ?_) (by simp only [getElem?_toArray, getElem?_cons_succ, getElem?_cons_zero]; rfl) (by kernel_rfl) (by exact fun _ _ _ h => h) (by first | assumption | exact KB.refl _) (.inl ⟨by rfl, fun W hW => ?_⟩) ?_; rotate_left
         ·(go_simp; first | done | with_reducible rfl)
         try simp only [Act.put, List.setIfInBounds_toArray, List.set_cons_zero, List.set_cons_succ]
         refine btake 17 (oi := _) (v := ?_) (by simp only [getElem?_toArray, getElem?_cons_succ, getElem?_cons_zero]; rfl) (by kernel_rfl) (by exact fun _ _ _ h => h) (by first | assumption | exact KB.refl _) (.inl ⟨by rfl, fun W hW => ?_⟩) ?_; rotate_left
         ·(go_simp; first | done | with_reducible rfl)
         try simp only [Act.put, List.setIfInBounds_toArray, List.set_cons_zero, List.set_cons_succ]
         refine btake 18 (oi := _) (v := ?_) (by simp only [getElem?_toArray, getElem?_cons_succ, getElem?_cons_zero]; rfl) (by kernel_rfl) (by exact fun _ _ _ h => h) (by first | assumption | exact KB.refl _) (.inl ⟨by rfl, fun W hW => ?_⟩) ?_; rotate_left
         ·(go_simp; first | done | with_reducible rfl)
         try simp only [Act.put, List.setIfInBounds_toArray, List.set_cons_zero, List.set_cons_succ]
         refine btake 19 (oi := _) (v := ?_) (by simp only [getElem?_toArray, getElem?_cons_succ, getElem?_cons_zero]; rfl) (by kernel_rfl) (by exact fun _ _ _ h => h) (by first | assumption | exact KB.refl _) (.inl ⟨by rfl, fun W hW => ?_⟩) ?_; rotate_left
         ·(go_simp; first | done | with_reducible rfl)
         try simp only [Act.put, List.setIfInBounds_toArray, List.set_cons_zero, List.set_cons_succ]
         refine btake 20 (oi := _) (v := ?_) (by simp only [getElem?_toArray, getElem?_cons_succ, getElem?_cons_zero]; rfl) (by kernel_rfl) (by exact fun _ _ _ h => h) (by first | assumption | exact KB.refl _) (.inl ⟨by rfl, fun W hW => ?_⟩) ?_; rotate_left
         ·(go_simp; first | done | with_reducible rfl)
         try simp only [Act.put, List.setIfInBounds_toArray, List.set_cons_zero, List.set_cons_succ]
         refine btake 21 (oi := _) (v := ?_) (by simp only [getElem?_toArray, getElem?_cons_succ, getElem?_cons_zero]; rfl) (by kernel_rfl) (by exact fun _ _ _ h => h) (by first | assumption | exact KB.refl _) (.inl ⟨by rfl, fun W hW => ?_⟩) ?_; rotate_left
         ·(go_simp; first | done | with_reducible rfl)
         try simp only [Act.put, List.setIfInBounds_toArray, List.set_cons_zero, List.set_cons_succ]
         refine btake 22 (oi := _) (v := ?_) (by simp only [getElem?_toArray, getElem?_cons_succ, getElem?_cons_zero]; rfl) (by kernel_rfl) (by exact fun _ _ _ h => h) (by first | assumption | exact KB.refl _) (.inl ⟨by rfl, fun W hW => ?_⟩) ?_; rotate_left
         ·(go_simp; first | done | with_reducible rfl)
         try simp only [Act.put, List.setIfInBounds_toArray, List.set_cons_zero, List.set_cons_succ]
         refine btake 23 (oi := _) (v := ?_) (by simp only [getElem?_toArray, getElem?_cons_succ, getElem?_cons_zero]; rfl) (by kernel_rfl) (by exact fun _ _ _ h => h) (by first | assumption | exact KB.refl _) (.inl ⟨by rfl, fun W hW => ?_⟩) ?_; rotate_left
         ·(go_simp; first | done | with_reducible rfl)
         try simp only [Act.put, List.setIfInBounds_toArray, List.set_cons_zero, List.set_cons_succ]
         refine bdone (by kernel_rfl) ?_
         have HG := Lib.hid (show T = ([], 0, 21) by rw [HGT.out.1, if_neg (by omega), HRD.out.2.2, if_pos (.inr q6)])
         go_wp2_with fail
         exact bodyPost_ret (results_take rfl _ rfl rfl rfl HZ.out.1.drew) rfl ⟨none, 0, 0, [], by rw [HG.out]; rfl, ⟨rfl, Nat.le_refl _, by simp [maxLen], .inl rfl, by simp, by rw [HG.out]; rfl⟩, HZ.out.2.drew⟩
        ·have d6 : decide ((X : Int) ≤ last) = false := decide_eq_false q6
         go_wp2_with fail
         refine bstartH (wr.heap) (by kernel_rfl) ?_
         refine btake 0 (oi := _) (v := ?_) (by simp only [List.getElem?_toArray, List.getElem?_cons_zero]; rfl) (by kernel_rfl) (by exact fun _ _ _ h => h) (by first | assumption | exact KB.refl _) (.inl ⟨by rfl, fun W hW => ?_⟩) ?_; rotate_left
         ·(go_simp; first | done | with_reducible rfl)
         try simp only [Act.put, List.setIfInBounds_toArray, List.set_cons_zero, List.set_cons_succ]
         refine btake 1 (oi := _) (v := ?_) (by simp only [getElem?_toArray, getElem?_cons_succ, getElem?_cons_zero]; rfl) (by kernel_rfl) (by exact fun _ _ _ h => h) (by first | assumption | exact KB.refl _) (.inl ⟨by rfl, fun W hW => ?_⟩) ?_; rotate_left
         ·(go_simp; first | done | with_reducible rfl)
         try simp only [Act.put, List.setIfInBounds_toArray, List.set_cons_zero, List.set_cons_succ]
         refine btake 2 (oi := _) (v := ?_) (by simp only [getElem?_toArray, getElem?_cons_succ, getElem?_cons_zero]; rfl) (by kernel_rfl) (by exact fun _ _ _ h => h) (by first | assumption | exact KB.refl _) (.inl ⟨by rfl, fun W hW => ?_⟩) ?_; rotate_left
         ·(go_simp; first | done | with_reducible rfl)
         try simp only [Act.put, List.setIfInBounds_toArray, List.set_cons_zero, List.set_cons_succ]
         refine btake 3 (oi := _) (v := ?_) (by simp only [getElem?_toArray, getElem?_cons_succ, getElem?_cons_zero]; rfl) (by kernel_rfl) (by exact fun _ _ _ h => h) (by first | assumption | exact KB.refl _) (.inl ⟨by rfl, fun W hW => ?_⟩) ?_; rotate_left
         ·(go_simp; first | done | with_reducible rfl)
         try simp only [Act.put, List.setIfInBounds_toArray, List.set_cons_zero, List.set_cons_succ]
         refine btake 4 (oi := _) (v := ?_) (by simp only [getElem?_toArray, getElem?_cons_succ, getElem?_cons_zero]; rfl) (by kernel_rfl) (by exact fun _ _ _ h => h) (by first | assumption | exact KB.refl _) (.inl ⟨by rfl, fun W hW => ?_⟩) ?_; rotate_left
         ·(go_simp; first | done | with_reducible rfl)
         try simp only [Act.put, List.setIfInBounds_toArray, List.set_cons_zero, List.set_cons_succ]
         refine btake 5 (oi := _) (v := ?_) (by simp only [getElem?_toArray, getElem?_cons_succ, getElem?_cons_zero]; rfl) (by kernel_rfl) (by exact fun _ _ _ h => h) (by first | assumption | exact KB.refl _) (.inl ⟨by rfl, fun W hW => ?_⟩) ?_; rotate_left
         ·(go_simp; first | done | with_reducible rfl)
         try simp only [Act.put, List.setIfInBounds_toArray, List.set_cons_zero, List.set_cons_succ]
         refine btake 6 (oi := _) (v := ?_) (by simp only [getElem?_toArray, getElem?_cons_succ, getElem?_cons_zero]; rfl) (by kernel_rfl) (by exact fun _ _ _ h => h) (by first | assumption | exact KB.refl _) (.inl ⟨by rfl, fun W hW => ?_⟩) ?_; rotate_left
         ·(go_simp; first | done | with_reducible rfl)
         try simp only [Act.put, List.setIfInBounds_toArray, List.set_cons_zero, List.set_cons_succ]
         refine btake 7 (oi := _) (v := ?_) (by simp only [getElem?_toArray, getElem?_cons_succ, getElem?_cons_zero]; rfl) (by kernel_rfl) (by exact fun _ _ _ h => h) (by first | assumption | exact KB.refl _) (.inl ⟨by rfl, fun W hW => ?_⟩) ?_; rotate_left
         ·(go_simp; first | done | with_reducible rfl)
         try simp only [Act.put, List.setIfInBounds_toArray, List.set_cons_zero, List.set_cons_succ]
         refine btake 8 (oi := _) (v := ?_) (by simp only [getElem?_toArray, getElem?_cons_succ, getElem?_cons_zero]; rfl) (by kernel_rfl) (by exact fun _ _ _ h => h) (by first | assumption | exact KB.refl _) (.inl ⟨by rfl, fun W hW => ?_⟩) ?_; rotate_left
         ·(go_simp; first | done | with_reducible rfl)
         try simp only [Act.put, List.setIfInBounds_toArray, List.set_cons_zero, List.set_cons_succ]
         refine btake 9 (oi := _) (v := ?_) (by simp only [getElem?_toArray, getElem?_cons_succ, getElem?_cons_zero]; rfl) (by kernel_rfl) (by exact fun _ _ _ h => h) (by first | assumption | exact KB.refl _) (.inl ⟨by rfl, fun W hW => ?_⟩) ?_; rotate_left
         ·(go_simp; first | done | with_reducible rfl)
         try simp only [Act.put, List.setIfInBounds_toArray, List.set_cons_zero, List.set_cons_succ]
         refine btake 10 (oi := _) (v := ?_) (by simp only [getElem?_toArray, getElem?_cons_succ, getElem?_cons_zero]; rfl) (by kernel_rfl) (by exact fun _ _ _ h => h) (by first | assumption | exact KB.refl _) (.inl ⟨by rfl, fun W hW => ?_⟩) ?_; rotate_left
         ·(go_simp; first | done | with_reducible rfl)
         try simp only [Act.put, List.setIfInBounds_toArray, List.set_cons_zero, List.set_cons_succ]
         refine btake 11 (oi := _) (v := ?_) (by simp only [getElem?_toArray, getElem?_cons_succ, getElem?_cons_zero]; rfl) (by kernel_rfl) (by exact fun _ _ _ h => h) (by first | assumption | exact KB.refl _) (.inl ⟨by rfl, fun W hW => ?_⟩) ?_; rotate_left
         ·(go_simp; first | done | with_reducible rfl)
         try simp only [Act.put, List.setIfInBounds_toArray, List.set_cons_zero, List.set_cons_succ]
         refine btake 12 (oi := _) (v := ?_) (by simp only [getElem?_toArray, getElem?_cons_succ, getElem?_cons_zero]; rfl) (by kernel_rfl) (by exact fun _ _ _ h => h) (by first | assumption | exact KB.refl _) (.inl ⟨by rfl, fun W hW => ?_⟩) ?_; rotate_left
         ·(go_simp; first | done | with_reducible rfl)
         try simp only [Act.put, List.setIfInBounds_toArray, List.set_cons_zero, List.set_cons_succ]
         refine btake 13 (oi := _) (v := ?_) (by simp only [getElem?_toArray, getElem?_cons_succ, getElem?_cons_zero]; rfl) (by kernel_rfl) (by exact fun _ _ _ h => h) (by first | assumption | exact KB.refl _) (.inl ⟨by rfl, fun W hW => ?_⟩) ?_; rotate_left
         ·(go_simp; first | done | with_reducible rfl)
         try simp only [Act.put, List.setIfInBounds_toArray, List.set_cons_zero, List.set_cons_succ]
         refine btake 14 (oi := _) (v := ?_) (by simp only [getElem?_toArray, getElem?_cons_succ, getElem?_cons_zero]; rfl) (by kernel_rfl) (by exact fun _ _ _ h => h) (by first | assumption | exact KB.refl _) (.inl ⟨by rfl, fun W hW => ?_⟩) ?_; rotate_left
         ·(go_simp; first | done | with_reducible rfl)
         try simp only [Act.put, List.setIfInBounds_toArray, List.set_cons_zero, List.set_cons_succ]
         refine btake 15 (oi := _) (v := ?_) (by simp only [getElem?_toArray, getElem?_cons_succ, getElem?_cons_zero]; rfl) (by kernel_rfl) (by exact fun _ _ _ h => h) (by first | assumption | exact KB.refl _) (.inl ⟨by rfl, fun W hW => ?_⟩) ?_; rotate_left
         ·(go_simp; first | done | with_reducible rfl)
         try simp only [Act.put, List.setIfInBounds_toArray, List.set_cons_zero, List.set_cons_succ]
         refine btake 16 (oi := _) (v := ?_) (by simp only [getElem?_toArray, getElem?_cons_succ, getElem?_cons_zero]; rfl) (by kernel_rfl) (by exact fun _ _ _ h => h) (by first | assumption | exact KB.refl _) (.inl ⟨by rfl, fun W hW => ?_⟩) ?_; rotate_left
         ·(go_simp; first | done | with_reducible rfl)
         try simp only [Act.put, List.setIfInBounds_toArray, List.set_cons_zero, List.set_cons_succ]
         refine btake 17 (oi := _) (v := ?_) (by simp only [getElem?_toArray, getElem?_cons_succ, getElem?_cons_zero]; rfl) (by kernel_rfl) (by exact fun _ _ _ h => h) (by first | assumption | exact KB.refl _) (.inl ⟨by rfl, fun W hW => ?_⟩) ?_; rotate_left
         ·(go_simp; first | done | with_reducible rfl)
         try simp only [Act.put, List.setIfInBounds_toArray, List.set_cons_zero, List.set_cons_succ]
         refine btake 18 (oi := _) (v := ?_) (by simp only [getElem?_toArray, getElem?_cons_succ, getElem?_cons_zero]; rfl) (by kernel_rfl) (by exact fun _ _ _ h => h) (by first | assumption | exact KB.refl _) (.inl ⟨by rfl, fun W hW => ?_⟩) ?_; rotate_left
         ·(go_simp; first | done | with_reducible rfl)
         try simp only [Act.put, List.setIfInBounds_toArray, List.set_cons_zero, List.set_cons_succ]
         refine btake 19 (oi := _) (v := ?_) (by simp only [getElem?_toArray, getElem?_cons_succ, getElem?_cons_zero]; rfl) (by kernel_rfl) (by exact fun _ _ _ h => h) (by first | assumption | exact KB.refl _) (.inl ⟨by rfl, fun W hW => ?_⟩) ?_; rotate_left
         ·(go_simp; first | done | with_reducible rfl)
         try simp only [Act.put, List.setIfInBounds_toArray, List.set_cons_zero, List.set_cons_succ]
         refine btake 20 (oi := _) (v := ?_) (by simp only [getElem?_toArray, getElem?_cons_succ, getElem?_cons_zero]; rfl) (by kernel_rfl) (by exact fun _ _ _ h => h) (by first | assumption | exact KB.refl _) (.inl ⟨by rfl, fun W hW => ?_⟩) ?_; rotate_left
         ·(go_simp; first | done | with_reducible rfl)
         try simp only [Act.put, List.setIfInBounds_toArray, List.set_cons_zero, List.set_cons_succ]
         refine btake 21 (oi := _) (v := ?_) (by simp only [getElem?_toArray, getElem?_cons_succ, getElem?_cons_zero]; rfl) (by kernel_rfl) (by exact fun _ _ _ h => h) (by first | assumption | exact KB.refl _) (.inl ⟨by rfl, fun W hW => ?_⟩) ?_; rotate_left
         ·(go_simp; first | done | with_reducible rfl)
         try simp only [Act.put, List.setIfInBounds_toArray, List.set_cons_zero, List.set_cons_succ]
         refine btake 22 (oi := _) (v := ?_) (by simp only [getElem?_toArray, getElem?_cons_succ, getElem?_cons_zero]; rfl) (by kernel_rfl) (by exact fun _ _ _ h => h) (by first | assumption | exact KB.refl _) (.inl ⟨by rfl, fun W hW => ?_⟩) ?_; rotate_left
         ·(go_simp; first | done | with_reducible rfl)
         try simp only [Act.put, List.setIfInBounds_toArray, List.set_cons_zero, List.set_cons_succ]
         refine btake 23 (oi := _) (v := ?_) (by simp only [getElem?_toArray, getElem?_cons_succ, getElem?_cons_zero]; rfl) (by kernel_rfl) (by exact fun _ _ _ h => h) (by first | assumption | exact KB.refl _) (.inl ⟨by rfl, fun W hW => ?_⟩) ?_; rotate_left
         ·(go_simp; first | done | with_reducible rfl)
         try simp only [Act.put, List.setIfInBounds_toArray, List.set_cons_zero, List.set_cons_succ]
         refine bdone (by kernel_rfl) ?_
         have HNF := Lib.hid (show ¬ (64 ≤ X ∨ (X : Int) ≤ last) by omega)
         clear e0
         go_wp2_with (refine mval rfl (exec_postB rfl rfl rfl HSL.out _) ?_)
         refine HR.out.mono ?_
         rintro e w5 ⟨r, vq, rfl, hq5, hr5, hb5⟩
         obtain ⟨gl, gp, ge⟩ := G
         dsimp only at hq5 hr5 ⊢
         obtain ⟨Aq, cq, e5, hq1, hq2, hq3, hq4⟩ := hq5.form
         subst e5
         by_cases he5 : ge = 0
         ·subst he5
          obtain rfl : r = (X : Int) := hr5 rfl
          have B5 : Below wr.heap.size wr w5 := (Below.refl _ wr).drew.trans hb5
          have hb6 := balloc (Below.refl w5.heap.size w5) (.cells #[.int .i64 (X : Int), .slice Aq gl.length cq] 60)
          have a10 := At.new w5 60 #[.int .i64 (X : Int), .slice Aq gl.length cq]
          have B6 := B5.trans (hb6.mono B5.size)
          have hO6 := HW.out.2.2.1.below B6
          have hst : RSt w5 ⟨(X : Int), Aq, cq, gl⟩ := ⟨hq3, hq1, hq2⟩
          have y8 := (HW.out.2.1.below B6).c 0 rfl
          have hkk : k + 1 ≤ b.length := by omega
          have hnext : goT b m (R.map RA.p ++ [((X : Int), gl)]) (X : Int) (k + gp) = T := by
           have h1 := HGT.out.1
           rw [if_neg (by omega), HRD.out.2.2, if_neg HNF.out, HRD.out.1] at h1
           simp only [sh, ne_eq, not_true_eq_false, if_false, if_true] at h1
           exact h1.symm
          have hkg : k + gp ≤ b.length := by
           have h1 := HRD.out.2.1
           rw [HRD.out.1] at h1
           simpa [sh] using h1
          have hap : gl ≠ [] → ∀ b1 o1 s1, Aq = some ⟨b1, o1, s1⟩ → wr.heap.size ≤ b1 := fun _ b1 o1 s1 e => (hq4.2 ⟨b1, o1, s1⟩ e).1
          have wkg : IntKind.i64.wrap ((k : Int) + (gp : Int)) = ((k + gp : Nat) : Int) := by have := HB.out.2.1; have := HB.out.2.2.2.2.1; rw [IntKind.wrap_i64]; omega
          have H5 := Lib.hid (And.intro hst (And.intro B5 (And.intro B6 (And.intro a10 (And.intro hnext (And.intro hkg hap))))))
          have hszO : w.heap.size + 2 ≤ (w5.alloc (.cells #[.int .i64 (X : Int), .slice Aq gl.length cq] 60)).heap.size := Nat.le_trans HW.out.2.2.2.1 B6.size
          have ya := a10.c 0 rfl
          have yb := a10.c 1 rfl
          have hb7 : Below (w5.alloc (.cells #[.int .i64 (X : Int), .slice Aq gl.length cq] 60)).heap.size (w5.alloc (.cells #[.int .i64 (X : Int), .slice Aq gl.length cq] 60)) ((w5.alloc (.cells #[.int .i64 (X : Int), .slice Aq gl.length cq] 60)).alloc (.cells #[.int .i64 (X : Int), .slice Aq gl.length cq] 60)) := balloc (Below.refl _ _) _
          have hsl7 : Sl ((w5.alloc (.cells #[.int .i64 (X : Int), .slice Aq gl.length cq] 60)).alloc (.cells #[.int .i64 (X : Int), .slice Aq gl.length cq] 60)) ((w5.alloc (.cells #[.int .i64 (X : Int), .slice Aq gl.length cq] 60)).alloc (.cells #[.int .i64 (X : Int), .slice Aq gl.length cq] 60)).heap.size (some ⟨w5.heap.size + 1, 0, none⟩) (EV.dv [⟨(X : Int), Aq, cq, gl⟩]) := by
           have := (ET.Own.row (c := 1) (EV.own1 (w5.alloc (.cells #[.int .i64 (X : Int), .slice Aq gl.length cq] 60)) ⟨(X : Int), Aq, cq, gl⟩)).sl
           rw [World.size_alloc w5] at this
           exact this
          have hO7 := hO6.below hb7
          have h87 := (HW.out.2.1.below B6).below hb7
          have hsz7 : w.heap.size + 2 ≤ ((w5.alloc (.cells #[.int .i64 (X : Int), .slice Aq gl.length cq] 60)).alloc (.cells #[.int .i64 (X : Int), .slice Aq gl.length cq] 60)).heap.size := Nat.le_trans hszO hb7.size
          have H7 := Lib.hid (And.intro hsl7 (And.intro hO7 (And.intro h87 (And.intro hb7 hsz7))))
          have HLN := Lib.hid (show R.length + 1 ≤ 1000 by have := HRL.out; omega)
          clear hq5 hr5 hb5 hq1 hq2 hq3 hq4 hb6 a10 B5 B6 hst hnext hkg hap HR hb7 hsl7 hO7 h87 hsz7 hszO hO6 p0 f0
          go_wp2_with (at_builtin; refine appE (E := EV) rfl rfl H7.out.2.1.own H7.out.1 rfl rfl rfl (by have := HLN.out; simp; omega) H7.out.2.2.2.2 ?_; intro v9 w9 hown9 hg9 hat9; have H9 := Lib.hid (And.intro hown9 (And.intro hg9 hat9)); have h89 := H7.out.2.2.1.grown hg9 (fun e => by have := (H7.out.2.1.own.lt' _ e).1; omega); have z9 := h89.c 0 rfl; have f9 := h89.f 0 rfl; obtain ⟨A9, c9, e9, _⟩ := hown9.form; obtain ⟨n9, hn9⟩ : ∃ m, (R ++ [(⟨(X : Int), Aq, cq, gl⟩ : RA)]).length = m := ⟨_, rfl⟩; rw [hn9] at e9; have HE9 := Lib.hid (And.intro e9 (And.intro hn9 h89)); subst e9; clear hn9 hown9 hg9 hat9 h89)
          have q2 := grownC w9 (w.heap.size + 1) 0 (.slice A9 n9 c9)
          have hwr5 := H5.out.2.1.size
          have hO9 := (H7.out.2.1.app (q := ⟨(X : Int), Aq, cq, gl⟩) ((H5.out.1.below (balloc (Below.refl w5.heap.size w5) _)).below H7.out.2.2.2.1) (fun hl b1 o1 s1 e => by
           have x1 := H5.out.2.2.2.2.2.2 hl b1 o1 s1 e
           refine ⟨by have := HW.out.2.2.2.1; omega, fun e' => ?_⟩
           have x3 := (HW.out.2.2.1.own.lt' b1 e').2
           omega) H9.out.1 H9.out.2.1 H9.out.2.2).kept q2 (by omega)
          have hgr : ∀ r, _ → w.heap.size + 2 ≤ r := fun r e => (H7.out.2.1.own.lt' r e).1
          have h29 := (((HW.out.1.below H5.out.2.2.1).below H7.out.2.2.2.1).grown H9.out.2.1 (fun e => by have := hgr _ e; omega)).grown q2 (fun e => by have := Option.some.inj e; omega)
          have B9 : Below w.heap.size w w9 := ((HW.out.2.2.2.2.1.trans (H5.out.2.2.1.mono HW.out.2.2.2.2.1.size)).trans (H7.out.2.2.2.1.mono (Nat.le_trans HW.out.2.2.2.2.1.size H5.out.2.2.1.size))).grown H9.out.2.1 (Nat.le_trans (by omega) H7.out.2.2.2.2) (fun r e => by have := hgr r e; omega)
          have HF := Lib.hid (And.intro hO9 (And.intro h29 (And.intro (HE9.out.2.2.set 0 (.slice A9 n9 c9) (by simp)) (And.intro (B9.setCell (p := ⟨w.heap.size + 1, 0, none⟩) (show w.heap.size ≤ w.heap.size + 1 by omega) (.slice A9 n9 c9)) (show w.heap.size + 2 ≤ (w9.setCell ⟨w.heap.size + 1, 0, none⟩ (.slice A9 n9 c9)).heap.size by have h1 := H9.out.2.1.size; have h2 := H7.out.2.2.2.2; simp; omega)))))
          clear q2 hO9 hgr h29 B9
          go_roundw
          case rel =>
           have hmm : n - (i + 1) = m := by have := HGT.out.2; omega
           refine ⟨i + 1, k + gp, (X : Int), R ++ [⟨(X : Int), Aq, cq, gl⟩], _, by omega, by go_num, rfl, H5.out.2.2.2.2.2.1, by rw [List.length_append, List.length_singleton, HRL.out], by rw [hmm, List.map_append]; exact H5.out.2.2.2.2.1, fun h => absurd h (by omega), fun q' hq' _ => ?_, HF.out.2.1, HF.out.2.2.1, HF.out.1, HF.out.2.2.2.2, HF.out.2.2.2.1⟩
           rw [show i + 1 - 1 = i from rfl, List.getElem?_append_right (by rw [HRL.out]; omega), HRL.out, Nat.sub_self] at hq'
           rw [← Option.some.inj hq']
          case measure => simp [intOf]; omega
         ·have HG := Lib.hid (show T = ([], 0, ge) by
           have h1 := HGT.out.1
           rw [if_neg (by omega), HRD.out.2.2, if_neg HNF.out, HRD.out.1] at h1
           simp only [sh] at h1
           rw [if_pos he5] at h1
           exact h1)
          have B5 : Below wr.heap.size wr w5 := (Below.refl _ wr).drew.trans hb5
          have hb6 := B5.trans ((balloc (Below.refl w5.heap.size w5) (.cells #[.int .i64 r, .slice Aq gl.length cq] 60)).mono B5.size)
          have z1 : ((ge : Int) == 0) = false := by rw [beq_eq_false_iff_ne]; omega
          have z2 : decide ((ge : Int) = 0) = false := by rw [decide_eq_false_iff_not]; omega
          have h26 := HW.out.1.below hb6
          have p1 := h26.c 0 rfl
          have f1 := h26.f 0 rfl
          have HY := Lib.hid (And.intro (h26.set 0 (.slice none 0 0) (by simp)) ((HW.out.2.2.2.2.1.trans (hb6.mono HW.out.2.2.2.2.1.size)).setCell (p := ⟨w.heap.size, 0, none⟩) (Nat.le_refl _) (.slice none 0 0)))
          clear h26 hb6 B5 hq5 hb5 p0 f0 hq1 hq2 hq3 hq4
          go_wp2_with fail
          exact bodyPost_ret (results_take rfl _ rfl rfl rfl HY.out.1) rfl ⟨none, 0, 0, [], by rw [HG.out]; rfl, ⟨rfl, Nat.le_refl _, by simp [maxLen], .inl rfl, by simp, by rw [HG.out]; rfl⟩, HY.out.2⟩
    ·obtain rfl : i = n := by omega
     have hd1 : decide ((i : Int) < (i : Int)) = false := by rw [decide_eq_false_iff_not]; omega
     rw [Nat.sub_self] at hgo
     have HG := Lib.hid (show T = (R.map RA.p, k, 0) by rw [← hgo]; rfl)
     obtain ⟨A', c', rfl, hvs⟩ := hO.vs
     have r0 := h8.c 0 rfl
     have hrs := h2.set 0 (.slice A' R.length c') (by simp)
     have hBs : Below w.heap.size w (wr.setCell ⟨w.heap.size, 0, none⟩ (.slice A' R.length c')) := hbel.setCell (Nat.le_refl _) _
     have hO2 := hO.kept (grownC wr w.heap.size 0 (.slice A' R.length c')) (by omega)
     obtain ⟨A2, c2, e2', hvs2⟩ := hO2.vs
     injection e2' with e2a e2b e2c
     clear e2b
     subst e2a
     subst e2c
     have HZ := Lib.hid (And.intro hrs (And.intro hvs2 hBs))
     clear hO2 hvs2 hrs hBs hvs hO h2 h8 hbel hl0 hl1 hgo
     go_wp2_with fail
     exact bodyPost_ret (results_take rfl _ rfl rfl rfl HZ.out.1) rfl ⟨A', R.length, c', R, by rw [HG.out]; rfl, by rw [HG.out]; exact HZ.out.2.1, HZ.out.2.2⟩
 ·have HG := Lib.hid (show T = ([], 0, e1) by rw [HB.out.2.2.2.2.2.2.1, if_pos he])
  have z1 : ((e1 : Int) == 0) = false := by rw [beq_eq_false_iff_ne]; omega
  have z2 : decide ((e1 : Int) = 0) = false := by rw [decide_eq_false_iff_not]; omega
  go_wp2_with fail
  exact bodyPost_ret (results_take rfl _ rfl rfl rfl HZ.out.1) rfl ⟨none, 0, 0, [], by rw [HG.out]; rfl, ⟨rfl, Nat.le_refl _, by simp [maxLen], .inl rfl, by simp, by rw [HG.out]; rfl⟩, HZ.out.2⟩
end Go.Proofs.YtaflikgdlkaefaaGreat
