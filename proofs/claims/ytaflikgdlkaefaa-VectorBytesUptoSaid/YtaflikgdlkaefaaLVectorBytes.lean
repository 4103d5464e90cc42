/- Vectors: may a vector be asked? -/
import Derived.Laws.BitsAllLaws
import Derived.Lib.SmallJoins
import Derived.Deep.Slices
import Derived.Deep.Fields
import Derived.ChangeSame
import Derived.Test.YtaflikgdlkaefaaM00
import Derived.Test.YtaflikgdlkaefaaM01
import Derived.Test.YtaflikgdlkaefaaM05
import Derived.Test.YtaflikgdlkaefaaM08
import Derived.Test.YtaflikgdlkaefaaM10
import Derived.Test.YtaflikgdlkaefaaM11
import Derived.Test.YtaflikgdlkaefaaM14
import Derived.Test.YtaflikgdlkaefaaM16
import Derived.Test.YtaflikgdlkaefaaM18
import Derived.Test.YtaflikgdlkaefaaM19
open List (getElem?_toArray getElem?_cons_succ getElem?_cons_zero)
namespace Go.Proofs.Ytaflikgdlkaefaa
open Go.RowKit Go.Proofs.Ytaflikgdlkaefaa.Pl Go.Proofs.Ytaflikgdlkaefaa.Sp Go.Proofs.Ytaflikgdlkaefaa.Ve
set_option maxRecDepth 20000

/-- is a vector light? -/
def lightV (V : VL) : Bool := V.all (fun p => decide (p.2.length ≤ 20)) && decide (V.length ≤ 70)
theorem lightV_lim {V : VL} (h : lightV V = true) : Lim 20 V ∧ V.length ≤ 70 := by
 rw [lightV, Bool.and_eq_true, List.all_eq_true, decide_eq_true_eq] at h
 exact ⟨fun p hp => of_decide_eq_true (h.1 p hp), h.2⟩
set_option maxRecDepth 100000 in
set_option maxHeartbeats 3200000 in
theorem Light_any (w : World) (A : Option Addr) (n c : Nat) (R : List RA) (V : VL) (hv : VS w A n c R V) :
  Calls Try.prog 18 #[.agg #[.slice A n c]] w fun e w' => e = .returned (.bool (lightV V)) ∧ Below w.heap.size w w' := by
 have hb0 : Below w.heap.size w (w.alloc (.cells #[.slice A n c] 27)) := balloc (Below.refl _ _) _
 have a0 : At (w.alloc (.cells #[.slice A n c] 27)) w.heap.size [.slice A n c] := At.new w 27 #[.slice A n c]
 have hv0 := hv.below hb0
 have hml := hv.cm
 have hnc := hv.nc
 unfold maxLen at hml
 clear hv
 go_enter Try.func18, Try.ntmps18
 go_wp2_with fail
 generalize w.alloc (.cells #[.slice A n c] 27) = W0 at *
 go_loopw [3] (fun x3 wr => ∃ (k : Nat), k ≤ n ∧ x3 = .int .i64 (k : Int) ∧ (V.take k).all (fun p => decide (p.2.length ≤ 20)) = true ∧ Below W0.heap.size W0 wr) (fun x3 _ => n - (intOf x3).toNat)
 case atStart => exact ⟨0, by omega, rfl, by simp, Below.refl _ _⟩
 case round =>
  obtain ⟨k, hk, rfl, hall, hbel⟩ := hrel
  have z0 := (a0.below hbel).c 0 rfl
  have hbz := hb0.trans (hbel.mono hb0.size)
  by_cases hlt : k < n
  ·have hvr := hv0.below hbel
   obtain ⟨q, b, o, _, hV, hq, rfl, hbW, c0, c1⟩ := hvr.at_ hlt
   have hd1 : decide ((k : Int) < (n : Int)) = true := by rw [decide_eq_true_eq]; omega
   have hn0 : (0 : Int) ≤ (k : Int) := by omega
   have hn1 : (k : Int) < (n : Int) := by omega
   obtain ⟨r, Aq, cq, l⟩ := q
   dsimp only at *
   by_cases hg : 20 < l.length
   ·have hd2 : decide ((20 : Int) < (l.length : Int)) = true := by rw [decide_eq_true_eq]; omega
    have HF := Lib.hid (show lightV V = false by
     rw [lightV, Bool.and_eq_false_iff]
     left
     rw [List.all_eq_false]
     exact ⟨_, List.mem_of_getElem? hV, by simpa using hg⟩)
    clear hvr hq hV hall
    go_wp2_with fail
    go_ret
    exact ⟨ret_b HF.out.symm, hbz⟩
   ·have hd2 : decide ((20 : Int) < (l.length : Int)) = false := by rw [decide_eq_false_iff_not]; omega
    have hall' : (V.take (k + 1)).all (fun p => decide (p.2.length ≤ 20)) = true := by
     rw [List.take_add_one, hV, List.all_append, hall]
     simpa using hg
    have HA := Lib.hid hall'
    clear hvr hq hV hall hall'
    go_wp2_with fail
    go_roundw
    case rel => exact ⟨k + 1, by omega, by go_num, HA.out, hbel⟩
    case measure => simp [intOf]; omega
  ·obtain rfl : k = n := by omega
   have hd1 : decide ((k : Int) < (k : Int)) = false := by rw [decide_eq_false_iff_not]; omega
   have hVl := hv0.len
   rw [show V.take k = V by rw [← hVl, List.take_length]] at hall
   have HF := Lib.hid (show lightV V = decide ((k : Int) ≤ 70) by
    rw [lightV, hall, Bool.true_and, hVl]
    exact decide_eq_decide.2 (by omega))
   clear hall
   go_wp2_with fail
   go_ret
   exact ⟨ret_b HF.out.symm, hbz⟩
end Go.Proofs.Ytaflikgdlkaefaa
/- Vectors: the document's VecRight. -/
namespace Go.Proofs.Ytaflikgdlkaefaa
open Go.RowKit Go.Proofs.Ytaflikgdlkaefaa.Pl Go.Proofs.Ytaflikgdlkaefaa.Sp Go.Proofs.Ytaflikgdlkaefaa.Ve
set_option maxRecDepth 20000

set_option maxRecDepth 100000 in
set_option maxHeartbeats 6400000 in
theorem RVRight_any (w : World) (A : Option Addr) (n c : Nat) (R : List RA) (V : VL) (hv : VS w A n c R V) (hl : n ≤ 1000000) (hm : Lim 1000000 V) :
  Calls Try.prog 42 #[.agg #[.slice A n c]] w fun e w' => e = .returned (.bool (rightV V)) ∧ Below w.heap.size w w' := by
 go_enter Try.func42, Try.ntmps42
 have hb0 : Below w.heap.size w (w.alloc (.cells #[.slice A n c] 27)) := balloc (Below.refl _ _) _
 have x0 : (w.alloc (.cells #[.slice A n c] 27)).cell? ⟨w.heap.size, 0, none⟩ = some (.slice A n c) := by simp
 have xs : w.heap.size < (w.alloc (.cells #[.slice A n c] 27)).heap.size := by simp
 go_wp2_with fail
 generalize w.alloc (.cells #[.slice A n c] 27) = W at *
 go_loopw [3] (fun x3 wr => ∃ (k : Nat) (z : Int), k ≤ n ∧ x3 = .int .i64 (k : Int) ∧ -1 ≤ z ∧ (k = 0 ∧ z = -1 ∨ 0 < k ∧ (V[k - 1]?.getD (0, [])).1 = z) ∧ rightV V = okV z (V.drop k) ∧ Below W.heap.size W wr) (fun x3 _ => n - (intOf x3).toNat)
 case atStart => exact ⟨0, -1, by omega, rfl, by omega, .inl ⟨rfl, rfl⟩, by rw [List.drop_zero]; rfl, Below.refl _ _⟩
 case round =>
  obtain ⟨k, z, hk, rfl, hz, hzk, hrt, hB⟩ := hrel
  have hbel := hb0.trans (hB.mono hb0.size)
  have y0 := (hB.cell xs).trans x0
  by_cases hlt : k < n
  ·obtain ⟨q, b, o, _, hV, hq, rfl, hbW, c0, c1⟩ := hv.at_ hlt
   have hkl : k < V.length := by rw [hv.len]; exact hlt
   have hql : q.l.length ≤ 1000000 := hm _ (List.mem_of_getElem? hV)
   have hstep := okV_drop hkl z
   have hzk2 : V[k]?.getD (0, []) = (q.r, q.l) := by rw [hV]; rfl
   rw [hzk2] at hstep
   rw [hstep] at hrt
   clear hstep
   have hprev : 0 < k → wr.cell? ⟨b, o + (k - 1) * 2, none⟩ = some (.int .i64 z) := fun h0 => by
    obtain ⟨q', b', o', _, hV', _, e', hbW', c0', _⟩ := hv.at_ (k := k - 1) (by omega)
    obtain ⟨rfl, rfl⟩ : b = b' ∧ o = o' := by simpa using e'
    rw [hV'] at hzk
    obtain rfl : q'.r = z := by
     rcases hzk with h | h
     ·omega
     ·simpa using h.2
    exact (hbel.cell hbW').trans c0'
   replace c0 := (hbel.cell hbW).trans c0
   replace c1 := (hbel.cell hbW).trans c1
   have hd1 : decide ((k : Int) < (n : Int)) = true := by rw [decide_eq_true_eq]; omega
   have hn0 : (0 : Int) ≤ (k : Int) := by omega
   have hn1 : (k : Int) < (n : Int) := by omega
   have hbx := hB.alloc hB.size (.cells #[.int .i64 q.r, .slice q.A q.l.length q.c] 61)
   have hb2 := hbel.alloc hbel.size (.cells #[.int .i64 q.r, .slice q.A q.l.length q.c] 61)
   obtain ⟨z0, z1⟩ := cell2 wr 61 (.int .i64 q.r) (.slice q.A q.l.length q.c)
   have y1 := ((balloc (Below.refl _ wr) (.cells #[.int .i64 q.r, .slice q.A q.l.length q.c] 61)).cell (Nat.lt_of_lt_of_le xs hB.size)).trans y0
   have hp1 : 0 < k → (wr.alloc (.cells #[.int .i64 q.r, .slice q.A q.l.length q.c] 61)).cell? ⟨b, o + (k - 1) * 2, none⟩ = some (.int .i64 z) := fun h => ((balloc (Below.refl _ wr) _).cell (Nat.lt_of_lt_of_le hbW hbel.size)).trans (hprev h)
   go_wp2_with fail
   generalize wr.alloc (.cells #[.int .i64 q.r, .slice q.A q.l.length q.c] 61) = W1 at *
   have HR := fun W2 (h : Below W1.heap.size W1 W2) => Lib.hid (RRRight_any W2 q.A q.l.length q.c q.l ((hq.1.below (hb2.trans (h.mono hb2.size))).more (Nat.le_trans hb2.size h.size)) rfl (by omega))
   obtain ⟨r, A', c', l⟩ := q
   dsimp only at *
   have e0 := cellB z0
   have e1 := cellB z1
   have e2 := cellB y1
   clear hq hV
   by_cases g1 : r < 0
   ·have d0 : decide (r < 0) = true := by rw [decide_eq_true_eq]; exact g1
    have HF := Lib.hid (show rightV V = false by rw [hrt, decide_eq_false (by omega)]; simp)
    clear hrt g1 hm hv
    refine bstartH (W1.heap) (by kernel_rfl) ?_
    refine btake 0 (oi := _) (v := ?_) (by simp only [List.getElem?_toArray, List.getElem?_cons_zero]; rfl) (by kernel_rfl) (by exact fun _ _ _ h => h) (by first | assumption | exact KB.refl _) (.inl ⟨by rfl, fun W hW => ?_⟩) ?_; rotate_left
    ·(go_simp; first | done | with_reducible rfl)
    try simp only [Act.put, List.setIfInBounds_toArray, List.set_cons_zero, List.set_cons_succ]
    refine btake 1 (oi := _) (v := ?_) (by simp only [getElem?_toArray, getElem?_cons_succ, getElem?_cons_zero]; rfl) (by kernel_rfl) (by exact fun _ _ _ h => h) (by first | assumption | exact KB.refl _) (.inl ⟨by rfl, fun W hW => ?_⟩) ?_; rotate_left
    ·(go_simp; first | done | with_reducible rfl)
    try simp only [Act.put, List.setIfInBounds_toArray, List.set_cons_zero, List.set_cons_succ]
    refine btake 2 (oi := _) (v := ?_) (by simp only [getElem?_toArray, getElem?_cons_succ, getElem?_cons_zero]; rfl) (by kernel_rfl) (by exact fun _ _ _ h => h) (by first | assumption | exact KB.refl _) (.inl ⟨by rfl, fun W hW => ?_⟩) ?_; rotate_left
    ·(go_simp; first | done | with_reducible rfl)
    try simp only [Act.put, List.setIfInBounds_toArray, List.set_cons_zero, List.set_cons_succ]
    refine btake 3 (oi := _) (v := ?_) (by simp only [getElem?_toArray, getElem?_cons_succ, getElem?_cons_zero]; rfl) (by kernel_rfl) (by exact fun _ _ _ h => h) (by first | assumption | exact KB.refl _) (.inl ⟨by rfl, fun W hW => ?_⟩) ?_; rotate_left
    ·(go_simp; first | done | with_reducible rfl)
    try simp only [Act.put, List.setIfInBounds_toArray, List.set_cons_zero, List.set_cons_succ]
    refine btake 4 (oi := _) (v := undef) (by simp only [getElem?_toArray, getElem?_cons_succ, getElem?_cons_zero]; rfl) (by kernel_rfl) (by exact fun _ _ _ h => h) (by first | assumption | exact KB.refl _) (.inr ⟨by rfl, rfl⟩) ?_
    try simp only [Act.put, List.setIfInBounds_toArray, List.set_cons_zero, List.set_cons_succ]
    refine btake 5 (oi := _) (v := undef) (by simp only [getElem?_toArray, getElem?_cons_succ, getElem?_cons_zero]; rfl) (by kernel_rfl) (by exact fun _ _ _ h => h) (by first | assumption | exact KB.refl _) (.inr ⟨by rfl, rfl⟩) ?_
    try simp only [Act.put, List.setIfInBounds_toArray, List.set_cons_zero, List.set_cons_succ]
    refine btake 6 (oi := _) (v := undef) (by simp only [getElem?_toArray, getElem?_cons_succ, getElem?_cons_zero]; rfl) (by kernel_rfl) (by exact fun _ _ _ h => h) (by first | assumption | exact KB.refl _) (.inr ⟨by rfl, rfl⟩) ?_
    try simp only [Act.put, List.setIfInBounds_toArray, List.set_cons_zero, List.set_cons_succ]
    refine btake 7 (oi := _) (v := ?_) (by simp only [getElem?_toArray, getElem?_cons_succ, getElem?_cons_zero]; rfl) (by kernel_rfl) (by exact fun _ _ _ h => h) (by first | assumption | exact KB.refl _) (.inl ⟨by rfl, fun W hW => ?_⟩) ?_; rotate_left
    ·(go_simp; first | done | with_reducible rfl)
    try simp only [Act.put, List.setIfInBounds_toArray, List.set_cons_zero, List.set_cons_succ]
    refine btake 8 (oi := _) (v := ?_) (by simp only [getElem?_toArray, getElem?_cons_succ, getElem?_cons_zero]; rfl) (by kernel_rfl) (by exact fun _ _ _ h => h) (by first | assumption | exact KB.refl _) (.inl ⟨by rfl, fun W hW => ?_⟩) ?_; rotate_left
    ·(go_simp; first | done | with_reducible rfl)
    try simp only [Act.put, List.setIfInBounds_toArray, List.set_cons_zero, List.set_cons_succ]
    refine btake 9 (oi := _) (v := undef) (by simp only [getElem?_toArray, getElem?_cons_succ, getElem?_cons_zero]; rfl) (by kernel_rfl) (by exact fun _ _ _ h => h) (by first | assumption | exact KB.refl _) (.inr ⟨by rfl, rfl⟩) ?_
    try simp only [Act.put, List.setIfInBounds_toArray, List.set_cons_zero, List.set_cons_succ]
    refine btake 10 (oi := _) (v := undef) (by simp only [getElem?_toArray, getElem?_cons_succ, getElem?_cons_zero]; rfl) (by kernel_rfl) (by exact fun _ _ _ h => h) (by first | assumption | exact KB.refl _) (.inr ⟨by rfl, rfl⟩) ?_
    try simp only [Act.put, List.setIfInBounds_toArray, List.set_cons_zero, List.set_cons_succ]
    refine btake 11 (oi := _) (v := undef) (by simp only [getElem?_toArray, getElem?_cons_succ, getElem?_cons_zero]; rfl) (by kernel_rfl) (by exact fun _ _ _ h => h) (by first | assumption | exact KB.refl _) (.inr ⟨by rfl, rfl⟩) ?_
    try simp only [Act.put, List.setIfInBounds_toArray, List.set_cons_zero, List.set_cons_succ]
    refine btake 12 (oi := _) (v := undef) (by simp only [getElem?_toArray, getElem?_cons_succ, getElem?_cons_zero]; rfl) (by kernel_rfl) (by exact fun _ _ _ h => h) (by first | assumption | exact KB.refl _) (.inr ⟨by rfl, rfl⟩) ?_
    try simp only [Act.put, List.setIfInBounds_toArray, List.set_cons_zero, List.set_cons_succ]
    refine btake 13 (oi := _) (v := ?_) (by simp only [getElem?_toArray, getElem?_cons_succ, getElem?_cons_zero]; rfl) (by kernel_rfl) (by exact fun _ _ _ h => h) (by first | assumption | exact KB.refl _) (.inl ⟨by rfl, fun W hW => ?_⟩) ?_; rotate_left
    ·(go_simp; first | done | with_reducible rfl)
    try simp only [Act.put, List.setIfInBounds_toArray, List.set_cons_zero, List.set_cons_succ]
    refine btake 14 (oi := _) (v := ?_) (by simp only [getElem?_toArray, getElem?_cons_succ, getElem?_cons_zero]; rfl) (by kernel_rfl) (by exact fun _ _ _ h => h) (by first | assumption | exact KB.refl _) (.inl ⟨by rfl, fun W hW => ?_⟩) ?_; rotate_left
    ·(go_simp; first | done | with_reducible rfl)
    try simp only [Act.put, List.setIfInBounds_toArray, List.set_cons_zero, List.set_cons_succ]
    refine btake 15 (oi := _) (v := undef) (by simp only [getElem?_toArray, getElem?_cons_succ, getElem?_cons_zero]; rfl) (by kernel_rfl) (by exact fun _ _ _ h => h) (by first | assumption | exact KB.refl _) (.inr ⟨by rfl, rfl⟩) ?_
    try simp only [Act.put, List.setIfInBounds_toArray, List.set_cons_zero, List.set_cons_succ]
    refine btake 16 (oi := _) (v := undef) (by simp only [getElem?_toArray, getElem?_cons_succ, getElem?_cons_zero]; rfl) (by kernel_rfl) (by exact fun _ _ _ h => h) (by first | assumption | exact KB.refl _) (.inr ⟨by rfl, rfl⟩) ?_
    try simp only [Act.put, List.setIfInBounds_toArray, List.set_cons_zero, List.set_cons_succ]
    refine btake 17 (oi := _) (v := undef) (by simp only [getElem?_toArray, getElem?_cons_succ, getElem?_cons_zero]; rfl) (by kernel_rfl) (by exact fun _ _ _ h => h) (by first | assumption | exact KB.refl _) (.inr ⟨by rfl, rfl⟩) ?_
    try simp only [Act.put, List.setIfInBounds_toArray, List.set_cons_zero, List.set_cons_succ]
    refine btake 18 (oi := _) (v := undef) (by simp only [getElem?_toArray, getElem?_cons_succ, getElem?_cons_zero]; rfl) (by kernel_rfl) (by exact fun _ _ _ h => h) (by first | assumption | exact KB.refl _) (.inr ⟨by rfl, rfl⟩) ?_
    try simp only [Act.put, List.setIfInBounds_toArray, List.set_cons_zero, List.set_cons_succ]
    refine btake 19 (oi := _) (v := ?_) (by simp only [getElem?_toArray, getElem?_cons_succ, getElem?_cons_zero]; rfl) (by kernel_rfl) (by exact fun _ _ _ h => h) (by first | assumption | exact KB.refl _) (.inl ⟨by rfl, fun W hW => ?_⟩) ?_; rotate_left
    ·(go_simp; first | done | with_reducible rfl)
    try simp only [Act.put, List.setIfInBounds_toArray, List.set_cons_zero, List.set_cons_succ]
    refine btake 20 (oi := _) (v := ?_) (by simp only [getElem?_toArray, getElem?_cons_succ, getElem?_cons_zero]; rfl) (by kernel_rfl) (by exact fun _ _ _ h => h) (by first | assumption | exact KB.refl _) (.inl ⟨by rfl, fun W hW => ?_⟩) ?_; rotate_left
    ·(go_simp; first | done | with_reducible rfl)
    try simp only [Act.put, List.setIfInBounds_toArray, List.set_cons_zero, List.set_cons_succ]
    refine btake 21 (oi := _) (v := undef) (by simp only [getElem?_toArray, getElem?_cons_succ, getElem?_cons_zero]; rfl) (by kernel_rfl) (by exact fun _ _ _ h => h) (by first | assumption | exact KB.refl _) (.inr ⟨by rfl, rfl⟩) ?_
    try simp only [Act.put, List.setIfInBounds_toArray, List.set_cons_zero, List.set_cons_succ]
    refine btake 22 (oi := _) (v := undef) (by simp only [getElem?_toArray, getElem?_cons_succ, getElem?_cons_zero]; rfl) (by kernel_rfl) (by exact fun _ _ _ h => h) (by first | assumption | exact KB.refl _) (.inr ⟨by rfl, rfl⟩) ?_
    try simp only [Act.put, List.setIfInBounds_toArray, List.set_cons_zero, List.set_cons_succ]
    refine btake 23 (oi := _) (v := undef) (by simp only [getElem?_toArray, getElem?_cons_succ, getElem?_cons_zero]; rfl) (by kernel_rfl) (by exact fun _ _ _ h => h) (by first | assumption | exact KB.refl _) (.inr ⟨by rfl, rfl⟩) ?_
    try simp only [Act.put, List.setIfInBounds_toArray, List.set_cons_zero, List.set_cons_succ]
    refine btake 24 (oi := _) (v := undef) (by simp only [getElem?_toArray, getElem?_cons_succ, getElem?_cons_zero]; rfl) (by kernel_rfl) (by exact fun _ _ _ h => h) (by first | assumption | exact KB.refl _) (.inr ⟨by rfl, rfl⟩) ?_
    try simp only [Act.put, List.setIfInBounds_toArray, List.set_cons_zero, List.set_cons_succ]
    refine btake 25 (oi := _) (v := undef) (by simp only [getElem?_toArray, getElem?_cons_succ, getElem?_cons_zero]; rfl) (by kernel_rfl) (by exact fun _ _ _ h => h) (by first | assumption | exact KB.refl _) (.inr ⟨by rfl, rfl⟩) ?_
    try simp only [Act.put, List.setIfInBounds_toArray, List.set_cons_zero, List.set_cons_succ]
    refine btake 26 (oi := _) (v := undef) (by simp only [getElem?_toArray, getElem?_cons_succ, getElem?_cons_zero]; rfl) (by kernel_rfl) (by exact fun _ _ _ h => h) (by first | assumption | exact KB.refl _) (.inr ⟨by rfl, rfl⟩) ?_
    try simp only [Act.put, List.setIfInBounds_toArray, List.set_cons_zero, List.set_cons_succ]
    refine btake 27 (oi := _) (v := undef) (by simp only [getElem?_toArray, getElem?_cons_succ, getElem?_cons_zero]; rfl) (by kernel_rfl) (by exact fun _ _ _ h => h) (by first | assumption | exact KB.refl _) (.inr ⟨by rfl, rfl⟩) ?_
    try simp only [Act.put, List.setIfInBounds_toArray, List.set_cons_zero, List.set_cons_succ]
    refine btake 28 (oi := _) (v := undef) (by simp only [getElem?_toArray, getElem?_cons_succ, getElem?_cons_zero]; rfl) (by kernel_rfl) (by exact fun _ _ _ h => h) (by first | assumption | exact KB.refl _) (.inr ⟨by rfl, rfl⟩) ?_
    try simp only [Act.put, List.setIfInBounds_toArray, List.set_cons_zero, List.set_cons_succ]
    refine btake 29 (oi := _) (v := undef) (by simp only [getElem?_toArray, getElem?_cons_succ, getElem?_cons_zero]; rfl) (by kernel_rfl) (by exact fun _ _ _ h => h) (by first | assumption | exact KB.refl _) (.inr ⟨by rfl, rfl⟩) ?_
    try simp only [Act.put, List.setIfInBounds_toArray, List.set_cons_zero, List.set_cons_succ]
    refine btake 30 (oi := _) (v := undef) (by simp only [getElem?_toArray, getElem?_cons_succ, getElem?_cons_zero]; rfl) (by kernel_rfl) (by exact fun _ _ _ h => h) (by first | assumption | exact KB.refl _) (.inr ⟨by rfl, rfl⟩) ?_
    try simp only [Act.put, List.setIfInBounds_toArray, List.set_cons_zero, List.set_cons_succ]
    refine btake 31 (oi := _) (v := undef) (by simp only [getElem?_toArray, getElem?_cons_succ, getElem?_cons_zero]; rfl) (by kernel_rfl) (by exact fun _ _ _ h => h) (by first | assumption | exact KB.refl _) (.inr ⟨by rfl, rfl⟩) ?_
    try simp only [Act.put, List.setIfInBounds_toArray, List.set_cons_zero, List.set_cons_succ]
    refine btake 32 (oi := _) (v := undef) (by simp only [getElem?_toArray, getElem?_cons_succ, getElem?_cons_zero]; rfl) (by kernel_rfl) (by exact fun _ _ _ h => h) (by first | assumption | exact KB.refl _) (.inr ⟨by rfl, rfl⟩) ?_
    try simp only [Act.put, List.setIfInBounds_toArray, List.set_cons_zero, List.set_cons_succ]
    refine btake 33 (oi := _) (v := undef) (by simp only [getElem?_toArray, getElem?_cons_succ, getElem?_cons_zero]; rfl) (by kernel_rfl) (by exact fun _ _ _ h => h) (by first | assumption | exact KB.refl _) (.inr ⟨by rfl, rfl⟩) ?_
    try simp only [Act.put, List.setIfInBounds_toArray, List.set_cons_zero, List.set_cons_succ]
    refine btake 34 (oi := _) (v := undef) (by simp only [getElem?_toArray, getElem?_cons_succ, getElem?_cons_zero]; rfl) (by kernel_rfl) (by exact fun _ _ _ h => h) (by first | assumption | exact KB.refl _) (.inr ⟨by rfl, rfl⟩) ?_
    try simp only [Act.put, List.setIfInBounds_toArray, List.set_cons_zero, List.set_cons_succ]
    refine btake 35 (oi := _) (v := ?_) (by simp only [getElem?_toArray, getElem?_cons_succ, getElem?_cons_zero]; rfl) (by kernel_rfl) (by exact fun _ _ _ h => h) (by first | assumption | exact KB.refl _) (.inl ⟨by rfl, fun W hW => ?_⟩) ?_; rotate_left
    ·(go_simp; first | done | with_reducible rfl)
    try simp only [Act.put, List.setIfInBounds_toArray, List.set_cons_zero, List.set_cons_succ]
    refine bdone (by kernel_rfl) ?_
    have hbz := hb2.drew
    go_wp2_with fail
    go_ret
    exact ⟨ret_b HF.out.symm, hbz⟩
   ·have d0 : decide (r < 0) = false := by rw [decide_eq_false_iff_not]; exact g1
    by_cases g2 : r < 64
    ·have d1 : decide (64 ≤ r) = false := by rw [decide_eq_false_iff_not]; omega
     by_cases g3 : l = []
     ·subst g3
      have HF := Lib.hid (show rightV V = false by rw [hrt]; simp)
      clear hrt g1 g2 hm hv
      refine bstartH (W1.heap) (by kernel_rfl) ?_
      refine btake 0 (oi := _) (v := ?_) (by simp only [List.getElem?_toArray, List.getElem?_cons_zero]; rfl) (by kernel_rfl) (by exact fun _ _ _ h => h) (by first | assumption | exact KB.refl _) (.inl ⟨by rfl, fun W hW => ?_⟩) ?_; rotate_left
      ·(go_simp; first | done | with_reducible rfl)
      try simp only [Act.put, List.setIfInBounds_toArray, List.set_cons_zero, List.set_cons_succ]
      refine btake 1 (oi := _) (v := ?_) (by simp only [getElem?_toArray, getElem?_cons_succ, getElem?_cons_zero]; rfl) (by kernel_rfl) (by exact fun _ _ _ h => h) (by first | assumption | exact KB.refl _) (.inl ⟨by rfl, fun W hW => ?_⟩) ?_; rotate_left
      ·(go_simp; first | done | with_reducible rfl)
      try simp only [Act.put, List.setIfInBounds_toArray, List.set_cons_zero, List.set_cons_succ]
      refine btake 2 (oi := _) (v := ?_) (by simp only [getElem?_toArray, getElem?_cons_succ, getElem?_cons_zero]; rfl) (by kernel_rfl) (by exact fun _ _ _ h => h) (by first | assumption | exact KB.refl _) (.inl ⟨by rfl, fun W hW => ?_⟩) ?_; rotate_left
      ·(go_simp; first | done | with_reducible rfl)
      try simp only [Act.put, List.setIfInBounds_toArray, List.set_cons_zero, List.set_cons_succ]
      refine btake 3 (oi := _) (v := ?_) (by simp only [getElem?_toArray, getElem?_cons_succ, getElem?_cons_zero]; rfl) (by kernel_rfl) (by exact fun _ _ _ h => h) (by first | assumption | exact KB.refl _) (.inl ⟨by rfl, fun W hW => ?_⟩) ?_; rotate_left
      ·(go_simp; first | done | with_reducible rfl)
      try simp only [Act.put, List.setIfInBounds_toArray, List.set_cons_zero, List.set_cons_succ]
      refine btake 4 (oi := _) (v := ?_) (by simp only [getElem?_toArray, getElem?_cons_succ, getElem?_cons_zero]; rfl) (by kernel_rfl) (by exact fun _ _ _ h => h) (by first | assumption | exact KB.refl _) (.inl ⟨by rfl, fun W hW => ?_⟩) ?_; rotate_left
      ·(go_simp; first | done | with_reducible rfl)
      try simp only [Act.put, List.setIfInBounds_toArray, List.set_cons_zero, List.set_cons_succ]
      refine btake 5 (oi := _) (v := ?_) (by simp only [getElem?_toArray, getElem?_cons_succ, getElem?_cons_zero]; rfl) (by kernel_rfl) (by exact fun _ _ _ h => h) (by first | assumption | exact KB.refl _) (.inl ⟨by rfl, fun W hW => ?_⟩) ?_; rotate_left
      ·(go_simp; first | done | with_reducible rfl)
      try simp only [Act.put, List.setIfInBounds_toArray, List.set_cons_zero, List.set_cons_succ]
      refine btake 6 (oi := _) (v := ?_) (by simp only [getElem?_toArray, getElem?_cons_succ, getElem?_cons_zero]; rfl) (by kernel_rfl) (by exact fun _ _ _ h => h) (by first | assumption | exact KB.refl _) (.inl ⟨by rfl, fun W hW => ?_⟩) ?_; rotate_left
      ·(go_simp; first | done | with_reducible rfl)
      try simp only [Act.put, List.setIfInBounds_toArray, List.set_cons_zero, List.set_cons_succ]
      refine btake 7 (oi := _) (v := ?_) (by simp only [getElem?_toArray, getElem?_cons_succ, getElem?_cons_zero]; rfl) (by kernel_rfl) (by exact fun _ _ _ h => h) (by first | assumption | exact KB.refl _) (.inl ⟨by rfl, fun W hW => ?_⟩) ?_; rotate_left
      ·(go_simp; first | done | with_reducible rfl)
      try simp only [Act.put, List.setIfInBounds_toArray, List.set_cons_zero, List.set_cons_succ]
      refine btake 8 (oi := _) (v := ?_) (by simp only [getElem?_toArray, getElem?_cons_succ, getElem?_cons_zero]; rfl) (by kernel_rfl) (by exact fun _ _ _ h => h) (by first | assumption | exact KB.refl _) (.inl ⟨by rfl, fun W hW => ?_⟩) ?_; rotate_left
      ·(go_simp; first | done | with_reducible rfl)
      try simp only [Act.put, List.setIfInBounds_toArray, List.set_cons_zero, List.set_cons_succ]
      refine btake 9 (oi := _) (v := ?_) (by simp only [getElem?_toArray, getElem?_cons_succ, getElem?_cons_zero]; rfl) (by kernel_rfl) (by exact fun _ _ _ h => h) (by first | assumption | exact KB.refl _) (.inl ⟨by rfl, fun W hW => ?_⟩) ?_; rotate_left
      ·(go_simp; first | done | with_reducible rfl)
      try simp only [Act.put, List.setIfInBounds_toArray, List.set_cons_zero, List.set_cons_succ]
      refine btake 10 (oi := _) (v := ?_) (by simp only [getElem?_toArray, getElem?_cons_succ, getElem?_cons_zero]; rfl) (by kernel_rfl) (by exact fun _ _ _ h => h) (by first | assumption | exact KB.refl _) (.inl ⟨by rfl, fun W hW => ?_⟩) ?_; rotate_left
      ·(go_simp; first | done | with_reducible rfl)
      try simp only [Act.put, List.setIfInBounds_toArray, List.set_cons_zero, List.set_cons_succ]
      refine btake 11 (oi := _) (v := ?_) (by simp only [getElem?_toArray, getElem?_cons_succ, getElem?_cons_zero]; rfl) (by kernel_rfl) (by exact fun _ _ _ h => h) (by first | assumption | exact KB.refl _) (.inl ⟨by rfl, fun W hW => ?_⟩) ?_; rotate_left
      ·(go_simp; first | done | with_reducible rfl)
      try simp only [Act.put, List.setIfInBounds_toArray, List.set_cons_zero, List.set_cons_succ]
      refine btake 12 (oi := _) (v := ?_) (by simp only [getElem?_toArray, getElem?_cons_succ, getElem?_cons_zero]; rfl) (by kernel_rfl) (by exact fun _ _ _ h => h) (by first | assumption | exact KB.refl _) (.inl ⟨by rfl, fun W hW => ?_⟩) ?_; rotate_left
      ·(go_simp; first | done | with_reducible rfl)
      try simp only [Act.put, List.setIfInBounds_toArray, List.set_cons_zero, List.set_cons_succ]
      refine btake 13 (oi := _) (v := ?_) (by simp only [getElem?_toArray, getElem?_cons_succ, getElem?_cons_zero]; rfl) (by kernel_rfl) (by exact fun _ _ _ h => h) (by first | assumption | exact KB.refl _) (.inl ⟨by rfl, fun W hW => ?_⟩) ?_; rotate_left
      ·(go_simp; first | done | with_reducible rfl)
      try simp only [Act.put, List.setIfInBounds_toArray, List.set_cons_zero, List.set_cons_succ]
      refine btake 14 (oi := _) (v := ?_) (by simp only [getElem?_toArray, getElem?_cons_succ, getElem?_cons_zero]; rfl) (by kernel_rfl) (by exact fun _ _ _ h => h) (by first | assumption | exact KB.refl _) (.inl ⟨by rfl, fun W hW => ?_⟩) ?_; rotate_left
      ·(go_simp; first | done | with_reducible rfl)
      try simp only [Act.put, List.setIfInBounds_toArray, List.set_cons_zero, List.set_cons_succ]
      refine btake 15 (oi := _) (v := undef) (by simp only [getElem?_toArray, getElem?_cons_succ, getElem?_cons_zero]; rfl) (by kernel_rfl) (by exact fun _ _ _ h => h) (by first | assumption | exact KB.refl _) (.inr ⟨by rfl, rfl⟩) ?_
      try simp only [Act.put, List.setIfInBounds_toArray, List.set_cons_zero, List.set_cons_succ]
      refine btake 16 (oi := _) (v := undef) (by simp only [getElem?_toArray, getElem?_cons_succ, getElem?_cons_zero]; rfl) (by kernel_rfl) (by exact fun _ _ _ h => h) (by first | assumption | exact KB.refl _) (.inr ⟨by rfl, rfl⟩) ?_
      try simp only [Act.put, List.setIfInBounds_toArray, List.set_cons_zero, List.set_cons_succ]
      refine btake 17 (oi := _) (v := undef) (by simp only [getElem?_toArray, getElem?_cons_succ, getElem?_cons_zero]; rfl) (by kernel_rfl) (by exact fun _ _ _ h => h) (by first | assumption | exact KB.refl _) (.inr ⟨by rfl, rfl⟩) ?_
      try simp only [Act.put, List.setIfInBounds_toArray, List.set_cons_zero, List.set_cons_succ]
      refine btake 18 (oi := _) (v := undef) (by simp only [getElem?_toArray, getElem?_cons_succ, getElem?_cons_zero]; rfl) (by kernel_rfl) (by exact fun _ _ _ h => h) (by first | assumption | exact KB.refl _) (.inr ⟨by rfl, rfl⟩) ?_
      try simp only [Act.put, List.setIfInBounds_toArray, List.set_cons_zero, List.set_cons_succ]
      refine btake 19 (oi := _) (v := ?_) (by simp only [getElem?_toArray, getElem?_cons_succ, getElem?_cons_zero]; rfl) (by kernel_rfl) (by exact fun _ _ _ h => h) (by first | assumption | exact KB.refl _) (.inl ⟨by rfl, fun W hW => ?_⟩) ?_; rotate_left
      ·(go_simp; first | done | with_reducible rfl)
      try simp only [Act.put, List.setIfInBounds_toArray, List.set_cons_zero, List.set_cons_succ]
      refine btake 20 (oi := _) (v := ?_) (by simp only [getElem?_toArray, getElem?_cons_succ, getElem?_cons_zero]; rfl) (by kernel_rfl) (by exact fun _ _ _ h => h) (by first | assumption | exact KB.refl _) (.inl ⟨by rfl, fun W hW => ?_⟩) ?_; rotate_left
      ·(go_simp; first | done | with_reducible rfl)
      try simp only [Act.put, List.setIfInBounds_toArray, List.set_cons_zero, List.set_cons_succ]
      refine btake 21 (oi := _) (v := undef) (by simp only [getElem?_toArray, getElem?_cons_succ, getElem?_cons_zero]; rfl) (by kernel_rfl) (by exact fun _ _ _ h => h) (by first | assumption | exact KB.refl _) (.inr ⟨by rfl, rfl⟩) ?_
      try simp only [Act.put, List.setIfInBounds_toArray, List.set_cons_zero, List.set_cons_succ]
      refine btake 22 (oi := _) (v := undef) (by simp only [getElem?_toArray, getElem?_cons_succ, getElem?_cons_zero]; rfl) (by kernel_rfl) (by exact fun _ _ _ h => h) (by first | assumption | exact KB.refl _) (.inr ⟨by rfl, rfl⟩) ?_
      try simp only [Act.put, List.setIfInBounds_toArray, List.set_cons_zero, List.set_cons_succ]
      refine btake 23 (oi := _) (v := undef) (by simp only [getElem?_toArray, getElem?_cons_succ, getElem?_cons_zero]; rfl) (by kernel_rfl) (by exact fun _ _ _ h => h) (by first | assumption | exact KB.refl _) (.inr ⟨by rfl, rfl⟩) ?_
      try simp only [Act.put, List.setIfInBounds_toArray, List.set_cons_zero, List.set_cons_succ]
      refine btake 24 (oi := _) (v := undef) (by simp only [getElem?_toArray, getElem?_cons_succ, getElem?_cons_zero]; rfl) (by kernel_rfl) (by exact fun _ _ _ h => h) (by first | assumption | exact KB.refl _) (.inr ⟨by rfl, rfl⟩) ?_
      try simp only [Act.put, List.setIfInBounds_toArray, List.set_cons_zero, List.set_cons_succ]
      refine btake 25 (oi := _) (v := undef) (by simp only [getElem?_toArray, getElem?_cons_succ, getElem?_cons_zero]; rfl) (by kernel_rfl) (by exact fun _ _ _ h => h) (by first | assumption | exact KB.refl _) (.inr ⟨by rfl, rfl⟩) ?_
      try simp only [Act.put, List.setIfInBounds_toArray, List.set_cons_zero, List.set_cons_succ]
      refine btake 26 (oi := _) (v := undef) (by simp only [getElem?_toArray, getElem?_cons_succ, getElem?_cons_zero]; rfl) (by kernel_rfl) (by exact fun _ _ _ h => h) (by first | assumption | exact KB.refl _) (.inr ⟨by rfl, rfl⟩) ?_
      try simp only [Act.put, List.setIfInBounds_toArray, List.set_cons_zero, List.set_cons_succ]
      refine btake 27 (oi := _) (v := undef) (by simp only [getElem?_toArray, getElem?_cons_succ, getElem?_cons_zero]; rfl) (by kernel_rfl) (by exact fun _ _ _ h => h) (by first | assumption | exact KB.refl _) (.inr ⟨by rfl, rfl⟩) ?_
      try simp only [Act.put, List.setIfInBounds_toArray, List.set_cons_zero, List.set_cons_succ]
      refine btake 28 (oi := _) (v := undef) (by simp only [getElem?_toArray, getElem?_cons_succ, getElem?_cons_zero]; rfl) (by kernel_rfl) (by exact fun _ _ _ h => h) (by first | assumption | exact KB.refl _) (.inr ⟨by rfl, rfl⟩) ?_
      try simp only [Act.put, List.setIfInBounds_toArray, List.set_cons_zero, List.set_cons_succ]
      refine btake 29 (oi := _) (v := undef) (by simp only [getElem?_toArray, getElem?_cons_succ, getElem?_cons_zero]; rfl) (by kernel_rfl) (by exact fun _ _ _ h => h) (by first | assumption | exact KB.refl _) (.inr ⟨by rfl, rfl⟩) ?_
      try simp only [Act.put, List.setIfInBounds_toArray, List.set_cons_zero, List.set_cons_succ]
      refine btake 30 (oi := _) (v := undef) (by simp only [getElem?_toArray, getElem?_cons_succ, getElem?_cons_zero]; rfl) (by kernel_rfl) (by exact fun _ _ _ h => h) (by first | assumption | exact KB.refl _) (.inr ⟨by rfl, rfl⟩) ?_
      try simp only [Act.put, List.setIfInBounds_toArray, List.set_cons_zero, List.set_cons_succ]
      refine btake 31 (oi := _) (v := undef) (by simp only [getElem?_toArray, getElem?_cons_succ, getElem?_cons_zero]; rfl) (by kernel_rfl) (by exact fun _ _ _ h => h) (by first | assumption | exact KB.refl _) (.inr ⟨by rfl, rfl⟩) ?_
      try simp only [Act.put, List.setIfInBounds_toArray, List.set_cons_zero, List.set_cons_succ]
      refine btake 32 (oi := _) (v := undef) (by simp only [getElem?_toArray, getElem?_cons_succ, getElem?_cons_zero]; rfl) (by kernel_rfl) (by exact fun _ _ _ h => h) (by first | assumption | exact KB.refl _) (.inr ⟨by rfl, rfl⟩) ?_
      try simp only [Act.put, List.setIfInBounds_toArray, List.set_cons_zero, List.set_cons_succ]
      refine btake 33 (oi := _) (v := undef) (by simp only [getElem?_toArray, getElem?_cons_succ, getElem?_cons_zero]; rfl) (by kernel_rfl) (by exact fun _ _ _ h => h) (by first | assumption | exact KB.refl _) (.inr ⟨by rfl, rfl⟩) ?_
      try simp only [Act.put, List.setIfInBounds_toArray, List.set_cons_zero, List.set_cons_succ]
      refine btake 34 (oi := _) (v := undef) (by simp only [getElem?_toArray, getElem?_cons_succ, getElem?_cons_zero]; rfl) (by kernel_rfl) (by exact fun _ _ _ h => h) (by first | assumption | exact KB.refl _) (.inr ⟨by rfl, rfl⟩) ?_
      try simp only [Act.put, List.setIfInBounds_toArray, List.set_cons_zero, List.set_cons_succ]
      refine btake 35 (oi := _) (v := ?_) (by simp only [getElem?_toArray, getElem?_cons_succ, getElem?_cons_zero]; rfl) (by kernel_rfl) (by exact fun _ _ _ h => h) (by first | assumption | exact KB.refl _) (.inl ⟨by rfl, fun W hW => ?_⟩) ?_; rotate_left
      ·(go_simp; first | done | with_reducible rfl)
      try simp only [Act.put, List.setIfInBounds_toArray, List.set_cons_zero, List.set_cons_succ]
      refine bdone (by kernel_rfl) ?_
      have hbz := hb2.drew
      go_wp2_with fail
      go_ret
      exact ⟨ret_b HF.out.symm, hbz⟩
     ·have hbb : ((l.length : Int) == 0) = false := by simpa using g3
      rw [decide_eq_true g2, show l.isEmpty = false by simpa using g3] at hrt
      simp only [Bool.and_true, Bool.not_false] at hrt
      obtain ⟨p, hp⟩ : ∃ p, right l = p := ⟨_, rfl⟩
      rw [hp] at hrt HR
      have hHR : ∀ W2, Below W1.heap.size W1 W2 → Hid (Calls Try.prog 17 #[.slice A' l.length c'] W2 fun e w' => e = .returned (.bool p) ∧ Below W2.heap.size W2 w') := HR
      have HQ := Lib.hid hHR
      clear HR hHR g3 hp
      cases p with
      | false =>
       have HF := Lib.hid (show rightV V = false by rw [hrt]; simp)
       clear hrt g1 g2 hm hv
       refine bstartH (W1.heap) (by kernel_rfl) ?_
       refine btake 0 (oi := _) (v := ?_) (by simp only [List.getElem?_toArray, List.getElem?_cons_zero]; rfl) (by kernel_rfl) (by exact fun _ _ _ h => h) (by first | assumption | exact KB.refl _) (.inl ⟨by rfl, fun W hW => ?_⟩) ?_; rotate_left
       ·(go_simp; first | done | with_reducible rfl)
       try simp only [Act.put, List.setIfInBounds_toArray, List.set_cons_zero, List.set_cons_succ]
       refine btake 1 (oi := _) (v := ?_) (by simp only [getElem?_toArray, getElem?_cons_succ, getElem?_cons_zero]; rfl) (by kernel_rfl) (by exact fun _ _ _ h => h) (by first | assumption | exact KB.refl _) (.inl ⟨by rfl, fun W hW => ?_⟩) ?_; rotate_left
       ·(go_simp; first | done | with_reducible rfl)
       try simp only [Act.put, List.setIfInBounds_toArray, List.set_cons_zero, List.set_cons_succ]
       refine btake 2 (oi := _) (v := ?_) (by simp only [getElem?_toArray, getElem?_cons_succ, getElem?_cons_zero]; rfl) (by kernel_rfl) (by exact fun _ _ _ h => h) (by first | assumption | exact KB.refl _) (.inl ⟨by rfl, fun W hW => ?_⟩) ?_; rotate_left
       ·(go_simp; first | done | with_reducible rfl)
       try simp only [Act.put, List.setIfInBounds_toArray, List.set_cons_zero, List.set_cons_succ]
       refine btake 3 (oi := _) (v := ?_) (by simp only [getElem?_toArray, getElem?_cons_succ, getElem?_cons_zero]; rfl) (by kernel_rfl) (by exact fun _ _ _ h => h) (by first | assumption | exact KB.refl _) (.inl ⟨by rfl, fun W hW => ?_⟩) ?_; rotate_left
       ·(go_simp; first | done | with_reducible rfl)
       try simp only [Act.put, List.setIfInBounds_toArray, List.set_cons_zero, List.set_cons_succ]
       refine btake 4 (oi := _) (v := ?_) (by simp only [getElem?_toArray, getElem?_cons_succ, getElem?_cons_zero]; rfl) (by kernel_rfl) (by exact fun _ _ _ h => h) (by first | assumption | exact KB.refl _) (.inl ⟨by rfl, fun W hW => ?_⟩) ?_; rotate_left
       ·(go_simp; first | done | with_reducible rfl)
       try simp only [Act.put, List.setIfInBounds_toArray, List.set_cons_zero, List.set_cons_succ]
       refine btake 5 (oi := _) (v := ?_) (by simp only [getElem?_toArray, getElem?_cons_succ, getElem?_cons_zero]; rfl) (by kernel_rfl) (by exact fun _ _ _ h => h) (by first | assumption | exact KB.refl _) (.inl ⟨by rfl, fun W hW => ?_⟩) ?_; rotate_left
       ·(go_simp; first | done | with_reducible rfl)
       try simp only [Act.put, List.setIfInBounds_toArray, List.set_cons_zero, List.set_cons_succ]
       refine btake 6 (oi := _) (v := ?_) (by simp only [getElem?_toArray, getElem?_cons_succ, getElem?_cons_zero]; rfl) (by kernel_rfl) (by exact fun _ _ _ h => h) (by first | assumption | exact KB.refl _) (.inl ⟨by rfl, fun W hW => ?_⟩) ?_; rotate_left
       ·(go_simp; first | done | with_reducible rfl)
       try simp only [Act.put, List.setIfInBounds_toArray, List.set_cons_zero, List.set_cons_succ]
       refine btake 7 (oi := _) (v := ?_) (by simp only [getElem?_toArray, getElem?_cons_succ, getElem?_cons_zero]; rfl) (by kernel_rfl) (by exact fun _ _ _ h => h) (by first | assumption | exact KB.refl _) (.inl ⟨by rfl, fun W hW => ?_⟩) ?_; rotate_left
       ·(go_simp; first | done | with_reducible rfl)
       try simp only [Act.put, List.setIfInBounds_toArray, List.set_cons_zero, List.set_cons_succ]
       refine btake 8 (oi := _) (v := ?_) (by simp only [getElem?_toArray, getElem?_cons_succ, getElem?_cons_zero]; rfl) (by kernel_rfl) (by exact fun _ _ _ h => h) (by first | assumption | exact KB.refl _) (.inl ⟨by rfl, fun W hW => ?_⟩) ?_; rotate_left
       ·(go_simp; first | done | with_reducible rfl)
       try simp only [Act.put, List.setIfInBounds_toArray, List.set_cons_zero, List.set_cons_succ]
       refine btake 9 (oi := _) (v := ?_) (by simp only [getElem?_toArray, getElem?_cons_succ, getElem?_cons_zero]; rfl) (by kernel_rfl) (by exact fun _ _ _ h => h) (by first | assumption | exact KB.refl _) (.inl ⟨by rfl, fun W hW => ?_⟩) ?_; rotate_left
       ·(go_simp; first | done | with_reducible rfl)
       try simp only [Act.put, List.setIfInBounds_toArray, List.set_cons_zero, List.set_cons_succ]
       refine btake 10 (oi := _) (v := ?_) (by simp only [getElem?_toArray, getElem?_cons_succ, getElem?_cons_zero]; rfl) (by kernel_rfl) (by exact fun _ _ _ h => h) (by first | assumption | exact KB.refl _) (.inl ⟨by rfl, fun W hW => ?_⟩) ?_; rotate_left
       ·(go_simp; first | done | with_reducible rfl)
       try simp only [Act.put, List.setIfInBounds_toArray, List.set_cons_zero, List.set_cons_succ]
       refine btake 11 (oi := _) (v := ?_) (by simp only [getElem?_toArray, getElem?_cons_succ, getElem?_cons_zero]; rfl) (by kernel_rfl) (by exact fun _ _ _ h => h) (by first | assumption | exact KB.refl _) (.inl ⟨by rfl, fun W hW => ?_⟩) ?_; rotate_left
       ·(go_simp; first | done | with_reducible rfl)
       try simp only [Act.put, List.setIfInBounds_toArray, List.set_cons_zero, List.set_cons_succ]
       refine btake 12 (oi := _) (v := ?_) (by simp only [getElem?_toArray, getElem?_cons_succ, getElem?_cons_zero]; rfl) (by kernel_rfl) (by exact fun _ _ _ h => h) (by first | assumption | exact KB.refl _) (.inl ⟨by rfl, fun W hW => ?_⟩) ?_; rotate_left
       ·(go_simp; first | done | with_reducible rfl)
       try simp only [Act.put, List.setIfInBounds_toArray, List.set_cons_zero, List.set_cons_succ]
       refine btake 13 (oi := _) (v := ?_) (by simp only [getElem?_toArray, getElem?_cons_succ, getElem?_cons_zero]; rfl) (by kernel_rfl) (by exact fun _ _ _ h => h) (by first | assumption | exact KB.refl _) (.inl ⟨by rfl, fun W hW => ?_⟩) ?_; rotate_left
       ·(go_simp; first | done | with_reducible rfl)
       try simp only [Act.put, List.setIfInBounds_toArray, List.set_cons_zero, List.set_cons_succ]
       refine btake 14 (oi := _) (v := ?_) (by simp only [getElem?_toArray, getElem?_cons_succ, getElem?_cons_zero]; rfl) (by kernel_rfl) (by exact fun _ _ _ h => h) (by first | assumption | exact KB.refl _) (.inl ⟨by rfl, fun W hW => ?_⟩) ?_; rotate_left
       ·(go_simp; first | done | with_reducible rfl)
       try simp only [Act.put, List.setIfInBounds_toArray, List.set_cons_zero, List.set_cons_succ]
       refine btake 15 (oi := _) (v := ?_) (by simp only [getElem?_toArray, getElem?_cons_succ, getElem?_cons_zero]; rfl) (by kernel_rfl) (by exact fun _ _ _ h => h) (by first | assumption | exact KB.refl _) (.inl ⟨by rfl, fun W hW => ?_⟩) ?_; rotate_left
       ·(go_simp; first | done | with_reducible rfl)
       try simp only [Act.put, List.setIfInBounds_toArray, List.set_cons_zero, List.set_cons_succ]
       refine btake 16 (oi := _) (v := ?_) (by simp only [getElem?_toArray, getElem?_cons_succ, getElem?_cons_zero]; rfl) (by kernel_rfl) (by exact fun _ _ _ h => h) (by first | assumption | exact KB.refl _) (.inl ⟨by rfl, fun W hW => ?_⟩) ?_; rotate_left
       ·(go_simp; first | done | with_reducible rfl)
       try simp only [Act.put, List.setIfInBounds_toArray, List.set_cons_zero, List.set_cons_succ]
       refine bopH 17 (o := _) (by simp only [getElem?_toArray, getElem?_cons_succ, getElem?_cons_zero]; rfl) (by kernel_rfl) (by first | assumption | exact KB.refl _) (by rfl) (fun K hK => ?_)
       go_simp
       refine (HQ.out _ (Below.refl _ _).drew).out.mono ?_
       rintro e w2 ⟨rfl, h2⟩
       have hkb : KB W1.heap w2 := KB.of ((Below.refl _ _).drew.trans h2)
       have HZ := Lib.hid (hb2.drew.trans (h2.mono hb2.size))
       clear h2
       refine hK.out _ _ hkb ?_; clear hK K
       try simp only [Act.put, List.setIfInBounds_toArray, List.set_cons_zero, List.set_cons_succ]
       refine btake 18 (oi := _) (v := ?_) (by simp only [getElem?_toArray, getElem?_cons_succ, getElem?_cons_zero]; rfl) (by kernel_rfl) (by exact fun _ _ _ h => h) (by first | assumption | exact KB.refl _) (.inl ⟨by rfl, fun W hW => ?_⟩) ?_; rotate_left
       ·(go_simp; first | done | with_reducible rfl)
       try simp only [Act.put, List.setIfInBounds_toArray, List.set_cons_zero, List.set_cons_succ]
       refine btake 19 (oi := _) (v := ?_) (by simp only [getElem?_toArray, getElem?_cons_succ, getElem?_cons_zero]; rfl) (by kernel_rfl) (by exact fun _ _ _ h => h) (by first | assumption | exact KB.refl _) (.inl ⟨by rfl, fun W hW => ?_⟩) ?_; rotate_left
       ·(go_simp; first | done | with_reducible rfl)
       try simp only [Act.put, List.setIfInBounds_toArray, List.set_cons_zero, List.set_cons_succ]
       refine btake 20 (oi := _) (v := ?_) (by simp only [getElem?_toArray, getElem?_cons_succ, getElem?_cons_zero]; rfl) (by kernel_rfl) (by exact fun _ _ _ h => h) (by first | assumption | exact KB.refl _) (.inl ⟨by rfl, fun W hW => ?_⟩) ?_; rotate_left
       ·(go_simp; first | done | with_reducible rfl)
       try simp only [Act.put, List.setIfInBounds_toArray, List.set_cons_zero, List.set_cons_succ]
       refine btake 21 (oi := _) (v := undef) (by simp only [getElem?_toArray, getElem?_cons_succ, getElem?_cons_zero]; rfl) (by kernel_rfl) (by exact fun _ _ _ h => h) (by first | assumption | exact KB.refl _) (.inr ⟨by rfl, rfl⟩) ?_
       try simp only [Act.put, List.setIfInBounds_toArray, List.set_cons_zero, List.set_cons_succ]
       refine btake 22 (oi := _) (v := undef) (by simp only [getElem?_toArray, getElem?_cons_succ, getElem?_cons_zero]; rfl) (by kernel_rfl) (by exact fun _ _ _ h => h) (by first | assumption | exact KB.refl _) (.inr ⟨by rfl, rfl⟩) ?_
       try simp only [Act.put, List.setIfInBounds_toArray, List.set_cons_zero, List.set_cons_succ]
       refine btake 23 (oi := _) (v := undef) (by simp only [getElem?_toArray, getElem?_cons_succ, getElem?_cons_zero]; rfl) (by kernel_rfl) (by exact fun _ _ _ h => h) (by first | assumption | exact KB.refl _) (.inr ⟨by rfl, rfl⟩) ?_
       try simp only [Act.put, List.setIfInBounds_toArray, List.set_cons_zero, List.set_cons_succ]
       refine btake 24 (oi := _) (v := undef) (by simp only [getElem?_toArray, getElem?_cons_succ, getElem?_cons_zero]; rfl) (by kernel_rfl) (by exact fun _ _ _ h => h) (by first | assumption | exact KB.refl _) (.inr ⟨by rfl, rfl⟩) ?_
       try simp only [Act.put, List.setIfInBounds_toArray, List.set_cons_zero, List.set_cons_succ]
       refine btake 25 (oi := _) (v := undef) (by simp only [getElem?_toArray, getElem?_cons_succ, getElem?_cons_zero]; rfl) (by kernel_rfl) (by exact fun _ _ _ h => h) (by first | assumption | exact KB.refl _) (.inr ⟨by rfl, rfl⟩) ?_
       try simp only [Act.put, List.setIfInBounds_toArray, List.set_cons_zero, List.set_cons_succ]
       refine btake 26 (oi := _) (v := undef) (by simp only [getElem?_toArray, getElem?_cons_succ, getElem?_cons_zero]; rfl) (by kernel_rfl) (by exact fun _ _ _ h => h) (by first | assumption | exact KB.refl _) (.inr ⟨by rfl, rfl⟩) ?_
       try simp only [Act.put, List.setIfInBounds_toArray, List.set_cons_zero, List.set_cons_succ]
       refine btake 27 (oi := _) (v := undef) (by simp only [getElem?_toArray, getElem?_cons_succ, getElem?_cons_zero]; rfl) (by kernel_rfl) (by exact fun _ _ _ h => h) (by first | assumption | exact KB.refl _) (.inr ⟨by rfl, rfl⟩) ?_
       try simp only [Act.put, List.setIfInBounds_toArray, List.set_cons_zero, List.set_cons_succ]
       refine btake 28 (oi := _) (v := undef) (by simp only [getElem?_toArray, getElem?_cons_succ, getElem?_cons_zero]; rfl) (by kernel_rfl) (by exact fun _ _ _ h => h) (by first | assumption | exact KB.refl _) (.inr ⟨by rfl, rfl⟩) ?_
       try simp only [Act.put, List.setIfInBounds_toArray, List.set_cons_zero, List.set_cons_succ]
       refine btake 29 (oi := _) (v := undef) (by simp only [getElem?_toArray, getElem?_cons_succ, getElem?_cons_zero]; rfl) (by kernel_rfl) (by exact fun _ _ _ h => h) (by first | assumption | exact KB.refl _) (.inr ⟨by rfl, rfl⟩) ?_
       try simp only [Act.put, List.setIfInBounds_toArray, List.set_cons_zero, List.set_cons_succ]
       refine btake 30 (oi := _) (v := undef) (by simp only [getElem?_toArray, getElem?_cons_succ, getElem?_cons_zero]; rfl) (by kernel_rfl) (by exact fun _ _ _ h => h) (by first | assumption | exact KB.refl _) (.inr ⟨by rfl, rfl⟩) ?_
       try simp only [Act.put, List.setIfInBounds_toArray, List.set_cons_zero, List.set_cons_succ]
       refine btake 31 (oi := _) (v := undef) (by simp only [getElem?_toArray, getElem?_cons_succ, getElem?_cons_zero]; rfl) (by kernel_rfl) (by exact fun _ _ _ h => h) (by first | assumption | exact KB.refl _) (.inr ⟨by rfl, rfl⟩) ?_
       try simp only [Act.put, List.setIfInBounds_toArray, List.set_cons_zero, List.set_cons_succ]
       refine btake 32 (oi := _) (v := undef) (by simp only [getElem?_toArray, getElem?_cons_succ, getElem?_cons_zero]; rfl) (by kernel_rfl) (by exact fun _ _ _ h => h) (by first | assumption | exact KB.refl _) (.inr ⟨by rfl, rfl⟩) ?_
       try simp only [Act.put, List.setIfInBounds_toArray, List.set_cons_zero, List.set_cons_succ]
       refine btake 33 (oi := _) (v := undef) (by simp only [getElem?_toArray, getElem?_cons_succ, getElem?_cons_zero]; rfl) (by kernel_rfl) (by exact fun _ _ _ h => h) (by first | assumption | exact KB.refl _) (.inr ⟨by rfl, rfl⟩) ?_
       try simp only [Act.put, List.setIfInBounds_toArray, List.set_cons_zero, List.set_cons_succ]
       refine btake 34 (oi := _) (v := undef) (by simp only [getElem?_toArray, getElem?_cons_succ, getElem?_cons_zero]; rfl) (by kernel_rfl) (by exact fun _ _ _ h => h) (by first | assumption | exact KB.refl _) (.inr ⟨by rfl, rfl⟩) ?_
       try simp only [Act.put, List.setIfInBounds_toArray, List.set_cons_zero, List.set_cons_succ]
       refine btake 35 (oi := _) (v := ?_) (by simp only [getElem?_toArray, getElem?_cons_succ, getElem?_cons_zero]; rfl) (by kernel_rfl) (by exact fun _ _ _ h => h) (by first | assumption | exact KB.refl _) (.inl ⟨by rfl, fun W hW => ?_⟩) ?_; rotate_left
       ·(go_simp; first | done | with_reducible rfl)
       try simp only [Act.put, List.setIfInBounds_toArray, List.set_cons_zero, List.set_cons_succ]
       refine bdone (by kernel_rfl) ?_
       have hbz := HZ.out
       go_wp2_with fail
       go_ret
       exact ⟨ret_b HF.out.symm, hbz⟩
      | true =>
       simp only [Bool.and_true] at hrt
       by_cases g4 : z < r
       ·have HS := Lib.hid (show rightV V = okV r (V.drop (k + 1)) by rw [hrt, decide_eq_true g4, Bool.true_and])
        clear hrt hm hv
        rcases Nat.eq_zero_or_pos k with rfl | hkp
        ·have HV := Lib.hid hzk2
         clear hzk2 hprev hp1 hzk
         refine bstartH (W1.heap) (by kernel_rfl) ?_
         refine btake 0 (oi := _) (v := ?_) (by simp only [List.getElem?_toArray, List.getElem?_cons_zero]; rfl) (by kernel_rfl) (by exact fun _ _ _ h => h) (by first | assumption | exact KB.refl _) (.inl ⟨by rfl, fun W hW => ?_⟩) ?_; rotate_left
         ·(go_simp; first | done | with_reducible rfl)
         try simp only [Act.put, List.setIfInBounds_toArray, List.set_cons_zero, List.set_cons_succ]
         refine btake 1 (oi := _) (v := ?_) (by simp only [getElem?_toArray, getElem?_cons_succ, getElem?_cons_zero]; rfl) (by kernel_rfl) (by exact fun _ _ _ h => h) (by first | assumption | exact KB.refl _) (.inl ⟨by rfl, fun W hW => ?_⟩) ?_; rotate_left
         ·(go_simp; first | done | with_reducible rfl)
         try simp only [Act.put, List.setIfInBounds_toArray, List.set_cons_zero, List.set_cons_succ]
         refine btake 2 (oi := _) (v := ?_) (by simp only [getElem?_toArray, getElem?_cons_succ, getElem?_cons_zero]; rfl) (by kernel_rfl) (by exact fun _ _ _ h => h) (by first | assumption | exact KB.refl _) (.inl ⟨by rfl, fun W hW => ?_⟩) ?_; rotate_left
         ·(go_simp; first | done | with_reducible rfl)
         try simp only [Act.put, List.setIfInBounds_toArray, List.set_cons_zero, List.set_cons_succ]
         refine btake 3 (oi := _) (v := ?_) (by simp only [getElem?_toArray, getElem?_cons_succ, getElem?_cons_zero]; rfl) (by kernel_rfl) (by exact fun _ _ _ h => h) (by first | assumption | exact KB.refl _) (.inl ⟨by rfl, fun W hW => ?_⟩) ?_; rotate_left
         ·(go_simp; first | done | with_reducible rfl)
         try simp only [Act.put, List.setIfInBounds_toArray, List.set_cons_zero, List.set_cons_succ]
         refine btake 4 (oi := _) (v := ?_) (by simp only [getElem?_toArray, getElem?_cons_succ, getElem?_cons_zero]; rfl) (by kernel_rfl) (by exact fun _ _ _ h => h) (by first | assumption | exact KB.refl _) (.inl ⟨by rfl, fun W hW => ?_⟩) ?_; rotate_left
         ·(go_simp; first | done | with_reducible rfl)
         try simp only [Act.put, List.setIfInBounds_toArray, List.set_cons_zero, List.set_cons_succ]
         refine btake 5 (oi := _) (v := ?_) (by simp only [getElem?_toArray, getElem?_cons_succ, getElem?_cons_zero]; rfl) (by kernel_rfl) (by exact fun _ _ _ h => h) (by first | assumption | exact KB.refl _) (.inl ⟨by rfl, fun W hW => ?_⟩) ?_; rotate_left
         ·(go_simp; first | done | with_reducible rfl)
         try simp only [Act.put, List.setIfInBounds_toArray, List.set_cons_zero, List.set_cons_succ]
         refine btake 6 (oi := _) (v := ?_) (by simp only [getElem?_toArray, getElem?_cons_succ, getElem?_cons_zero]; rfl) (by kernel_rfl) (by exact fun _ _ _ h => h) (by first | assumption | exact KB.refl _) (.inl ⟨by rfl, fun W hW => ?_⟩) ?_; rotate_left
         ·(go_simp; first | done | with_reducible rfl)
         try simp only [Act.put, List.setIfInBounds_toArray, List.set_cons_zero, List.set_cons_succ]
         refine btake 7 (oi := _) (v := ?_) (by simp only [getElem?_toArray, getElem?_cons_succ, getElem?_cons_zero]; rfl) (by kernel_rfl) (by exact fun _ _ _ h => h) (by first | assumption | exact KB.refl _) (.inl ⟨by rfl, fun W hW => ?_⟩) ?_; rotate_left
         ·(go_simp; first | done | with_reducible rfl)
         try simp only [Act.put, List.setIfInBounds_toArray, List.set_cons_zero, List.set_cons_succ]
         refine btake 8 (oi := _) (v := ?_) (by simp only [getElem?_toArray, getElem?_cons_succ, getElem?_cons_zero]; rfl) (by kernel_rfl) (by exact fun _ _ _ h => h) (by first | assumption | exact KB.refl _) (.inl ⟨by rfl, fun W hW => ?_⟩) ?_; rotate_left
         ·(go_simp; first | done | with_reducible rfl)
         try simp only [Act.put, List.setIfInBounds_toArray, List.set_cons_zero, List.set_cons_succ]
         refine btake 9 (oi := _) (v := ?_) (by simp only [getElem?_toArray, getElem?_cons_succ, getElem?_cons_zero]; rfl) (by kernel_rfl) (by exact fun _ _ _ h => h) (by first | assumption | exact KB.refl _) (.inl ⟨by rfl, fun W hW => ?_⟩) ?_; rotate_left
         ·(go_simp; first | done | with_reducible rfl)
         try simp only [Act.put, List.setIfInBounds_toArray, List.set_cons_zero, List.set_cons_succ]
         refine btake 10 (oi := _) (v := ?_) (by simp only [getElem?_toArray, getElem?_cons_succ, getElem?_cons_zero]; rfl) (by kernel_rfl) (by exact fun _ _ _ h => h) (by first | assumption | exact KB.refl _) (.inl ⟨by rfl, fun W hW => ?_⟩) ?_; rotate_left
         ·(go_simp; first | done | with_reducible rfl)
         try simp only [Act.put, List.setIfInBounds_toArray, List.set_cons_zero, List.set_cons_succ]
         refine btake 11 (oi := _) (v := ?_) (by simp only [getElem?_toArray, getElem?_cons_succ, getElem?_cons_zero]; rfl) (by kernel_rfl) (by exact fun _ _ _ h => h) (by first | assumption | exact KB.refl _) (.inl ⟨by rfl, fun W hW => ?_⟩) ?_; rotate_left
         ·(go_simp; first | done | with_reducible rfl)
         try simp only [Act.put, List.setIfInBounds_toArray, List.set_cons_zero, List.set_cons_succ]
         refine btake 12 (oi := _) (v := ?_) (by simp only [getElem?_toArray, getElem?_cons_succ, getElem?_cons_zero]; rfl) (by kernel_rfl) (by exact fun _ _ _ h => h) (by first | assumption | exact KB.refl _) (.inl ⟨by rfl, fun W hW => ?_⟩) ?_; rotate_left
         ·(go_simp; first | done | with_reducible rfl)
         try simp only [Act.put, List.setIfInBounds_toArray, List.set_cons_zero, List.set_cons_succ]
         refine btake 13 (oi := _) (v := ?_) (by simp only [getElem?_toArray, getElem?_cons_succ, getElem?_cons_zero]; rfl) (by kernel_rfl) (by exact fun _ _ _ h => h) (by first | assumption | exact KB.refl _) (.inl ⟨by rfl, fun W hW => ?_⟩) ?_; rotate_left
         ·(go_simp; first | done | with_reducible rfl)
         try simp only [Act.put, List.setIfInBounds_toArray, List.set_cons_zero, List.set_cons_succ]
         refine btake 14 (oi := _) (v := ?_) (by simp only [getElem?_toArray, getElem?_cons_succ, getElem?_cons_zero]; rfl) (by kernel_rfl) (by exact fun _ _ _ h => h) (by first | assumption | exact KB.refl _) (.inl ⟨by rfl, fun W hW => ?_⟩) ?_; rotate_left
         ·(go_simp; first | done | with_reducible rfl)
         try simp only [Act.put, List.setIfInBounds_toArray, List.set_cons_zero, List.set_cons_succ]
         refine btake 15 (oi := _) (v := ?_) (by simp only [getElem?_toArray, getElem?_cons_succ, getElem?_cons_zero]; rfl) (by kernel_rfl) (by exact fun _ _ _ h => h) (by first | assumption | exact KB.refl _) (.inl ⟨by rfl, fun W hW => ?_⟩) ?_; rotate_left
         ·(go_simp; first | done | with_reducible rfl)
         try simp only [Act.put, List.setIfInBounds_toArray, List.set_cons_zero, List.set_cons_succ]
         refine btake 16 (oi := _) (v := ?_) (by simp only [getElem?_toArray, getElem?_cons_succ, getElem?_cons_zero]; rfl) (by kernel_rfl) (by exact fun _ _ _ h => h) (by first | assumption | exact KB.refl _) (.inl ⟨by rfl, fun W hW => ?_⟩) ?_; rotate_left
         ·(go_simp; first | done | with_reducible rfl)
         try simp only [Act.put, List.setIfInBounds_toArray, List.set_cons_zero, List.set_cons_succ]
         refine bopH 17 (o := _) (by simp only [getElem?_toArray, getElem?_cons_succ, getElem?_cons_zero]; rfl) (by kernel_rfl) (by first | assumption | exact KB.refl _) (by rfl) (fun K hK => ?_)
         go_simp
         refine (HQ.out _ (Below.refl _ _).drew).out.mono ?_
         rintro e w2 ⟨rfl, h2⟩
         have hkb : KB W1.heap w2 := KB.of ((Below.refl _ _).drew.trans h2)
         have HZ := Lib.hid (hbx.drew.trans (h2.mono hbx.size))
         clear h2
         refine hK.out _ _ hkb ?_; clear hK K
         try simp only [Act.put, List.setIfInBounds_toArray, List.set_cons_zero, List.set_cons_succ]
         refine btake 18 (oi := _) (v := ?_) (by simp only [getElem?_toArray, getElem?_cons_succ, getElem?_cons_zero]; rfl) (by kernel_rfl) (by exact fun _ _ _ h => h) (by first | assumption | exact KB.refl _) (.inl ⟨by rfl, fun W hW => ?_⟩) ?_; rotate_left
         ·(go_simp; first | done | with_reducible rfl)
         try simp only [Act.put, List.setIfInBounds_toArray, List.set_cons_zero, List.set_cons_succ]
         refine btake 19 (oi := _) (v := ?_) (by simp only [getElem?_toArray, getElem?_cons_succ, getElem?_cons_zero]; rfl) (by kernel_rfl) (by exact fun _ _ _ h => h) (by first | assumption | exact KB.refl _) (.inl ⟨by rfl, fun W hW => ?_⟩) ?_; rotate_left
         ·(go_simp; first | done | with_reducible rfl)
         try simp only [Act.put, List.setIfInBounds_toArray, List.set_cons_zero, List.set_cons_succ]
         refine btake 20 (oi := _) (v := ?_) (by simp only [getElem?_toArray, getElem?_cons_succ, getElem?_cons_zero]; rfl) (by kernel_rfl) (by exact fun _ _ _ h => h) (by first | assumption | exact KB.refl _) (.inl ⟨by rfl, fun W hW => ?_⟩) ?_; rotate_left
         ·(go_simp; first | done | with_reducible rfl)
         try simp only [Act.put, List.setIfInBounds_toArray, List.set_cons_zero, List.set_cons_succ]
         refine btake 21 (oi := _) (v := ?_) (by simp only [getElem?_toArray, getElem?_cons_succ, getElem?_cons_zero]; rfl) (by kernel_rfl) (by exact fun _ _ _ h => h) (by first | assumption | exact KB.refl _) (.inl ⟨by rfl, fun W hW => ?_⟩) ?_; rotate_left
         ·(go_simp; first | done | with_reducible rfl)
         try simp only [Act.put, List.setIfInBounds_toArray, List.set_cons_zero, List.set_cons_succ]
         refine btake 22 (oi := _) (v := ?_) (by simp only [getElem?_toArray, getElem?_cons_succ, getElem?_cons_zero]; rfl) (by kernel_rfl) (by exact fun _ _ _ h => h) (by first | assumption | exact KB.refl _) (.inl ⟨by rfl, fun W hW => ?_⟩) ?_; rotate_left
         ·(go_simp; first | done | with_reducible rfl)
         try simp only [Act.put, List.setIfInBounds_toArray, List.set_cons_zero, List.set_cons_succ]
         refine btake 23 (oi := _) (v := ?_) (by simp only [getElem?_toArray, getElem?_cons_succ, getElem?_cons_zero]; rfl) (by kernel_rfl) (by exact fun _ _ _ h => h) (by first | assumption | exact KB.refl _) (.inl ⟨by rfl, fun W hW => ?_⟩) ?_; rotate_left
         ·(go_simp; first | done | with_reducible rfl)
         try simp only [Act.put, List.setIfInBounds_toArray, List.set_cons_zero, List.set_cons_succ]
         refine btake 24 (oi := _) (v := undef) (by simp only [getElem?_toArray, getElem?_cons_succ, getElem?_cons_zero]; rfl) (by kernel_rfl) (by exact fun _ _ _ h => h) (by first | assumption | exact KB.refl _) (.inr ⟨by rfl, rfl⟩) ?_
         try simp only [Act.put, List.setIfInBounds_toArray, List.set_cons_zero, List.set_cons_succ]
         refine btake 25 (oi := _) (v := undef) (by simp only [getElem?_toArray, getElem?_cons_succ, getElem?_cons_zero]; rfl) (by kernel_rfl) (by exact fun _ _ _ h => h) (by first | assumption | exact KB.refl _) (.inr ⟨by rfl, rfl⟩) ?_
         try simp only [Act.put, List.setIfInBounds_toArray, List.set_cons_zero, List.set_cons_succ]
         refine btake 26 (oi := _) (v := undef) (by simp only [getElem?_toArray, getElem?_cons_succ, getElem?_cons_zero]; rfl) (by kernel_rfl) (by exact fun _ _ _ h => h) (by first | assumption | exact KB.refl _) (.inr ⟨by rfl, rfl⟩) ?_
         try simp only [Act.put, List.setIfInBounds_toArray, List.set_cons_zero, List.set_cons_succ]
         refine btake 27 (oi := _) (v := undef) (by simp only [getElem?_toArray, getElem?_cons_succ, getElem?_cons_zero]; rfl) (by kernel_rfl) (by exact fun _ _ _ h => h) (by first | assumption | exact KB.refl _) (.inr ⟨by rfl, rfl⟩) ?_
         try simp only [Act.put, List.setIfInBounds_toArray, List.set_cons_zero, List.set_cons_succ]
         refine btake 28 (oi := _) (v := undef) (by simp only [getElem?_toArray, getElem?_cons_succ, getElem?_cons_zero]; rfl) (by kernel_rfl) (by exact fun _ _ _ h => h) (by first | assumption | exact KB.refl _) (.inr ⟨by rfl, rfl⟩) ?_
         try simp only [Act.put, List.setIfInBounds_toArray, List.set_cons_zero, List.set_cons_succ]
         refine btake 29 (oi := _) (v := undef) (by simp only [getElem?_toArray, getElem?_cons_succ, getElem?_cons_zero]; rfl) (by kernel_rfl) (by exact fun _ _ _ h => h) (by first | assumption | exact KB.refl _) (.inr ⟨by rfl, rfl⟩) ?_
         try simp only [Act.put, List.setIfInBounds_toArray, List.set_cons_zero, List.set_cons_succ]
         refine btake 30 (oi := _) (v := undef) (by simp only [getElem?_toArray, getElem?_cons_succ, getElem?_cons_zero]; rfl) (by kernel_rfl) (by exact fun _ _ _ h => h) (by first | assumption | exact KB.refl _) (.inr ⟨by rfl, rfl⟩) ?_
         try simp only [Act.put, List.setIfInBounds_toArray, List.set_cons_zero, List.set_cons_succ]
         refine btake 31 (oi := _) (v := undef) (by simp only [getElem?_toArray, getElem?_cons_succ, getElem?_cons_zero]; rfl) (by kernel_rfl) (by exact fun _ _ _ h => h) (by first | assumption | exact KB.refl _) (.inr ⟨by rfl, rfl⟩) ?_
         try simp only [Act.put, List.setIfInBounds_toArray, List.set_cons_zero, List.set_cons_succ]
         refine btake 32 (oi := _) (v := undef) (by simp only [getElem?_toArray, getElem?_cons_succ, getElem?_cons_zero]; rfl) (by kernel_rfl) (by exact fun _ _ _ h => h) (by first | assumption | exact KB.refl _) (.inr ⟨by rfl, rfl⟩) ?_
         try simp only [Act.put, List.setIfInBounds_toArray, List.set_cons_zero, List.set_cons_succ]
         refine btake 33 (oi := _) (v := undef) (by simp only [getElem?_toArray, getElem?_cons_succ, getElem?_cons_zero]; rfl) (by kernel_rfl) (by exact fun _ _ _ h => h) (by first | assumption | exact KB.refl _) (.inr ⟨by rfl, rfl⟩) ?_
         try simp only [Act.put, List.setIfInBounds_toArray, List.set_cons_zero, List.set_cons_succ]
         refine btake 34 (oi := _) (v := ?_) (by simp only [getElem?_toArray, getElem?_cons_succ, getElem?_cons_zero]; rfl) (by kernel_rfl) (by exact fun _ _ _ h => h) (by first | assumption | exact KB.refl _) (.inl ⟨by rfl, fun W hW => ?_⟩) ?_; rotate_left
         ·(go_simp; first | done | with_reducible rfl)
         try simp only [Act.put, List.setIfInBounds_toArray, List.set_cons_zero, List.set_cons_succ]
         refine btake 35 (oi := _) (v := ?_) (by simp only [getElem?_toArray, getElem?_cons_succ, getElem?_cons_zero]; rfl) (by kernel_rfl) (by exact fun _ _ _ h => h) (by first | assumption | exact KB.refl _) (.inl ⟨by rfl, fun W hW => ?_⟩) ?_; rotate_left
         ·(go_simp; first | done | with_reducible rfl)
         try simp only [Act.put, List.setIfInBounds_toArray, List.set_cons_zero, List.set_cons_succ]
         refine bdone (by kernel_rfl) ?_
         have hbz := HZ.out
         go_wp2_with fail
         go_roundw
         case rel => exact ⟨0 + 1, r, by omega, by go_num, by omega, .inr ⟨by omega, by rw [show 0 + 1 - 1 = 0 by omega, HV.out]⟩, HS.out, hbz⟩
         case measure => simp [intOf]; omega
        ·obtain ⟨j, hj⟩ : ∃ j, k - 1 = j := ⟨_, rfl⟩
         rw [hj] at hp1
         have e3 := cellB (hp1 hkp)
         have HJ := Lib.hid hj
         have HV := Lib.hid hzk2
         have d2 : decide (r ≤ z) = false := by rw [decide_eq_false_iff_not]; omega
         have d3 : decide ((0 : Int) < (k : Int)) = true := by rw [decide_eq_true_eq]; omega
         have w1 : IntKind.i64.wrap ((k : Int) - 1) = (j : Int) := by rw [IntKind.wrap_i64]; omega
         have j0 : (0 : Int) ≤ (j : Int) := by omega
         have j1 : (j : Int) < (n : Int) := by omega
         clear hzk2 hprev hp1 hzk hj
         refine bstartH (W1.heap) (by kernel_rfl) ?_
         refine btake 0 (oi := _) (v := ?_) (by simp only [List.getElem?_toArray, List.getElem?_cons_zero]; rfl) (by kernel_rfl) (by exact fun _ _ _ h => h) (by first | assumption | exact KB.refl _) (.inl ⟨by rfl, fun W hW => ?_⟩) ?_; rotate_left
         ·(go_simp; first | done | with_reducible rfl)
         try simp only [Act.put, List.setIfInBounds_toArray, List.set_cons_zero, List.set_cons_succ]
         refine btake 1 (oi := _) (v := ?_) (by simp only [getElem?_toArray, getElem?_cons_succ, getElem?_cons_zero]; rfl) (by kernel_rfl) (by exact fun _ _ _ h => h) (by first | assumption | exact KB.refl _) (.inl ⟨by rfl, fun W hW => ?_⟩) ?_; rotate_left
         ·(go_simp; first | done | with_reducible rfl)
         try simp only [Act.put, List.setIfInBounds_toArray, List.set_cons_zero, List.set_cons_succ]
         refine btake 2 (oi := _) (v := ?_) (by simp only [getElem?_toArray, getElem?_cons_succ, getElem?_cons_zero]; rfl) (by kernel_rfl) (by exact fun _ _ _ h => h) (by first | assumption | exact KB.refl _) (.inl ⟨by rfl, fun W hW => ?_⟩) ?_; rotate_left
         ·(go_simp; first | done | with_reducible rfl)
         try simp only [Act.put, List.setIfInBounds_toArray, List.set_cons_zero, List.set_cons_succ]
         refine btake 3 (oi := _) (v := ?_) (by simp only [getElem?_toArray, getElem?_cons_succ, getElem?_cons_zero]; rfl) (by kernel_rfl) (by exact fun _ _ _ h => h) (by first | assumption | exact KB.refl _) (.inl ⟨by rfl, fun W hW => ?_⟩) ?_; rotate_left
         ·(go_simp; first | done | with_reducible rfl)
         try simp only [Act.put, List.setIfInBounds_toArray, List.set_cons_zero, List.set_cons_succ]
         refine btake 4 (oi := _) (v := ?_) (by simp only [getElem?_toArray, getElem?_cons_succ, getElem?_cons_zero]; rfl) (by kernel_rfl) (by exact fun _ _ _ h => h) (by first | assumption | exact KB.refl _) (.inl ⟨by rfl, fun W hW => ?_⟩) ?_; rotate_left
         ·(go_simp; first | done | with_reducible rfl)
         try simp only [Act.put, List.setIfInBounds_toArray, List.set_cons_zero, List.set_cons_succ]
         refine btake 5 (oi := _) (v := ?_) (by simp only [getElem?_toArray, getElem?_cons_succ, getElem?_cons_zero]; rfl) (by kernel_rfl) (by exact fun _ _ _ h => h) (by first | assumption | exact KB.refl _) (.inl ⟨by rfl, fun W hW => ?_⟩) ?_; rotate_left
         ·(go_simp; first | done | with_reducible rfl)
         try simp only [Act.put, List.setIfInBounds_toArray, List.set_cons_zero, List.set_cons_succ]
         refine btake 6 (oi := _) (v := ?_) (by simp only [getElem?_toArray, getElem?_cons_succ, getElem?_cons_zero]; rfl) (by kernel_rfl) (by exact fun _ _ _ h => h) (by first | assumption | exact KB.refl _) (.inl ⟨by rfl, fun W hW => ?_⟩) ?_; rotate_left
         ·(go_simp; first | done | with_reducible rfl)
         try simp only [Act.put, List.setIfInBounds_toArray, List.set_cons_zero, List.set_cons_succ]
         refine btake 7 (oi := _) (v := ?_) (by simp only [getElem?_toArray, getElem?_cons_succ, getElem?_cons_zero]; rfl) (by kernel_rfl) (by exact fun _ _ _ h => h) (by first | assumption | exact KB.refl _) (.inl ⟨by rfl, fun W hW => ?_⟩) ?_; rotate_left
         ·(go_simp; first | done | with_reducible rfl)
         try simp only [Act.put, List.setIfInBounds_toArray, List.set_cons_zero, List.set_cons_succ]
         refine btake 8 (oi := _) (v := ?_) (by simp only [getElem?_toArray, getElem?_cons_succ, getElem?_cons_zero]; rfl) (by kernel_rfl) (by exact fun _ _ _ h => h) (by first | assumption | exact KB.refl _) (.inl ⟨by rfl, fun W hW => ?_⟩) ?_; rotate_left
         ·(go_simp; first | done | with_reducible rfl)
         try simp only [Act.put, List.setIfInBounds_toArray, List.set_cons_zero, List.set_cons_succ]
         refine btake 9 (oi := _) (v := ?_) (by simp only [getElem?_toArray, getElem?_cons_succ, getElem?_cons_zero]; rfl) (by kernel_rfl) (by exact fun _ _ _ h => h) (by first | assumption | exact KB.refl _) (.inl ⟨by rfl, fun W hW => ?_⟩) ?_; rotate_left
         ·(go_simp; first | done | with_reducible rfl)
         try simp only [Act.put, List.setIfInBounds_toArray, List.set_cons_zero, List.set_cons_succ]
         refine btake 10 (oi := _) (v := ?_) (by simp only [getElem?_toArray, getElem?_cons_succ, getElem?_cons_zero]; rfl) (by kernel_rfl) (by exact fun _ _ _ h => h) (by first | assumption | exact KB.refl _) (.inl ⟨by rfl, fun W hW => ?_⟩) ?_; rotate_left
         ·(go_simp; first | done | with_reducible rfl)
         try simp only [Act.put, List.setIfInBounds_toArray, List.set_cons_zero, List.set_cons_succ]
         refine btake 11 (oi := _) (v := ?_) (by simp only [getElem?_toArray, getElem?_cons_succ, getElem?_cons_zero]; rfl) (by kernel_rfl) (by exact fun _ _ _ h => h) (by first | assumption | exact KB.refl _) (.inl ⟨by rfl, fun W hW => ?_⟩) ?_; rotate_left
         ·(go_simp; first | done | with_reducible rfl)
         try simp only [Act.put, List.setIfInBounds_toArray, List.set_cons_zero, List.set_cons_succ]
         refine btake 12 (oi := _) (v := ?_) (by simp only [getElem?_toArray, getElem?_cons_succ, getElem?_cons_zero]; rfl) (by kernel_rfl) (by exact fun _ _ _ h => h) (by first | assumption | exact KB.refl _) (.inl ⟨by rfl, fun W hW => ?_⟩) ?_; rotate_left
         ·(go_simp; first | done | with_reducible rfl)
         try simp only [Act.put, List.setIfInBounds_toArray, List.set_cons_zero, List.set_cons_succ]
         refine btake 13 (oi := _) (v := ?_) (by simp only [getElem?_toArray, getElem?_cons_succ, getElem?_cons_zero]; rfl) (by kernel_rfl) (by exact fun _ _ _ h => h) (by first | assumption | exact KB.refl _) (.inl ⟨by rfl, fun W hW => ?_⟩) ?_; rotate_left
         ·(go_simp; first | done | with_reducible rfl)
         try simp only [Act.put, List.setIfInBounds_toArray, List.set_cons_zero, List.set_cons_succ]
         refine btake 14 (oi := _) (v := ?_) (by simp only [getElem?_toArray, getElem?_cons_succ, getElem?_cons_zero]; rfl) (by kernel_rfl) (by exact fun _ _ _ h => h) (by first | assumption | exact KB.refl _) (.inl ⟨by rfl, fun W hW => ?_⟩) ?_; rotate_left
         ·(go_simp; first | done | with_reducible rfl)
         try simp only [Act.put, List.setIfInBounds_toArray, List.set_cons_zero, List.set_cons_succ]
         refine btake 15 (oi := _) (v := ?_) (by simp only [getElem?_toArray, getElem?_cons_succ, getElem?_cons_zero]; rfl) (by kernel_rfl) (by exact fun _ _ _ h => h) (by first | assumption | exact KB.refl _) (.inl ⟨by rfl, fun W hW => ?_⟩) ?_; rotate_left
         ·(go_simp; first | done | with_reducible rfl)
         try simp only [Act.put, List.setIfInBounds_toArray, List.set_cons_zero, List.set_cons_succ]
         refine btake 16 (oi := _) (v := ?_) (by simp only [getElem?_toArray, getElem?_cons_succ, getElem?_cons_zero]; rfl) (by kernel_rfl) (by exact fun _ _ _ h => h) (by first | assumption | exact KB.refl _) (.inl ⟨by rfl, fun W hW => ?_⟩) ?_; rotate_left
         ·(go_simp; first | done | with_reducible rfl)
         try simp only [Act.put, List.setIfInBounds_toArray, List.set_cons_zero, List.set_cons_succ]
         refine bopH 17 (o := _) (by simp only [getElem?_toArray, getElem?_cons_succ, getElem?_cons_zero]; rfl) (by kernel_rfl) (by first | assumption | exact KB.refl _) (by rfl) (fun K hK => ?_)
         go_simp
         refine (HQ.out _ (Below.refl _ _).drew).out.mono ?_
         rintro e w2 ⟨rfl, h2⟩
         have hkb : KB W1.heap w2 := KB.of ((Below.refl _ _).drew.trans h2)
         have HZ := Lib.hid (hbx.drew.trans (h2.mono hbx.size))
         clear h2
         refine hK.out _ _ hkb ?_; clear hK K
         try simp only [Act.put, List.setIfInBounds_toArray, List.set_cons_zero, List.set_cons_succ]
         refine btake 18 (oi := _) (v := ?_) (by simp only [getElem?_toArray, getElem?_cons_succ, getElem?_cons_zero]; rfl) (by kernel_rfl) (by exact fun _ _ _ h => h) (by first | assumption | exact KB.refl _) (.inl ⟨by rfl, fun W hW => ?_⟩) ?_; rotate_left
         ·(go_simp; first | done | with_reducible rfl)
         try simp only [Act.put, List.setIfInBounds_toArray, List.set_cons_zero, List.set_cons_succ]
         refine btake 19 (oi := _) (v := ?_) (by simp only [getElem?_toArray, getElem?_cons_succ, getElem?_cons_zero]; rfl) (by kernel_rfl) (by exact fun _ _ _ h => h) (by first | assumption | exact KB.refl _) (.inl ⟨by rfl, fun W hW => ?_⟩) ?_; rotate_left
         ·(go_simp; first | done | with_reducible rfl)
         try simp only [Act.put, List.setIfInBounds_toArray, List.set_cons_zero, List.set_cons_succ]
         refine btake 20 (oi := _) (v := ?_) (by simp only [getElem?_toArray, getElem?_cons_succ, getElem?_cons_zero]; rfl) (by kernel_rfl) (by exact fun _ _ _ h => h) (by first | assumption | exact KB.refl _) (.inl ⟨by rfl, fun W hW => ?_⟩) ?_; rotate_left
         ·(go_simp; first | done | with_reducible rfl)
         try simp only [Act.put, List.setIfInBounds_toArray, List.set_cons_zero, List.set_cons_succ]
         refine btake 21 (oi := _) (v := ?_) (by simp only [getElem?_toArray, getElem?_cons_succ, getElem?_cons_zero]; rfl) (by kernel_rfl) (by exact fun _ _ _ h => h) (by first | assumption | exact KB.refl _) (.inl ⟨by rfl, fun W hW => ?_⟩) ?_; rotate_left
         ·(go_simp; first | done | with_reducible rfl)
         try simp only [Act.put, List.setIfInBounds_toArray, List.set_cons_zero, List.set_cons_succ]
         refine btake 22 (oi := _) (v := ?_) (by simp only [getElem?_toArray, getElem?_cons_succ, getElem?_cons_zero]; rfl) (by kernel_rfl) (by exact fun _ _ _ h => h) (by first | assumption | exact KB.refl _) (.inl ⟨by rfl, fun W hW => ?_⟩) ?_; rotate_left
         ·(go_simp; first | done | with_reducible rfl)
         try simp only [Act.put, List.setIfInBounds_toArray, List.set_cons_zero, List.set_cons_succ]
         refine btake 23 (oi := _) (v := ?_) (by simp only [getElem?_toArray, getElem?_cons_succ, getElem?_cons_zero]; rfl) (by kernel_rfl) (by exact fun _ _ _ h => h) (by first | assumption | exact KB.refl _) (.inl ⟨by rfl, fun W hW => ?_⟩) ?_; rotate_left
         ·(go_simp; first | done | with_reducible rfl)
         try simp only [Act.put, List.setIfInBounds_toArray, List.set_cons_zero, List.set_cons_succ]
         refine btake 24 (oi := _) (v := ?_) (by simp only [getElem?_toArray, getElem?_cons_succ, getElem?_cons_zero]; rfl) (by kernel_rfl) (by exact fun _ _ _ h => h) (by first | assumption | exact KB.refl _) (.inl ⟨by rfl, fun W hW => ?_⟩) ?_; rotate_left
         ·(go_simp; first | done | with_reducible rfl)
         try simp only [Act.put, List.setIfInBounds_toArray, List.set_cons_zero, List.set_cons_succ]
         refine btake 25 (oi := _) (v := ?_) (by simp only [getElem?_toArray, getElem?_cons_succ, getElem?_cons_zero]; rfl) (by kernel_rfl) (by exact fun _ _ _ h => h) (by first | assumption | exact KB.refl _) (.inl ⟨by rfl, fun W hW => ?_⟩) ?_; rotate_left
         ·(go_simp; first | done | with_reducible rfl)
         try simp only [Act.put, List.setIfInBounds_toArray, List.set_cons_zero, List.set_cons_succ]
         refine btake 26 (oi := _) (v := ?_) (by simp only [getElem?_toArray, getElem?_cons_succ, getElem?_cons_zero]; rfl) (by kernel_rfl) (by exact fun _ _ _ h => h) (by first | assumption | exact KB.refl _) (.inl ⟨by rfl, fun W hW => ?_⟩) ?_; rotate_left
         ·(go_simp; first | done | with_reducible rfl)
         try simp only [Act.put, List.setIfInBounds_toArray, List.set_cons_zero, List.set_cons_succ]
         refine btake 27 (oi := _) (v := ?_) (by simp only [getElem?_toArray, getElem?_cons_succ, getElem?_cons_zero]; rfl) (by kernel_rfl) (by exact fun _ _ _ h => h) (by first | assumption | exact KB.refl _) (.inl ⟨by rfl, fun W hW => ?_⟩) ?_; rotate_left
         ·(go_simp; first | done | with_reducible rfl)
         try simp only [Act.put, List.setIfInBounds_toArray, List.set_cons_zero, List.set_cons_succ]
         refine btake 28 (oi := _) (v := ?_) (by simp only [getElem?_toArray, getElem?_cons_succ, getElem?_cons_zero]; rfl) (by kernel_rfl) (by exact fun _ _ _ h => h) (by first | assumption | exact KB.refl _) (.inl ⟨by rfl, fun W hW => ?_⟩) ?_; rotate_left
         ·(go_simp; first | done | with_reducible rfl)
         try simp only [Act.put, List.setIfInBounds_toArray, List.set_cons_zero, List.set_cons_succ]
         refine btake 29 (oi := _) (v := ?_) (by simp only [getElem?_toArray, getElem?_cons_succ, getElem?_cons_zero]; rfl) (by kernel_rfl) (by exact fun _ _ _ h => h) (by first | assumption | exact KB.refl _) (.inl ⟨by rfl, fun W hW => ?_⟩) ?_; rotate_left
         ·(go_simp; first | done | with_reducible rfl)
         try simp only [Act.put, List.setIfInBounds_toArray, List.set_cons_zero, List.set_cons_succ]
         refine btake 30 (oi := _) (v := ?_) (by simp only [getElem?_toArray, getElem?_cons_succ, getElem?_cons_zero]; rfl) (by kernel_rfl) (by exact fun _ _ _ h => h) (by first | assumption | exact KB.refl _) (.inl ⟨by rfl, fun W hW => ?_⟩) ?_; rotate_left
         ·(go_simp; first | done | with_reducible rfl)
         try simp only [Act.put, List.setIfInBounds_toArray, List.set_cons_zero, List.set_cons_succ]
         refine btake 31 (oi := _) (v := ?_) (by simp only [getElem?_toArray, getElem?_cons_succ, getElem?_cons_zero]; rfl) (by kernel_rfl) (by exact fun _ _ _ h => h) (by first | assumption | exact KB.refl _) (.inl ⟨by rfl, fun W hW => ?_⟩) ?_; rotate_left
         ·(go_simp; first | done | with_reducible rfl)
         try simp only [Act.put, List.setIfInBounds_toArray, List.set_cons_zero, List.set_cons_succ]
         refine btake 32 (oi := _) (v := ?_) (by simp only [getElem?_toArray, getElem?_cons_succ, getElem?_cons_zero]; rfl) (by kernel_rfl) (by exact fun _ _ _ h => h) (by first | assumption | exact KB.refl _) (.inl ⟨by rfl, fun W hW => ?_⟩) ?_; rotate_left
         ·(go_simp; first | done | with_reducible rfl)
         try simp only [Act.put, List.setIfInBounds_toArray, List.set_cons_zero, List.set_cons_succ]
         refine btake 33 (oi := _) (v := ?_) (by simp only [getElem?_toArray, getElem?_cons_succ, getElem?_cons_zero]; rfl) (by kernel_rfl) (by exact fun _ _ _ h => h) (by first | assumption | exact KB.refl _) (.inl ⟨by rfl, fun W hW => ?_⟩) ?_; rotate_left
         ·(go_simp; first | done | with_reducible rfl)
         try simp only [Act.put, List.setIfInBounds_toArray, List.set_cons_zero, List.set_cons_succ]
         refine btake 34 (oi := _) (v := ?_) (by simp only [getElem?_toArray, getElem?_cons_succ, getElem?_cons_zero]; rfl) (by kernel_rfl) (by exact fun _ _ _ h => h) (by first | assumption | exact KB.refl _) (.inl ⟨by rfl, fun W hW => ?_⟩) ?_; rotate_left
         ·(go_simp; first | done | with_reducible rfl)
         try simp only [Act.put, List.setIfInBounds_toArray, List.set_cons_zero, List.set_cons_succ]
         refine btake 35 (oi := _) (v := ?_) (by simp only [getElem?_toArray, getElem?_cons_succ, getElem?_cons_zero]; rfl) (by kernel_rfl) (by exact fun _ _ _ h => h) (by first | assumption | exact KB.refl _) (.inl ⟨by rfl, fun W hW => ?_⟩) ?_; rotate_left
         ·(go_simp; first | done | with_reducible rfl)
         try simp only [Act.put, List.setIfInBounds_toArray, List.set_cons_zero, List.set_cons_succ]
         refine bdone (by kernel_rfl) ?_
         have hbz := HZ.out
         go_wp2_with fail
         go_roundw
         case rel => exact ⟨k + 1, r, by omega, by go_num, by omega, .inr ⟨by omega, by rw [show k + 1 - 1 = k by omega, HV.out]⟩, HS.out, hbz⟩
         case measure => simp [intOf]; omega
       ·have HF := Lib.hid (show rightV V = false by rw [hrt, decide_eq_false g4]; simp)
        clear hrt hm hv
        rcases Nat.eq_zero_or_pos k with rfl | hkp
        ·exfalso; rcases hzk with h | h <;> omega
        ·obtain ⟨j, hj⟩ : ∃ j, k - 1 = j := ⟨_, rfl⟩
         rw [hj] at hp1
         have e3 := cellB (hp1 hkp)
         have HJ := Lib.hid hj
         have d2 : decide (r ≤ z) = true := by rw [decide_eq_true_eq]; omega
         have d3 : decide ((0 : Int) < (k : Int)) = true := by rw [decide_eq_true_eq]; omega
         have w1 : IntKind.i64.wrap ((k : Int) - 1) = (j : Int) := by rw [IntKind.wrap_i64]; omega
         have j0 : (0 : Int) ≤ (j : Int) := by omega
         have j1 : (j : Int) < (n : Int) := by omega
         clear hzk2 hprev hp1 hzk hj
         refine bstartH (W1.heap) (by kernel_rfl) ?_
         refine btake 0 (oi := _) (v := ?_) (by simp only [List.getElem?_toArray, List.getElem?_cons_zero]; rfl) (by kernel_rfl) (by exact fun _ _ _ h => h) (by first | assumption | exact KB.refl _) (.inl ⟨by rfl, fun W hW => ?_⟩) ?_; rotate_left
         ·(go_simp; first | done | with_reducible rfl)
         try simp only [Act.put, List.setIfInBounds_toArray, List.set_cons_zero, List.set_cons_succ]
         refine btake 1 (oi := _) (v := ?_) (by simp only [getElem?_toArray, getElem?_cons_succ, getElem?_cons_zero]; rfl) (by kernel_rfl) (by exact fun _ _ _ h => h) (by first | assumption | exact KB.refl _) (.inl ⟨by rfl, fun W hW => ?_⟩) ?_; rotate_left
         ·(go_simp; first | done | with_reducible rfl)
         try simp only [Act.put, List.setIfInBounds_toArray, List.set_cons_zero, List.set_cons_succ]
         refine btake 2 (oi := _) (v := ?_) (by simp only [getElem?_toArray, getElem?_cons_succ, getElem?_cons_zero]; rfl) (by kernel_rfl) (by exact fun _ _ _ h => h) (by first | assumption | exact KB.refl _) (.inl ⟨by rfl, fun W hW => ?_⟩) ?_; rotate_left
         ·(go_simp; first | done | with_reducible rfl)
         try simp only [Act.put, List.setIfInBounds_toArray, List.set_cons_zero, List.set_cons_succ]
         refine btake 3 (oi := _) (v := ?_) (by simp only [getElem?_toArray, getElem?_cons_succ, getElem?_cons_zero]; rfl) (by kernel_rfl) (by exact fun _ _ _ h => h) (by first | assumption | exact KB.refl _) (.inl ⟨by rfl, fun W hW => ?_⟩) ?_; rotate_left
         ·(go_simp; first | done | with_reducible rfl)
         try simp only [Act.put, List.setIfInBounds_toArray, List.set_cons_zero, List.set_cons_succ]
         refine btake 4 (oi := _) (v := ?_) (by simp only [getElem?_toArray, getElem?_cons_succ, getElem?_cons_zero]; rfl) (by kernel_rfl) (by exact fun _ _ _ h => h) (by first | assumption | exact KB.refl _) (.inl ⟨by rfl, fun W hW => ?_⟩) ?_; rotate_left
         ·(go_simp; first | done | with_reducible rfl)
         try simp only [Act.put, List.setIfInBounds_toArray, List.set_cons_zero, List.set_cons_succ]
         refine btake 5 (oi := _) (v := ?_) (by simp only [getElem?_toArray, getElem?_cons_succ, getElem?_cons_zero]; rfl) (by kernel_rfl) (by exact fun _ _ _ h => h) (by first | assumption | exact KB.refl _) (.inl ⟨by rfl, fun W hW => ?_⟩) ?_; rotate_left
         ·(go_simp; first | done | with_reducible rfl)
         try simp only [Act.put, List.setIfInBounds_toArray, List.set_cons_zero, List.set_cons_succ]
         refine btake 6 (oi := _) (v := ?_) (by simp only [getElem?_toArray, getElem?_cons_succ, getElem?_cons_zero]; rfl) (by kernel_rfl) (by exact fun _ _ _ h => h) (by first | assumption | exact KB.refl _) (.inl ⟨by rfl, fun W hW => ?_⟩) ?_; rotate_left
         ·(go_simp; first | done | with_reducible rfl)
         try simp only [Act.put, List.setIfInBounds_toArray, List.set_cons_zero, List.set_cons_succ]
         refine btake 7 (oi := _) (v := ?_) (by simp only [getElem?_toArray, getElem?_cons_succ, getElem?_cons_zero]; rfl) (by kernel_rfl) (by exact fun _ _ _ h => h) (by first | assumption | exact KB.refl _) (.inl ⟨by rfl, fun W hW => ?_⟩) ?_; rotate_left
         ·(go_simp; first | done | with_reducible rfl)
         try simp only [Act.put, List.setIfInBounds_toArray, List.set_cons_zero, List.set_cons_succ]
         refine btake 8 (oi := _) (v := ?_) (by simp only [getElem?_toArray, getElem?_cons_succ, getElem?_cons_zero]; rfl) (by kernel_rfl) (by exact fun _ _ _ h => h) (by first | assumption | exact KB.refl _) (.inl ⟨by rfl, fun W hW => ?_⟩) ?_; rotate_left
         ·(go_simp; first | done | with_reducible rfl)
         try simp only [Act.put, List.setIfInBounds_toArray, List.set_cons_zero, List.set_cons_succ]
         refine btake 9 (oi := _) (v := ?_) (by simp only [getElem?_toArray, getElem?_cons_succ, getElem?_cons_zero]; rfl) (by kernel_rfl) (by exact fun _ _ _ h => h) (by first | assumption | exact KB.refl _) (.inl ⟨by rfl, fun W hW => ?_⟩) ?_; rotate_left
         ·(go_simp; first | done | with_reducible rfl)
         try simp only [Act.put, List.setIfInBounds_toArray, List.set_cons_zero, List.set_cons_succ]
         refine btake 10 (oi := _) (v := ?_) (by simp only [getElem?_toArray, getElem?_cons_succ, getElem?_cons_zero]; rfl) (by kernel_rfl) (by exact fun _ _ _ h => h) (by first | assumption | exact KB.refl _) (.inl ⟨by rfl, fun W hW => ?_⟩) ?_; rotate_left
         ·(go_simp; first | done | with_reducible rfl)
         try simp only [Act.put, List.setIfInBounds_toArray, List.set_cons_zero, List.set_cons_succ]
         refine btake 11 (oi := _) (v := ?_) (by simp only [getElem?_toArray, getElem?_cons_succ, getElem?_cons_zero]; rfl) (by kernel_rfl) (by exact fun _ _ _ h => h) (by first | assumption | exact KB.refl _) (.inl ⟨by rfl, fun W hW => ?_⟩) ?_; rotate_left
         ·(go_simp; first | done | with_reducible rfl)
         try simp only [Act.put, List.setIfInBounds_toArray, List.set_cons_zero, List.set_cons_succ]
         refine btake 12 (oi := _) (v := ?_) (by simp only [getElem?_toArray, getElem?_cons_succ, getElem?_cons_zero]; rfl) (by kernel_rfl) (by exact fun _ _ _ h => h) (by first | assumption | exact KB.refl _) (.inl ⟨by rfl, fun W hW => ?_⟩) ?_; rotate_left
         ·(go_simp; first | done | with_reducible rfl)
         try simp only [Act.put, List.setIfInBounds_toArray, List.set_cons_zero, List.set_cons_succ]
         refine btake 13 (oi := _) (v := ?_) (by simp only [getElem?_toArray, getElem?_cons_succ, getElem?_cons_zero]; rfl) (by kernel_rfl) (by exact fun _ _ _ h => h) (by first | assumption | exact KB.refl _) (.inl ⟨by rfl, fun W hW => ?_⟩) ?_; rotate_left
         ·(go_simp; first | done | with_reducible rfl)
         try simp only [Act.put, List.setIfInBounds_toArray, List.set_cons_zero, List.set_cons_succ]
         refine btake 14 (oi := _) (v := ?_) (by simp only [getElem?_toArray, getElem?_cons_succ, getElem?_cons_zero]; rfl) (by kernel_rfl) (by exact fun _ _ _ h => h) (by first | assumption | exact KB.refl _) (.inl ⟨by rfl, fun W hW => ?_⟩) ?_; rotate_left
         ·(go_simp; first | done | with_reducible rfl)
         try simp only [Act.put, List.setIfInBounds_toArray, List.set_cons_zero, List.set_cons_succ]
         refine btake 15 (oi := _) (v := ?_) (by simp only [getElem?_toArray, getElem?_cons_succ, getElem?_cons_zero]; rfl) (by kernel_rfl) (by exact fun _ _ _ h => h) (by first | assumption | exact KB.refl _) (.inl ⟨by rfl, fun W hW => ?_⟩) ?_; rotate_left
         ·(go_simp; first | done | with_reducible rfl)
         try simp only [Act.put, List.setIfInBounds_toArray, List.set_cons_zero, List.set_cons_succ]
         refine btake 16 (oi := _) (v := ?_) (by simp only [getElem?_toArray, getElem?_cons_succ, getElem?_cons_zero]; rfl) (by kernel_rfl) (by exact fun _ _ _ h => h) (by first | assumption | exact KB.refl _) (.inl ⟨by rfl, fun W hW => ?_⟩) ?_; rotate_left
         ·(go_simp; first | done | with_reducible rfl)
         try simp only [Act.put, List.setIfInBounds_toArray, List.set_cons_zero, List.set_cons_succ]
         refine bopH 17 (o := _) (by simp only [getElem?_toArray, getElem?_cons_succ, getElem?_cons_zero]; rfl) (by kernel_rfl) (by first | assumption | exact KB.refl _) (by rfl) (fun K hK => ?_)
         go_simp
         refine (HQ.out _ (Below.refl _ _).drew).out.mono ?_
         rintro e w2 ⟨rfl, h2⟩
         have hkb : KB W1.heap w2 := KB.of ((Below.refl _ _).drew.trans h2)
         have HZ := Lib.hid (hb2.drew.trans (h2.mono hb2.size))
         clear h2
         refine hK.out _ _ hkb ?_; clear hK K
         try simp only [Act.put, List.setIfInBounds_toArray, List.set_cons_zero, List.set_cons_succ]
         refine btake 18 (oi := _) (v := ?_) (by simp only [getElem?_toArray, getElem?_cons_succ, getElem?_cons_zero]; rfl) (by kernel_rfl) (by exact fun _ _ _ h => h) (by first | assumption | exact KB.refl _) (.inl ⟨by rfl, fun W hW => ?_⟩) ?_; rotate_left
         ·(go_simp; first | done | with_reducible rfl)
         try simp only [Act.put, List.setIfInBounds_toArray, List.set_cons_zero, List.set_cons_succ]
         refine btake 19 (oi := _) (v := ?_) (by simp only [getElem?_toArray, getElem?_cons_succ, getElem?_cons_zero]; rfl) (by kernel_rfl) (by exact fun _ _ _ h => h) (by first | assumption | exact KB.refl _) (.inl ⟨by rfl, fun W hW => ?_⟩) ?_; rotate_left
         ·(go_simp; first | done | with_reducible rfl)
         try simp only [Act.put, List.setIfInBounds_toArray, List.set_cons_zero, List.set_cons_succ]
         refine btake 20 (oi := _) (v := ?_) (by simp only [getElem?_toArray, getElem?_cons_succ, getElem?_cons_zero]; rfl) (by kernel_rfl) (by exact fun _ _ _ h => h) (by first | assumption | exact KB.refl _) (.inl ⟨by rfl, fun W hW => ?_⟩) ?_; rotate_left
         ·(go_simp; first | done | with_reducible rfl)
         try simp only [Act.put, List.setIfInBounds_toArray, List.set_cons_zero, List.set_cons_succ]
         refine btake 21 (oi := _) (v := ?_) (by simp only [getElem?_toArray, getElem?_cons_succ, getElem?_cons_zero]; rfl) (by kernel_rfl) (by exact fun _ _ _ h => h) (by first | assumption | exact KB.refl _) (.inl ⟨by rfl, fun W hW => ?_⟩) ?_; rotate_left
         ·(go_simp; first | done | with_reducible rfl)
         try simp only [Act.put, List.setIfInBounds_toArray, List.set_cons_zero, List.set_cons_succ]
         refine btake 22 (oi := _) (v := ?_) (by simp only [getElem?_toArray, getElem?_cons_succ, getElem?_cons_zero]; rfl) (by kernel_rfl) (by exact fun _ _ _ h => h) (by first | assumption | exact KB.refl _) (.inl ⟨by rfl, fun W hW => ?_⟩) ?_; rotate_left
         ·(go_simp; first | done | with_reducible rfl)
         try simp only [Act.put, List.setIfInBounds_toArray, List.set_cons_zero, List.set_cons_succ]
         refine btake 23 (oi := _) (v := ?_) (by simp only [getElem?_toArray, getElem?_cons_succ, getElem?_cons_zero]; rfl) (by kernel_rfl) (by exact fun _ _ _ h => h) (by first | assumption | exact KB.refl _) (.inl ⟨by rfl, fun W hW => ?_⟩) ?_; rotate_left
         ·(go_simp; first | done | with_reducible rfl)
         try simp only [Act.put, List.setIfInBounds_toArray, List.set_cons_zero, List.set_cons_succ]
         refine btake 24 (oi := _) (v := ?_) (by simp only [getElem?_toArray, getElem?_cons_succ, getElem?_cons_zero]; rfl) (by kernel_rfl) (by exact fun _ _ _ h => h) (by first | assumption | exact KB.refl _) (.inl ⟨by rfl, fun W hW => ?_⟩) ?_; rotate_left
         ·(go_simp; first | done | with_reducible rfl)
         try simp only [Act.put, List.setIfInBounds_toArray, List.set_cons_zero, List.set_cons_succ]
         refine btake 25 (oi := _) (v := ?_) (by simp only [getElem?_toArray, getElem?_cons_succ, getElem?_cons_zero]; rfl) (by kernel_rfl) (by exact fun _ _ _ h => h) (by first | assumption | exact KB.refl _) (.inl ⟨by rfl, fun W hW => ?_⟩) ?_; rotate_left
         ·(go_simp; first | done | with_reducible rfl)
         try simp only [Act.put, List.setIfInBounds_toArray, List.set_cons_zero, List.set_cons_succ]
         refine btake 26 (oi := _) (v := ?_) (by simp only [getElem?_toArray, getElem?_cons_succ, getElem?_cons_zero]; rfl) (by kernel_rfl) (by exact fun _ _ _ h => h) (by first | assumption | exact KB.refl _) (.inl ⟨by rfl, fun W hW => ?_⟩) ?_; rotate_left
         ·(go_simp; first | done | with_reducible rfl)
         try simp only [Act.put, List.setIfInBounds_toArray, List.set_cons_zero, List.set_cons_succ]
         refine btake 27 (oi := _) (v := ?_) (by simp only [getElem?_toArray, getElem?_cons_succ, getElem?_cons_zero]; rfl) (by kernel_rfl) (by exact fun _ _ _ h => h) (by first | assumption | exact KB.refl _) (.inl ⟨by rfl, fun W hW => ?_⟩) ?_; rotate_left
         ·(go_simp; first | done | with_reducible rfl)
         try simp only [Act.put, List.setIfInBounds_toArray, List.set_cons_zero, List.set_cons_succ]
         refine btake 28 (oi := _) (v := ?_) (by simp only [getElem?_toArray, getElem?_cons_succ, getElem?_cons_zero]; rfl) (by kernel_rfl) (by exact fun _ _ _ h => h) (by first | assumption | exact KB.refl _) (.inl ⟨by rfl, fun W hW => ?_⟩) ?_; rotate_left
         ·(go_simp; first | done | with_reducible rfl)
         try simp only [Act.put, List.setIfInBounds_toArray, List.set_cons_zero, List.set_cons_succ]
         refine btake 29 (oi := _) (v := ?_) (by simp only [getElem?_toArray, getElem?_cons_succ, getElem?_cons_zero]; rfl) (by kernel_rfl) (by exact fun _ _ _ h => h) (by first | assumption | exact KB.refl _) (.inl ⟨by rfl, fun W hW => ?_⟩) ?_; rotate_left
         ·(go_simp; first | done | with_reducible rfl)
         try simp only [Act.put, List.setIfInBounds_toArray, List.set_cons_zero, List.set_cons_succ]
         refine btake 30 (oi := _) (v := ?_) (by simp only [getElem?_toArray, getElem?_cons_succ, getElem?_cons_zero]; rfl) (by kernel_rfl) (by exact fun _ _ _ h => h) (by first | assumption | exact KB.refl _) (.inl ⟨by rfl, fun W hW => ?_⟩) ?_; rotate_left
         ·(go_simp; first | done | with_reducible rfl)
         try simp only [Act.put, List.setIfInBounds_toArray, List.set_cons_zero, List.set_cons_succ]
         refine btake 31 (oi := _) (v := ?_) (by simp only [getElem?_toArray, getElem?_cons_succ, getElem?_cons_zero]; rfl) (by kernel_rfl) (by exact fun _ _ _ h => h) (by first | assumption | exact KB.refl _) (.inl ⟨by rfl, fun W hW => ?_⟩) ?_; rotate_left
         ·(go_simp; first | done | with_reducible rfl)
         try simp only [Act.put, List.setIfInBounds_toArray, List.set_cons_zero, List.set_cons_succ]
         refine btake 32 (oi := _) (v := ?_) (by simp only [getElem?_toArray, getElem?_cons_succ, getElem?_cons_zero]; rfl) (by kernel_rfl) (by exact fun _ _ _ h => h) (by first | assumption | exact KB.refl _) (.inl ⟨by rfl, fun W hW => ?_⟩) ?_; rotate_left
         ·(go_simp; first | done | with_reducible rfl)
         try simp only [Act.put, List.setIfInBounds_toArray, List.set_cons_zero, List.set_cons_succ]
         refine btake 33 (oi := _) (v := ?_) (by simp only [getElem?_toArray, getElem?_cons_succ, getElem?_cons_zero]; rfl) (by kernel_rfl) (by exact fun _ _ _ h => h) (by first | assumption | exact KB.refl _) (.inl ⟨by rfl, fun W hW => ?_⟩) ?_; rotate_left
         ·(go_simp; first | done | with_reducible rfl)
         try simp only [Act.put, List.setIfInBounds_toArray, List.set_cons_zero, List.set_cons_succ]
         refine btake 34 (oi := _) (v := ?_) (by simp only [getElem?_toArray, getElem?_cons_succ, getElem?_cons_zero]; rfl) (by kernel_rfl) (by exact fun _ _ _ h => h) (by first | assumption | exact KB.refl _) (.inl ⟨by rfl, fun W hW => ?_⟩) ?_; rotate_left
         ·(go_simp; first | done | with_reducible rfl)
         try simp only [Act.put, List.setIfInBounds_toArray, List.set_cons_zero, List.set_cons_succ]
         refine btake 35 (oi := _) (v := ?_) (by simp only [getElem?_toArray, getElem?_cons_succ, getElem?_cons_zero]; rfl) (by kernel_rfl) (by exact fun _ _ _ h => h) (by first | assumption | exact KB.refl _) (.inl ⟨by rfl, fun W hW => ?_⟩) ?_; rotate_left
         ·(go_simp; first | done | with_reducible rfl)
         try simp only [Act.put, List.setIfInBounds_toArray, List.set_cons_zero, List.set_cons_succ]
         refine bdone (by kernel_rfl) ?_
         have hbz := HZ.out
         go_wp2_with fail
         go_ret
         exact ⟨ret_b HF.out.symm, hbz⟩
    ·have d1 : decide (64 ≤ r) = true := by rw [decide_eq_true_eq]; omega
     have HF := Lib.hid (show rightV V = false by rw [hrt, decide_eq_false g2]; simp)
     clear hrt g1 hm hv
     refine bstartH (W1.heap) (by kernel_rfl) ?_
     refine btake 0 (oi := _) (v := ?_) (by simp only [List.getElem?_toArray, List.getElem?_cons_zero]; rfl) (by kernel_rfl) (by exact fun _ _ _ h => h) (by first | assumption | exact KB.refl _) (.inl ⟨by rfl, fun W hW => ?_⟩) ?_; rotate_left
     ·(go_simp; first | done | with_reducible rfl)
     try simp only [Act.put, List.setIfInBounds_toArray, List.set_cons_zero, List.set_cons_succ]
     refine btake 1 (oi := _) (v := ?_) (by simp only [getElem?_toArray, getElem?_cons_succ, getElem?_cons_zero]; rfl) (by kernel_rfl) (by exact fun _ _ _ h => h) (by first | assumption | exact KB.refl _) (.inl ⟨by rfl, fun W hW => ?_⟩) ?_; rotate_left
     ·(go_simp; first | done | with_reducible rfl)
     try simp only [Act.put, List.setIfInBounds_toArray, List.set_cons_zero, List.set_cons_succ]
     refine btake 2 (oi := _) (v := ?_) (by simp only [getElem?_toArray, getElem?_cons_succ, getElem?_cons_zero]; rfl) (by kernel_rfl) (by exact fun _ _ _ h => h) (by first | assumption | exact KB.refl _) (.inl ⟨by rfl, fun W hW => ?_⟩) ?_; rotate_left
     ·(go_simp; first | done | with_reducible rfl)
     try simp only [Act.put, List.setIfInBounds_toArray, List.set_cons_zero, List.set_cons_succ]
     refine btake 3 (oi := _) (v := ?_) (by simp only [getElem?_toArray, getElem?_cons_succ, getElem?_cons_zero]; rfl) (by kernel_rfl) (by exact fun _ _ _ h => h) (by first | assumption | exact KB.refl _) (.inl ⟨by rfl, fun W hW => ?_⟩) ?_; rotate_left
     ·(go_simp; first | done | with_reducible rfl)
     try simp only [Act.put, List.setIfInBounds_toArray, List.set_cons_zero, List.set_cons_succ]
     refine btake 4 (oi := _) (v := ?_) (by simp only [getElem?_toArray, getElem?_cons_succ, getElem?_cons_zero]; rfl) (by kernel_rfl) (by exact fun _ _ _ h => h) (by first | assumption | exact KB.refl _) (.inl ⟨by rfl, fun W hW => ?_⟩) ?_; rotate_left
     ·(go_simp; first | done | with_reducible rfl)
     try simp only [Act.put, List.setIfInBounds_toArray, List.set_cons_zero, List.set_cons_succ]
     refine btake 5 (oi := _) (v := ?_) (by simp only [getElem?_toArray, getElem?_cons_succ, getElem?_cons_zero]; rfl) (by kernel_rfl) (by exact fun _ _ _ h => h) (by first | assumption | exact KB.refl _) (.inl ⟨by rfl, fun W hW => ?_⟩) ?_; rotate_left
     ·(go_simp; first | done | with_reducible rfl)
     try simp only [Act.put, List.setIfInBounds_toArray, List.set_cons_zero, List.set_cons_succ]
     refine btake 6 (oi := _) (v := ?_) (by simp only [getElem?_toArray, getElem?_cons_succ, getElem?_cons_zero]; rfl) (by kernel_rfl) (by exact fun _ _ _ h => h) (by first | assumption | exact KB.refl _) (.inl ⟨by rfl, fun W hW => ?_⟩) ?_; rotate_left
     ·(go_simp; first | done | with_reducible rfl)
     try simp only [Act.put, List.setIfInBounds_toArray, List.set_cons_zero, List.set_cons_succ]
     refine btake 7 (oi := _) (v := ?_) (by simp only [getElem?_toArray, getElem?_cons_succ, getElem?_cons_zero]; rfl) (by kernel_rfl) (by exact fun _ _ _ h => h) (by first | assumption | exact KB.refl _) (.inl ⟨by rfl, fun W hW => ?_⟩) ?_; rotate_left
     ·(go_simp; first | done | with_reducible rfl)
     try simp only [Act.put, List.setIfInBounds_toArray, List.set_cons_zero, List.set_cons_succ]
     refine btake 8 (oi := _) (v := ?_) (by simp only [getElem?_toArray, getElem?_cons_succ, getElem?_cons_zero]; rfl) (by kernel_rfl) (by exact fun _ _ _ h => h) (by first | assumption | exact KB.refl _) (.inl ⟨by rfl, fun W hW => ?_⟩) ?_; rotate_left
     ·(go_simp; first | done | with_reducible rfl)
     try simp only [Act.put, List.setIfInBounds_toArray, List.set_cons_zero, List.set_cons_succ]
     refine btake 9 (oi := _) (v := undef) (by simp only [getElem?_toArray, getElem?_cons_succ, getElem?_cons_zero]; rfl) (by kernel_rfl) (by exact fun _ _ _ h => h) (by first | assumption | exact KB.refl _) (.inr ⟨by rfl, rfl⟩) ?_
     try simp only [Act.put, List.setIfInBounds_toArray, List.set_cons_zero, List.set_cons_succ]
     refine btake 10 (oi := _) (v := undef) (by simp only [getElem?_toArray, getElem?_cons_succ, getElem?_cons_zero]; rfl) (by kernel_rfl) (by exact fun _ _ _ h => h) (by first | assumption | exact KB.refl _) (.inr ⟨by rfl, rfl⟩) ?_
     try simp only [Act.put, List.setIfInBounds_toArray, List.set_cons_zero, List.set_cons_succ]
     refine btake 11 (oi := _) (v := undef) (by simp only [getElem?_toArray, getElem?_cons_succ, getElem?_cons_zero]; rfl) (by kernel_rfl) (by exact fun _ _ _ h => h) (by first | assumption | exact KB.refl _) (.inr ⟨by rfl, rfl⟩) ?_
     try simp only [Act.put, List.setIfInBounds_toArray, List.set_cons_zero, List.set_cons_succ]
     refine btake 12 (oi := _) (v := undef) (by simp only [getElem?_toArray, getElem?_cons_succ, getElem?_cons_zero]; rfl) (by kernel_rfl) (by exact fun _ _ _ h => h) (by first | assumption | exact KB.refl _) (.inr ⟨by rfl, rfl⟩) ?_
     try simp only [Act.put, List.setIfInBounds_toArray, List.set_cons_zero, List.set_cons_succ]
     refine btake 13 (oi := _) (v := ?_) (by simp only [getElem?_toArray, getElem?_cons_succ, getElem?_cons_zero]; rfl) (by kernel_rfl) (by exact fun _ _ _ h => h) (by first | assumption | exact KB.refl _) (.inl ⟨by rfl, fun W hW => ?_⟩) ?_; rotate_left
     ·(go_simp; first | done | with_reducible rfl)
     try simp only [Act.put, List.setIfInBounds_toArray, List.set_cons_zero, List.set_cons_succ]
     refine btake 14 (oi := _) (v := ?_) (by simp only [getElem?_toArray, getElem?_cons_succ, getElem?_cons_zero]; rfl) (by kernel_rfl) (by exact fun _ _ _ h => h) (by first | assumption | exact KB.refl _) (.inl ⟨by rfl, fun W hW => ?_⟩) ?_; rotate_left
     ·(go_simp; first | done | with_reducible rfl)
     try simp only [Act.put, List.setIfInBounds_toArray, List.set_cons_zero, List.set_cons_succ]
     refine btake 15 (oi := _) (v := undef) (by simp only [getElem?_toArray, getElem?_cons_succ, getElem?_cons_zero]; rfl) (by kernel_rfl) (by exact fun _ _ _ h => h) (by first | assumption | exact KB.refl _) (.inr ⟨by rfl, rfl⟩) ?_
     try simp only [Act.put, List.setIfInBounds_toArray, List.set_cons_zero, List.set_cons_succ]
     refine btake 16 (oi := _) (v := undef) (by simp only [getElem?_toArray, getElem?_cons_succ, getElem?_cons_zero]; rfl) (by kernel_rfl) (by exact fun _ _ _ h => h) (by first | assumption | exact KB.refl _) (.inr ⟨by rfl, rfl⟩) ?_
     try simp only [Act.put, List.setIfInBounds_toArray, List.set_cons_zero, List.set_cons_succ]
     refine btake 17 (oi := _) (v := undef) (by simp only [getElem?_toArray, getElem?_cons_succ, getElem?_cons_zero]; rfl) (by kernel_rfl) (by exact fun _ _ _ h => h) (by first | assumption | exact KB.refl _) (.inr ⟨by rfl, rfl⟩) ?_
     try simp only [Act.put, List.setIfInBounds_toArray, List.set_cons_zero, List.set_cons_succ]
     refine btake 18 (oi := _) (v := undef) (by simp only [getElem?_toArray, getElem?_cons_succ, getElem?_cons_zero]; rfl) (by kernel_rfl) (by exact fun _ _ _ h => h) (by first | assumption | exact KB.refl _) (.inr ⟨by rfl, rfl⟩) ?_
     try simp only [Act.put, List.setIfInBounds_toArray, List.set_cons_zero, List.set_cons_succ]
     refine btake 19 (oi := _) (v := ?_) (by simp only [getElem?_toArray, getElem?_cons_succ, getElem?_cons_zero]; rfl) (by kernel_rfl) (by exact fun _ _ _ h => h) (by first | assumption | exact KB.refl _) (.inl ⟨by rfl, fun W hW => ?_⟩) ?_; rotate_left
     ·(go_simp; first | done | with_reducible rfl)
     try simp only [Act.put, List.setIfInBounds_toArray, List.set_cons_zero, List.set_cons_succ]
     refine btake 20 (oi := _) (v := ?_) (by simp only [getElem?_toArray, getElem?_cons_succ, getElem?_cons_zero]; rfl) (by kernel_rfl) (by exact fun _ _ _ h => h) (by first | assumption | exact KB.refl _) (.inl ⟨by rfl, fun W hW => ?_⟩) ?_; rotate_left
     ·(go_simp; first | done | with_reducible rfl)
     try simp only [Act.put, List.setIfInBounds_toArray, List.set_cons_zero, List.set_cons_succ]
     refine btake 21 (oi := _) (v := undef) (by simp only [getElem?_toArray, getElem?_cons_succ, getElem?_cons_zero]; rfl) (by kernel_rfl) (by exact fun _ _ _ h => h) (by first | assumption | exact KB.refl _) (.inr ⟨by rfl, rfl⟩) ?_
     try simp only [Act.put, List.setIfInBounds_toArray, List.set_cons_zero, List.set_cons_succ]
     refine btake 22 (oi := _) (v := undef) (by simp only [getElem?_toArray, getElem?_cons_succ, getElem?_cons_zero]; rfl) (by kernel_rfl) (by exact fun _ _ _ h => h) (by first | assumption | exact KB.refl _) (.inr ⟨by rfl, rfl⟩) ?_
     try simp only [Act.put, List.setIfInBounds_toArray, List.set_cons_zero, List.set_cons_succ]
     refine btake 23 (oi := _) (v := undef) (by simp only [getElem?_toArray, getElem?_cons_succ, getElem?_cons_zero]; rfl) (by kernel_rfl) (by exact fun _ _ _ h => h) (by first | assumption | exact KB.refl _) (.inr ⟨by rfl, rfl⟩) ?_
     try simp only [Act.put, List.setIfInBounds_toArray, List.set_cons_zero, List.set_cons_succ]
     refine btake 24 (oi := _) (v := undef) (by simp only [getElem?_toArray, getElem?_cons_succ, getElem?_cons_zero]; rfl) (by kernel_rfl) (by exact fun _ _ _ h => h) (by first | assumption | exact KB.refl _) (.inr ⟨by rfl, rfl⟩) ?_
     try simp only [Act.put, List.setIfInBounds_toArray, List.set_cons_zero, List.set_cons_succ]
     refine btake 25 (oi := _) (v := undef) (by simp only [getElem?_toArray, getElem?_cons_succ, getElem?_cons_zero]; rfl) (by kernel_rfl) (by exact fun _ _ _ h => h) (by first | assumption | exact KB.refl _) (.inr ⟨by rfl, rfl⟩) ?_
     try simp only [Act.put, List.setIfInBounds_toArray, List.set_cons_zero, List.set_cons_succ]
     refine btake 26 (oi := _) (v := undef) (by simp only [getElem?_toArray, getElem?_cons_succ, getElem?_cons_zero]; rfl) (by kernel_rfl) (by exact fun _ _ _ h => h) (by first | assumption | exact KB.refl _) (.inr ⟨by rfl, rfl⟩) ?_
     try simp only [Act.put, List.setIfInBounds_toArray, List.set_cons_zero, List.set_cons_succ]
     refine btake 27 (oi := _) (v := undef) (by simp only [getElem?_toArray, getElem?_cons_succ, getElem?_cons_zero]; rfl) (by kernel_rfl) (by exact fun _ _ _ h => h) (by first | assumption | exact KB.refl _) (.inr ⟨by rfl, rfl⟩) ?_
     try simp only [Act.put, List.setIfInBounds_toArray, List.set_cons_zero, List.set_cons_succ]
     refine btake 28 (oi := _) (v := undef) (by simp only [getElem?_toArray, getElem?_cons_succ, getElem?_cons_zero]; rfl) (by kernel_rfl) (by exact fun _ _ _ h => h) (by first | assumption | exact KB.refl _) (.inr ⟨by rfl, rfl⟩) ?_
     try simp only [Act.put, List.setIfInBounds_toArray, List.set_cons_zero, List.set_cons_succ]
     refine btake 29 (oi := _) (v := undef) (by simp only [getElem?_toArray, getElem?_cons_succ, getElem?_cons_zero]; rfl) (by kernel_rfl) (by exact fun _ _ _ h => h) (by first | assumption | exact KB.refl _) (.inr ⟨by rfl, rfl⟩) ?_
     try simp only [Act.put, List.setIfInBounds_toArray, List.set_cons_zero, List.set_cons_succ]
     refine btake 30 (oi := _) (v := undef) (by simp only [getElem?_toArray, getElem?_cons_succ, getElem?_cons_zero]; rfl) (by kernel_rfl) (by exact fun _ _ _ h => h) (by first | assumption | exact KB.refl _) (.inr ⟨by rfl, rfl⟩) ?_
     try simp only [Act.put, List.setIfInBounds_toArray, List.set_cons_zero, List.set_cons_succ]
     refine btake 31 (oi := _) (v := undef) (by simp only [getElem?_toArray, getElem?_cons_succ, getElem?_cons_zero]; rfl) (by kernel_rfl) (by exact fun _ _ _ h => h) (by first | assumption | exact KB.refl _) (.inr ⟨by rfl, rfl⟩) ?_
     try simp only [Act.put, List.setIfInBounds_toArray, List.set_cons_zero, List.set_cons_succ]
     refine btake 32 (oi := _) (v := undef) (by simp only [getElem?_toArray, getElem?_cons_succ, getElem?_cons_zero]; rfl) (by kernel_rfl) (by exact fun _ _ _ h => h) (by first | assumption | exact KB.refl _) (.inr ⟨by rfl, rfl⟩) ?_
     try simp only [Act.put, List.setIfInBounds_toArray, List.set_cons_zero, List.set_cons_succ]
     refine btake 33 (oi := _) (v := undef) (by simp only [getElem?_toArray, getElem?_cons_succ, getElem?_cons_zero]; rfl) (by kernel_rfl) (by exact fun _ _ _ h => h) (by first | assumption | exact KB.refl _) (.inr ⟨by rfl, rfl⟩) ?_
     try simp only [Act.put, List.setIfInBounds_toArray, List.set_cons_zero, List.set_cons_succ]
     refine btake 34 (oi := _) (v := undef) (by simp only [getElem?_toArray, getElem?_cons_succ, getElem?_cons_zero]; rfl) (by kernel_rfl) (by exact fun _ _ _ h => h) (by first | assumption | exact KB.refl _) (.inr ⟨by rfl, rfl⟩) ?_
     try simp only [Act.put, List.setIfInBounds_toArray, List.set_cons_zero, List.set_cons_succ]
     refine btake 35 (oi := _) (v := ?_) (by simp only [getElem?_toArray, getElem?_cons_succ, getElem?_cons_zero]; rfl) (by kernel_rfl) (by exact fun _ _ _ h => h) (by first | assumption | exact KB.refl _) (.inl ⟨by rfl, fun W hW => ?_⟩) ?_; rotate_left
     ·(go_simp; first | done | with_reducible rfl)
     try simp only [Act.put, List.setIfInBounds_toArray, List.set_cons_zero, List.set_cons_succ]
     refine bdone (by kernel_rfl) ?_
     have hbz := hb2.drew
     go_wp2_with fail
     go_ret
     exact ⟨ret_b HF.out.symm, hbz⟩
  ·obtain rfl : k = n := by omega
   have hd1 : decide ((k : Int) < (k : Int)) = false := by rw [decide_eq_false_iff_not]; omega
   have HF := Lib.hid (show rightV V = true by rw [hrt, ← hv.len, List.drop_length]; rfl)
   clear hrt hv
   go_wp2_with fail
   go_ret
   exact ⟨ret_b HF.out.symm, hbel⟩
end Go.Proofs.Ytaflikgdlkaefaa
/- Vectors: the document's Part, VecBase, VecHas, VecExtra. -/
namespace Go.Proofs.Ytaflikgdlkaefaa
open Go.RowKit Go.Maps Go.Proofs.Ytaflikgdlkaefaa.Pl Go.Proofs.Ytaflikgdlkaefaa.Sp Go.Proofs.Ytaflikgdlkaefaa.Ve
set_option maxRecDepth 20000

theorem look_drop {V : VL} {k : Nat} {p : Int × List Rg} (h : V[k]? = some p) (r : Int) : look (V.drop k) r = if p.1 = r then some p.2 else look (V.drop (k + 1)) r := by
 obtain ⟨hk, he⟩ := List.getElem?_eq_some_iff.1 h
 rw [List.drop_eq_getElem_cons hk, he]
 exact look_cons p _ r
set_option maxRecDepth 100000 in
set_option maxHeartbeats 3200000 in
theorem Part_any (w : World) (A : Option Addr) (n c : Nat) (R : List RA) (V : VL) (hv : VS w A n c R V) (hl : n ≤ 1000000) (r : Int) :
  Calls Try.prog 63 #[.agg #[.slice A n c], .int .i64 r] w (RAns w (partV V r)) := by
 go_enter Try.func63, Try.ntmps63
 have hb0 : Below w.heap.size w (w.alloc (.cells #[.slice A n c] 27)) := balloc (Below.refl _ _) _
 have x0 : (w.alloc (.cells #[.slice A n c] 27)).cell? ⟨w.heap.size, 0, none⟩ = some (.slice A n c) := by simp
 have xs : w.heap.size < (w.alloc (.cells #[.slice A n c] 27)).heap.size := by simp
 go_wp2_with fail
 generalize w.alloc (.cells #[.slice A n c] 27) = W at *
 go_loopw [5] (fun x5 wr => ∃ (k : Nat), k ≤ n ∧ x5 = .int .i64 (k : Int) ∧ look V r = look (V.drop k) r ∧ wr = W) (fun x5 _ => n - (intOf x5).toNat)
 case atStart => exact ⟨0, by omega, rfl, by simp, rfl⟩
 case round =>
  obtain ⟨k, hk, rfl, hlk, rfl⟩ := hrel
  by_cases hlt : k < n
  ·obtain ⟨q, b, o, _, hV, hq, rfl, hbW, c0, c1⟩ := hv.at_ hlt
   rw [look_drop hV] at hlk
   replace c0 := (hb0.cell hbW).trans c0
   replace c1 := (hb0.cell hbW).trans c1
   have hd1 : decide ((k : Int) < (n : Int)) = true := by rw [decide_eq_true_eq]; omega
   have hn0 : (0 : Int) ≤ (k : Int) := by omega
   have hn1 : (k : Int) < (n : Int) := by omega
   have hq2 := Lib.hid (hq.below hb0)
   obtain ⟨r', A', c', l⟩ := q
   dsimp only at *
   by_cases g : r' = r
   ·have hd2 : ((r' : Int) == r) = true := by simpa using g
    have HF := Lib.hid (show partV V r = l by rw [partV, hlk, if_pos g]; rfl)
    clear hlk g hv hq hV
    go_wp2_with fail
    go_ret
    rw [HF.out]
    exact ⟨A', c', rfl, hq2.out.1, hq2.out.2.1, hq2.out.2.2, hb0⟩
   ·have hd2 : ((r' : Int) == r) = false := by simpa using g
    rw [if_neg g] at hlk
    have HK := Lib.hid hlk
    clear hlk g hv hq hV
    go_wp2_with fail
    go_roundw
    case rel => exact ⟨k + 1, by omega, by go_num, HK.out, by first | rfl | trivial⟩
    case measure => simp [intOf]; omega
  ·obtain rfl : k = n := by omega
   have hd1 : decide ((k : Int) < (k : Int)) = false := by rw [decide_eq_false_iff_not]; omega
   have HF := Lib.hid (show partV V r = [] by rw [partV, hlk, ← hv.len, List.drop_length]; rfl)
   clear hlk hv
   go_wp2_with fail
   go_ret
   rw [HF.out]
   exact RAns.nil hb0
end Go.Proofs.Ytaflikgdlkaefaa
/- Vectors: the document's VecBase, VecExtra. -/
namespace Go.Proofs.Ytaflikgdlkaefaa
open Go.RowKit Go.Maps Go.Proofs.Ytaflikgdlkaefaa.Pl Go.Proofs.Ytaflikgdlkaefaa.Sp Go.Proofs.Ytaflikgdlkaefaa.Ve
set_option maxRecDepth 20000

set_option maxRecDepth 100000 in
set_option maxHeartbeats 3200000 in
theorem RVBase_any (w : World) (A : Option Addr) (n c : Nat) (R : List RA) (V : VL) (hv : VS w A n c R V) (hl : n ≤ 1000000) (hm : Lim 1000000 V) (r : Int) :
  Calls Try.prog 44 #[.agg #[.slice A n c], .int .i64 r] w fun e w' => e = .returned (.int .i64 (baseV V r)) ∧ Below w.heap.size w w' := by
 have hb0 : Below w.heap.size w (w.alloc (.cells #[.slice A n c] 27)) := balloc (Below.refl _ _) _
 have x0 : (w.alloc (.cells #[.slice A n c] 27)).cell? ⟨w.heap.size, 0, none⟩ = some (.slice A n c) := by simp
 have xs : w.heap.size < (w.alloc (.cells #[.slice A n c] 27)).heap.size := by simp
 have HR := Lib.hid (RVRight_any _ A n c R V (hv.below hb0) hl hm)
 obtain ⟨p, hp⟩ : ∃ p, rightV V = p := ⟨_, rfl⟩
 rw [hp] at HR
 cases p with
 | false =>
  have HF := Lib.hid (show baseV V r = 0 by rw [baseV, if_neg (by rw [hp]; simp)])
  clear hp hv hm
  go_enter Try.func44, Try.ntmps44
  go_wp2_with fail
  refine HR.out.mono ?_
  rintro e w1 ⟨rfl, h1⟩
  have hbz := hb0.trans (h1.mono hb0.size)
  go_wp2_with fail
  go_ret
  exact ⟨ret_i HF.out.symm, hbz⟩
 | true =>
  have HF := Lib.hid (show baseV V r = firstS (partV V r) by rw [baseV, if_pos hp])
  have HT := Lib.hid (fun W (hW : Below w.heap.size w W) => Part_any W A n c R V (hv.below hW) hl r)
  have HL := Lib.hid (hm.part r)
  clear hp hv hm
  go_enter Try.func44, Try.ntmps44
  go_wp2_with fail
  refine HR.out.mono ?_
  rintro e w1 ⟨rfl, h1⟩
  have hbz := hb0.trans (h1.mono hb0.size)
  have y0 := (h1.cell xs).trans x0
  clear x0 h1
  go_wp2_with fail
  refine (HT.out _ hbz).mono ?_
  rintro e w2 ⟨A', c', rfl, hs2, hn2, hc2, h2⟩
  have hbv := hbz.trans (h2.mono hbz.size)
  go_wp2_with fail
  refine (RRFirst_any w2 A' _ c' (partV V r) hs2 rfl (by have := HL.out; omega)).mono ?_
  rintro e w3 ⟨rfl, h3⟩
  have hbu := hbv.trans (h3.mono hbv.size)
  go_wp2_with fail
  go_ret
  exact ⟨ret_i HF.out.symm, hbu⟩
set_option maxRecDepth 100000 in
set_option maxHeartbeats 3200000 in
theorem RVExtra_own (w : World) (A : Option Addr) (n c : Nat) (R : List RA) (V : VL) (hv : VS w A n c R V) (hl : n ≤ 1000000) (hm : Lim 1000000 V) (r : Int) :
  Calls Try.prog 45 #[.agg #[.slice A n c], .int .i64 r] w fun e w' => ∃ v, e = .returned v ∧ OwnR w' w.heap.size v (extraV V r) ∧ Below w.heap.size w w' := by
 have hb0 : Below w.heap.size w (w.alloc (.cells #[.slice A n c] 27)) := balloc (Below.refl _ _) _
 have x0 : (w.alloc (.cells #[.slice A n c] 27)).cell? ⟨w.heap.size, 0, none⟩ = some (.slice A n c) := by simp
 have xs : w.heap.size < (w.alloc (.cells #[.slice A n c] 27)).heap.size := by simp
 have HR := Lib.hid (RVRight_any _ A n c R V (hv.below hb0) hl hm)
 obtain ⟨p, hp⟩ : ∃ p, rightV V = p := ⟨_, rfl⟩
 rw [hp] at HR
 cases p with
 | false =>
  have HF := Lib.hid (show extraV V r = [] by rw [extraV, if_neg (by rw [hp]; simp)])
  clear hp hv hm
  go_enter Try.func45, Try.ntmps45
  go_wp2_with fail
  refine HR.out.mono ?_
  rintro e w1 ⟨rfl, h1⟩
  have hbz := hb0.trans (h1.mono hb0.size)
  go_wp2_with fail
  go_ret
  rw [HF.out]
  exact ⟨_, rfl, OwnR.nil _ _, hbz⟩
 | true =>
  have HF := Lib.hid (show extraV V r = extraS (partV V r) by rw [extraV, if_pos hp])
  have HT := Lib.hid (fun W (hW : Below w.heap.size w W) => Part_any W A n c R V (hv.below hW) hl r)
  have HL := Lib.hid (hm.part r)
  clear hp hv hm
  go_enter Try.func45, Try.ntmps45
  go_wp2_with fail
  refine HR.out.mono ?_
  rintro e w1 ⟨rfl, h1⟩
  have hbz := hb0.trans (h1.mono hb0.size)
  have y0 := (h1.cell xs).trans x0
  clear x0 h1
  go_wp2_with fail
  refine (HT.out _ hbz).mono ?_
  rintro e w2 ⟨A', c', rfl, hs2, hn2, hc2, h2⟩
  have hbv := hbz.trans (h2.mono hbz.size)
  obtain ⟨l, hlE⟩ : ∃ l, partV V r = l := ⟨_, rfl⟩
  rw [hlE] at HF HL hs2 hn2 ⊢
  clear hlE y0 h2
  go_wp2_with fail
  refine (RRFirst_any w2 A' _ c' l hs2 rfl (by have := HL.out; omega)).mono ?_
  rintro e w3 ⟨rfl, h3⟩
  have hbu := hbv.trans (h3.mono hbv.size)
  have hs3 := (hs2.below h3).more h3.size
  have HL3 := HL.out
  clear h3 hs2
  by_cases hf : 0 < firstS l
  ·have hd1 : decide (0 < firstS l) = true := decide_eq_true hf
   have hpos : 1 ≤ l.length := by
    rcases Nat.eq_zero_or_pos l.length with h | h
    ·rw [List.eq_nil_of_length_eq_zero h] at hf
     exact absurd hf (by decide)
    ·exact h
   obtain ⟨A2, hsl, hS2⟩ := sl_postR A' l.length c' 1 hpos hn2
   have HSL := Lib.hid hsl
   have hs4 := hS2 w3 _ l rfl hs3
   have HG := Lib.hid (show extraV V r = l.drop 1 by rw [HF.out, extraS, if_pos hf])
   have hx4 : l.length - 1 = (l.drop 1).length := by rw [List.length_drop]
   have HX4 := Lib.hid hx4
   clear hf hsl hS2 hx4
   go_wp2_with (first | (refine mval rfl (exec_postR rfl rfl rfl HSL.out _) ?_) | (at_builtin; refine appR rfl rfl (OwnR.nil w3 w3.heap.size) hs4 HX4.out rfl rfl (by have := HX4.out; simp; omega) (Nat.le_refl _) ?_; intro v5 w5 hown5 hg5 hat5))
   go_ret
   rw [List.nil_append] at hown5
   have hb5 := below_of_grown hg5 (by simp [Value.ownBlock]) (Nat.le_refl _)
   rw [HG.out]
   exact ⟨_, rfl, hown5.lower hbu.size, hbu.trans (hb5.mono hbu.size)⟩
  ·have hd1 : decide (0 < firstS l) = false := decide_eq_false hf
   have HG := Lib.hid (show extraV V r = l by rw [HF.out, extraS, if_neg hf])
   clear hf
   go_wp2_with (at_builtin; refine appR rfl rfl (OwnR.nil w3 w3.heap.size) hs3 rfl rfl rfl (by simp; omega) (Nat.le_refl _) ?_; intro v5 w5 hown5 hg5 hat5)
   go_ret
   rw [List.nil_append] at hown5
   have hb5 := below_of_grown hg5 (by simp [Value.ownBlock]) (Nat.le_refl _)
   rw [HG.out]
   exact ⟨_, rfl, hown5.lower hbu.size, hbu.trans (hb5.mono hbu.size)⟩
theorem RVExtra_any (w : World) (A : Option Addr) (n c : Nat) (R : List RA) (V : VL) (hv : VS w A n c R V) (hl : n ≤ 1000000) (hm : Lim 1000000 V) (r : Int) :
  Calls Try.prog 45 #[.agg #[.slice A n c], .int .i64 r] w (RAns w (extraV V r)) := by
 refine (RVExtra_own w A n c R V hv hl hm r).mono ?_
 rintro e w' ⟨v, rfl, h1, h2⟩
 exact RAns.of h1 h2
end Go.Proofs.Ytaflikgdlkaefaa
/- Numbers as bytes: the document's Put. -/
namespace Go.Proofs.Ytaflikgdlkaefaa
open Go.RowKit Go.Proofs.Ytaflikgdlkaefaa.Pl
set_option maxRecDepth 20000

theorem and127_64 (u : Nat) (hu : U64 u) : bits .and .u64 (u : Int) 127 = (u : Int) % 128 := by
 have h := u64_and_nat u 127 hu.out (by omega)
 rw [nat_mask7] at h
 exact h.trans (by omega)
theorem byte_up_bv (u : Nat) : [Value.int .u8 ((u : Int) % 128 + 128)] = bv [UInt8.ofNat (u % 128 + 128)] := by
 simp only [bv, List.map, u8v, toNat_ofNat (show u % 128 + 128 < 256 by omega)]
 congr 2

def RefIn (w : World) (l : List UInt8) (x : Nat) (x5 x7 : Value) (wr : World) : Prop :=
 ∃ (k u : Nat) (pre : List UInt8), x7 = .int .u64 (u : Int) ∧ OwnB wr w.heap.size x5 (l ++ pre) ∧ pre ++ encF k u = enc x ∧ u < 128 ^ (k + 1) ∧ U64 u ∧ Below w.heap.size w wr
theorem app_below {w wr w1 : World} {x : Value} {l : List UInt8} (hb : Below w.heap.size w wr) (hown : OwnB wr w.heap.size x l) (hg : wr.grownBy w1 x.ownBlock) : Below w.heap.size w w1 := own_below hb hb.size hown hg

set_option maxRecDepth 100000 in
set_option maxHeartbeats 800000 in
theorem RefPut_any (w : World) (A A' : Option Addr) (c c' : Nat) (bs : List UInt8) (ls : List Nat) (hb : Sl w w.heap.size A (bv bs)) (hl : Sl w w.heap.size A' (uv ls)) (hu : ∀ x ∈ ls, U64 x)
  (hbound : bs.length + 10 * ls.length ≤ 140737488355328) :
  Calls Try.prog 43 #[.slice A bs.length c, .slice A' ls.length c'] w (Fresh w (bs ++ encs ls)) := by
 go_enter Try.func43, Try.ntmps43
 go_wp2_with (at_builtin; refine app rfl rfl (OwnB.nil w w.heap.size) hb rfl rfl rfl (by simp; omega) (Nat.le_refl _) ?_; intro s2 w2 hown2 hg2 hat2)
 have hb2 : Below w.heap.size w w2 := below_of_grown hg2 (by simp [Value.ownBlock]) (Nat.le_refl _)
 rw [List.nil_append] at hown2
 clear hat2 hg2
 go_loopw [5, 6] (fun x5 x6 wr => PutRel w bs ls x5 x6 wr) (fun _ x6 _ => ls.length - (intOf x6).toNat)
 case atStart => exact ⟨0, Nat.zero_le _, rfl, by simpa [encs] using hown2, hb2⟩
 case round =>
  obtain ⟨k, hk, rfl, hown, hbel⟩ := hrel
  have hs := hbel.size
  have hlen := encs_take_len ls k
  by_cases hlt : k < ls.length
  ·obtain ⟨b, o, rfl, hbB, hbW, hcell⟩ := (hl.below hbel).at_ (k := k) (by simpa using hlt)
   have hck := hcell k _ (uv_get ls k hlt)
   have hxu : U64 (ls[k]?.getD 0) := hu _ (by rw [List.getElem?_eq_getElem hlt]; exact List.getElem_mem hlt)
   have hsucc := encs_take_succ ls k hlt
   generalize ls[k]?.getD 0 = x at hck hxu hsucc
   have hll : (bs ++ encs (ls.take k)).length + 10 ≤ 140737488355328 := by rw [List.length_append]; omega
   have Hsucc := Lib.hid hsucc
   generalize hL : bs ++ encs (ls.take k) = l at hown hll
   have HL := Lib.hid hL.symm
   clear hL
   obtain ⟨wo, rfl⟩ : ∃ wo : World, wo = wr := ⟨_, rfl⟩
   clear hcell hl hb hsucc hlen hb2 hown2
   go_wp2_with fail
   go_loopw [5, 7] (fun x5 x7 wr => RefIn w l x x5 x7 wr) (fun _ x7 _ => (intOf x7).toNat)
   case atStart => exact ⟨9, x, [], rfl, by simpa using hown, rfl, lt_pow_of_lt hxu.out, hxu, hbel⟩
   case round =>
    obtain ⟨kk, u, pre, rfl, hown', hpre, hu', hu64, hbel'⟩ := hrel
    have Hpre := Lib.hid hpre
    have Hu := Lib.hid hu'
    clear hpre hu' hown hbel
    have hlen : (l ++ pre).length + 1 ≤ 140737488355328 := by
     have h1 := congrArg List.length Hpre.out
     have h2 := enc_len x
     have h3 := encF_len_pos kk u
     rw [List.length_append] at h1 ⊢
     omega
    have hs := hbel'.size
    have hand := and127_64 u hu64
    by_cases hge : 128 ≤ u
    ·go_wp2_with (at_builtin; refine appN rfl rfl hown' (byte_up_bv u) rfl rfl rfl hlen hs ?_; intro s1 w1 hown1 hg1 hat1)
     go_roundw
     case rel =>
      obtain ⟨kk, rfl⟩ : ∃ k', kk = k' + 1 := by
       cases kk with
       | zero => have := Hu.out; simp at this; omega
       | succ k => exact ⟨k, rfl⟩
      refine ⟨kk, u / 128, pre ++ [UInt8.ofNat (u % 128 + 128)], by go_num, by rw [← List.append_assoc]; exact hown1, ?_, div_lt_pow Hu.out, Nat.lt_of_le_of_lt (Nat.div_le_self _ _) hu64, app_below hbel' hown' hg1⟩
      rw [← Hpre.out]
      simp only [encF]
      rw [if_neg (by omega)]
      simp
     case measure => simp [intOf]; omega
    ·go_wp2_with (at_builtin; refine appN rfl rfl hown' (byte_bv' u (by omega)) rfl rfl rfl hlen hs ?_; intro s1 w1 hown1 hg1 hat1)
     go_roundw
     case rel =>
      refine ⟨k + 1, hlt, by go_num, ?_, app_below hbel' hown' hg1⟩
      rw [Hsucc.out, ← List.append_assoc, ← HL.out, ← Hpre.out]
      have e : encF kk u = [UInt8.ofNat u] := by
       cases kk with
       | zero => rfl
       | succ k => simp only [encF]; rw [if_pos (by omega)]
      rw [e, ← List.append_assoc]
      exact hown1
     case measure => simp [intOf]; omega
  ·go_wp2_with fail
   go_ret
   have hk' : ls.take k = ls := List.take_of_length_le (by omega)
   rw [hk'] at hown
   obtain ⟨A2, c2, rfl, _⟩ := hown.form
   exact ⟨A2, c2, rfl, hown, hbel⟩
end Go.Proofs.Ytaflikgdlkaefaa
/- Vectors: the document's VecBytes. -/
namespace Go.Proofs.Ytaflikgdlkaefaa
open Go.RowKit Go.Maps Go.Proofs.Ytaflikgdlkaefaa.Pl Go.Proofs.Ytaflikgdlkaefaa.Sp Go.Proofs.Ytaflikgdlkaefaa.Ve
set_option maxRecDepth 20000

set_option maxRecDepth 100000 in
set_option maxHeartbeats 6400000 in
theorem RVBytes_any (w : World) (A : Option Addr) (n c : Nat) (R : List RA) (V : VL) (hv : VS w A n c R V) (hl : n ≤ 1000000) (hm : Lim 10000 V) :
  Calls Try.prog 20 #[.agg #[.slice A n c]] w (Fresh w (bytesV V)) := by
 have hb0 : Below w.heap.size w (w.alloc (.cells #[.slice A n c] 27)) := balloc (Below.refl _ _) _
 have a0 : At (w.alloc (.cells #[.slice A n c] 27)) w.heap.size [.slice A n c] := At.new w 27 #[.slice A n c]
 have hv0 := hv.below hb0
 have x0 := a0.c 0 rfl
 clear hv
 go_enter Try.func20, Try.ntmps20
 go_wp2_with fail
 generalize w.alloc (.cells #[.slice A n c] 27) = W0 at *
 refine (RVRight_any W0 A n c R V hv0 hl (hm.mono (by omega))).mono ?_
 rintro e w1 ⟨rfl, h1⟩
 obtain ⟨p, hp⟩ : ∃ p, rightV V = p := ⟨_, rfl⟩
 rw [hp]
 cases p with
 | false =>
  have HF := Lib.hid (show bytesV V = [] by rw [bytesV, if_neg (by rw [hp]; simp)])
  have hbz := hb0.trans (h1.mono hb0.size)
  clear x0
  go_wp2_with fail
  go_ret
  exact ⟨none, 0, by rw [HF.out]; rfl, by rw [HF.out]; exact OwnB.nil _ _, hbz⟩
 | true =>
  have hn64 := (show n ≤ 64 by rw [← hv0.len]; exact right_length hp)
  have HF := Lib.hid (show bytesV V = enc V.length ++ flatV V by rw [bytesV, if_pos hp])
  have y0 := (a0.below h1).c 0 rfl
  have HV := Lib.hid (And.intro hv0 (And.intro a0 (And.intro hm (And.intro hp hb0))))
  have H1 := Lib.hid h1
  clear hv0 a0 hm hp hb0 x0 h1
  have hwn : IntKind.u64.wrap (n : Int) = (n : Int) := by rw [IntKind.wrap_u64]; omega
  have hbl := balloc (Below.refl w1.heap.size w1) (.cells #[.int .u64 (n : Int)] 71)
  have HP := Lib.hid (RefPut_any (w1.alloc (.cells #[.int .u64 (n : Int)] 71)) none (some ⟨w1.heap.size, 0, none⟩) 0 1 [] [n] (.inl rfl) (u64_sl1 w1 n) (fun x hx => by rw [List.mem_singleton.1 hx]; exact U64.mk (by omega)) (by simp))
  have HB := Lib.hid hbl
  clear hbl
  go_wp2_with fail
  refine HP.out.mono ?_
  rintro e w2 ⟨A2, c2, rfl, hown2, hb2⟩
  have hL : ([] ++ encs [n] : List UInt8) = enc V.length ++ flatV (V.take 0) := by rw [HV.out.1.len]; simp [encs, flatV]
  rw [hL] at hown2
  obtain ⟨m2, hm2⟩ : ∃ m, ([] ++ encs [n] : List UInt8).length = m := ⟨_, rfl⟩
  rw [hm2]
  rw [show (enc V.length ++ flatV (V.take 0)).length = m2 by rw [← hL, hm2]] at hown2
  clear hm2
  have hby := (H1.out.trans (HB.out.mono H1.out.size)).trans (hb2.mono (Nat.le_trans H1.out.size HB.out.size))
  have hown0 := hown2.base_le (base' := W0.heap.size) (Nat.le_trans H1.out.size HB.out.size)
  have HI := Lib.hid (And.intro hown0 hby)
  clear hby hown0 hown2 hb2 hL HP HB y0
  go_wp2_with fail
  go_loopw [3, 4] (fun x3 x4 wr => ∃ (k : Nat), k ≤ n ∧ x4 = .int .i64 (k : Int) ∧ OwnB wr W0.heap.size x3 (enc V.length ++ flatV (V.take k)) ∧ Below W0.heap.size W0 wr) (fun _ x4 _ => n - (intOf x4).toNat)
  case atStart => exact ⟨0, by omega, rfl, HI.out.1, HI.out.2⟩
  case round =>
   clear HI
   obtain ⟨k, hk, rfl, hown, hbel⟩ := hrel
   have hab := HV.out.2.1.below hbel
   have z0 := hab.c 0 rfl
   by_cases hlt : k < n
   ·have hvr := HV.out.1.below hbel
    obtain ⟨q, b, o, _, hV, hq, rfl, hbW, c0, c1⟩ := hvr.at_ hlt
    have hqa := okV_lt HV.out.2.2.2.1 _ (List.mem_of_getElem? hV)
    have hql : q.l.length ≤ 10000 := HV.out.2.2.1 _ (List.mem_of_getElem? hV)
    have hst := flatV_step hV
    have hpt := part_at hV (okV_up HV.out.2.2.2.1).rise
    have hd1 : decide ((k : Int) < (n : Int)) = true := by rw [decide_eq_true_eq]; omega
    have hn0 : (0 : Int) ≤ (k : Int) := by omega
    have hn1 : (k : Int) < (n : Int) := by omega
    obtain ⟨r, Aq, cq, l⟩ := q
    dsimp only at *
    obtain ⟨rn, rfl⟩ : ∃ rn : Nat, r = (rn : Int) := ⟨r.toNat, by omega⟩
    have hr64 : rn < 64 := by omega
    obtain ⟨fa, fb, fc, fd⟩ := first_extra hqa.2.2.2
    unfold mx at fb
    have hel : (extraS l).length ≤ 10000 := by
     have := congrArg List.length fd
     rw [List.length_append] at this
     omega
    have hflat := flatV_len (m := 10000) (V := V.take k) (fun p hp => HV.out.2.2.1 p (List.mem_of_mem_take hp))
    have hbv : baseV V (rn : Int) = firstS l := by rw [baseV, if_pos HV.out.2.2.2.1, hpt]
    have hev : extraV V (rn : Int) = extraS l := by rw [extraV, if_pos HV.out.2.2.2.1, hpt]
    obtain ⟨fe, hfe⟩ : ∃ fe : Nat, firstS l = (fe : Int) := ⟨(firstS l).toNat, by omega⟩
    obtain ⟨ls, hls⟩ : ∃ x, extraS l = x := ⟨_, rfl⟩
    obtain ⟨ne, hne⟩ : ∃ m, ls.length = m := ⟨_, rfl⟩
    have hrow : rowN l = [fe, ne] ++ gapsN (fe : Int) ls := by
     rw [rowN, hfe, hls, hne]
     simp
    have hfin : flatV (V.take (k + 1)) = flatV (V.take k) ++ (UInt8.ofNat rn :: encs ([fe, ne] ++ gapsN (fe : Int) ls)) := by
     rw [hst, rowB]
     dsimp only
     rw [Int.toNat_natCast, hrow]
    rw [hls, hne] at hel
    rw [hfe] at hbv fb fc
    rw [hls] at hev fc
    have hlb : (enc V.length ++ flatV (V.take k)).length ≤ 13000000 := by
     have h2 := enc_len V.length
     have h3 : (V.take k).length * (20 * 10000 + 21) ≤ 64 * (20 * 10000 + 21) := Nat.mul_le_mul_right _ (by rw [List.length_take]; omega)
     rw [List.length_append]
     omega
    have HX := Lib.hid (And.intro hown (And.intro hvr (And.intro hab (And.intro hbel (And.intro hlb (And.intro hfin (And.intro fc (And.intro hbv (And.intro hev hne)))))))))
    clear hst hpt hqa hql fa fd hflat hbv hev hfe hls hrow hfin fc hlb hq hV
    go_wp2_with fail
    have e0 := HX.out.2.2.1.e 0 rfl
    have hb0 : Below wr.heap.size wr wr.drew := (Below.refl _ wr).drew
    clear z0 c0 c1 hab hvr hown
    refine bstartH (wr.heap) (by kernel_rfl) ?_
    refine btake 0 (oi := _) (v := ?_) (by simp only [List.getElem?_toArray, List.getElem?_cons_zero]; rfl) (by kernel_rfl) (by exact fun _ _ _ h => h) (by first | assumption | exact KB.refl _) (.inl ⟨by rfl, fun W hW => ?_⟩) ?_; rotate_left
    ·(go_simp; first | done | with_reducible rfl)
    try simp only [Act.put, List.setIfInBounds_toArray, List.set_cons_zero, List.set_cons_succ]
    refine btake 1 (oi := _) (v := ?_) (by simp only [getElem?_toArray, getElem?_cons_succ, getElem?_cons_zero]; rfl) (by kernel_rfl) (by exact fun _ _ _ h => h) (by first | assumption | exact KB.refl _) (.inl ⟨by rfl, fun W hW => ?_⟩) ?_; rotate_left
    ·(go_simp; first | done | with_reducible rfl)
    try simp only [Act.put, List.setIfInBounds_toArray, List.set_cons_zero, List.set_cons_succ]
    refine btake 3 (oi := _) (v := ?_) (by simp only [getElem?_toArray, getElem?_cons_succ, getElem?_cons_zero]; rfl) (by kernel_rfl) (by exact fun _ _ _ h => h) (by first | assumption | exact KB.refl _) (.inl ⟨by rfl, fun W hW => ?_⟩) ?_; rotate_left
    ·(go_simp; first | done | with_reducible rfl)
    try simp only [Act.put, List.setIfInBounds_toArray, List.set_cons_zero, List.set_cons_succ]
    refine btake 4 (oi := _) (v := ?_) (by simp only [getElem?_toArray, getElem?_cons_succ, getElem?_cons_zero]; rfl) (by kernel_rfl) (by exact fun _ _ _ h => h) (by first | assumption | exact KB.refl _) (.inl ⟨by rfl, fun W hW => ?_⟩) ?_; rotate_left
    ·(go_simp; first | done | with_reducible rfl)
    try simp only [Act.put, List.setIfInBounds_toArray, List.set_cons_zero, List.set_cons_succ]
    refine bopH 2 (o := _) (by simp only [getElem?_toArray, getElem?_cons_succ, getElem?_cons_zero]; rfl) (by kernel_rfl) (by first | assumption | exact KB.refl _) (by rfl) (fun K hK => ?_)
    go_simp
    refine (RVBase_any wr.drew (some ⟨b, o, none⟩) n c R V (HX.out.2.1.below hb0) (by omega) (HV.out.2.2.1.mono (by omega)) (rn : Int)).mono ?_
    rintro e u2 ⟨rfl, h2⟩
    rw [HX.out.2.2.2.2.2.2.2.1]
    have B2 := Lib.hid (hb0.trans (h2.mono hb0.size))
    have hkb : KB wr.heap u2 := KB.of B2.out
    clear h2
    refine hK.out _ _ hkb ?_; clear hK K
    try simp only [Act.put, List.setIfInBounds_toArray, List.set_cons_zero, List.set_cons_succ]
    refine bopH 5 (o := _) (by simp only [getElem?_toArray, getElem?_cons_succ, getElem?_cons_zero]; rfl) (by kernel_rfl) (by first | assumption | exact KB.refl _) (by rfl) (fun K hK => ?_)
    go_simp
    refine (RVExtra_own u2 (some ⟨b, o, none⟩) n c R V (HX.out.2.1.below B2.out) (by omega) (HV.out.2.2.1.mono (by omega)) (rn : Int)).mono ?_
    rintro e u5 ⟨v5, rfl, ho5, h5⟩
    rw [HX.out.2.2.2.2.2.2.2.2.1] at ho5
    obtain ⟨A7, c7, e7, f7⟩ := ho5.form
    rw [HX.out.2.2.2.2.2.2.2.2.2] at e7
    subst e7
    have B5 := Lib.hid (B2.out.trans (h5.mono B2.out.size))
    have hkb : KB wr.heap u5 := KB.of B5.out
    have S5 := Lib.hid (ho5.lower (base' := wr.heap.size) B2.out.size)
    clear h5 ho5 f7
    refine hK.out _ _ hkb ?_; clear hK K
    try simp only [Act.put, List.setIfInBounds_toArray, List.set_cons_zero, List.set_cons_succ]
    refine btake 6 (oi := _) (v := ?_) (by simp only [getElem?_toArray, getElem?_cons_succ, getElem?_cons_zero]; rfl) (by kernel_rfl) (by exact fun _ _ _ h => h) (by first | assumption | exact KB.refl _) (.inl ⟨by rfl, fun W hW => ?_⟩) ?_; rotate_left
    ·(go_simp; first | done | with_reducible rfl)
    try simp only [Act.put, List.setIfInBounds_toArray, List.set_cons_zero, List.set_cons_succ]
    refine btake 7 (oi := _) (v := ?_) (by simp only [getElem?_toArray, getElem?_cons_succ, getElem?_cons_zero]; rfl) (by kernel_rfl) (by exact fun _ _ _ h => h) (by first | assumption | exact KB.refl _) (.inl ⟨by rfl, fun W hW => ?_⟩) ?_; rotate_left
    ·(go_simp; first | done | with_reducible rfl)
    try simp only [Act.put, List.setIfInBounds_toArray, List.set_cons_zero, List.set_cons_succ]
    refine bdone (by kernel_rfl) ?_
    clear hkb hb0 e0
    have hw8 : IntKind.u8.wrap (rn : Int) = (rn : Int) := by rw [IntKind.wrap_u8]; omega
    have hw1 : IntKind.u64.wrap (fe : Int) = (fe : Int) := by rw [IntKind.wrap_u64]; omega
    have hw2 : IntKind.u64.wrap (ne : Int) = (ne : Int) := by rw [IntKind.wrap_u64]; omega
    have hww : W0.heap.size ≤ u5.heap.size := Nat.le_trans HX.out.2.2.2.1.size B5.out.size
    have HJ := Lib.hid (HX.out.1.below B5.out)
    go_wp2_with (at_builtin; refine appN rfl rfl HJ.out (one_bv rn (by omega)) rfl rfl rfl (by have := HX.out.2.2.2.2.1; simp; simp at this; omega) hww ?_; intro v9 w9 hown9 hg9 hat9; obtain ⟨A9, c9, e9, f9, g9, h9, _⟩ := hown9.form; obtain ⟨n9, hn9⟩ : ∃ m, (enc V.length ++ flatV (V.take k) ++ [UInt8.ofNat rn]).length = m := ⟨_, rfl⟩; rw [hn9] at e9; subst e9; have H9 := Lib.hid (And.intro hown9 (And.intro hg9 (And.intro h9 hn9))); clear hown9 hg9 hat9 f9 g9 h9 hn9)
    have hbl9 := balloc (Below.refl w9.heap.size w9) (.cells #[.int .u64 (fe : Int), .int .u64 (ne : Int)] 71)
    have hb59 : Below W0.heap.size W0 w9 := own_below (HX.out.2.2.2.1.trans (B5.out.mono HX.out.2.2.2.1.size)) hww HJ.out H9.out.2.1
    have hS9 : OwnR w9 wr.heap.size (.slice A7 ne c7) ls := World.ownsRow.kept S5.out H9.out.2.1 (by
     cases hz : (Value.slice A7 ne c7).ownBlock with
     | none => exact .inl rfl
     | some z =>
      refine .inr fun e => ?_
      have k1 := (World.ownsRow.lt S5.out z hz).1
      have k2 := (World.ownsRow.lt HX.out.1 z e.symm).2
      omega)
    have hU : ∀ x ∈ [fe, ne], U64 x := fun x hx => by
     rcases List.mem_cons.1 hx with rfl | hx
     ·exact U64.mk (by omega)
     ·rw [List.mem_singleton.1 hx]; exact U64.mk (by omega)
    have hPut := RefPut_any (w9.alloc (.cells #[.int .u64 (fe : Int), .int .u64 (ne : Int)] 71)) A9 (some ⟨w9.heap.size, 0, none⟩) c9 2 (enc V.length ++ flatV (V.take k) ++ [UInt8.ofNat rn]) [fe, ne] ((H9.out.2.2.1.below hbl9).more hbl9.size) (by rw [← EU_dv]; exact u64_sl2 w9 fe ne) hU (by have := HX.out.2.2.2.2.1; rw [List.length_append, List.length_singleton]; simp only [List.length_cons, List.length_nil]; omega)
    rw [H9.out.2.2.2] at hPut
    have HPut := Lib.hid hPut
    have hfo : ∃ A c, (Value.slice A7 ne c7) = .slice A ls.length c ∧ ls.length ≤ c ∧ c ≤ maxLen ∧ Sl w9 w9.heap.size A (rv ls) := by
     obtain ⟨A, c, e, h1, h2, h3, _⟩ := hS9.form
     exact ⟨A, c, e, h1, h2, h3⟩
    have H10 := Lib.hid (And.intro hbl9 (And.intro hb59 hfo))
    clear hbl9 hb59 hS9 hU hPut hfo
    refine HPut.out.mono ?_
    rintro e w10 ⟨A10, c10, rfl, hown10, hb10⟩
    have hsl : Sl w10 w10.heap.size A7 (rv ls) := by
     obtain ⟨A, c, e, _, _, h3⟩ := H10.out.2.2
     injection e with e1 e2 e3
     subst e1
     exact (((h3.below H10.out.1).more H10.out.1.size).below hb10).more hb10.size
    have hP0 : OwnB w10 W0.heap.size (.slice A10 (enc V.length ++ flatV (V.take k) ++ [UInt8.ofNat rn] ++ encs [fe, ne]).length c10) (enc V.length ++ flatV (V.take k) ++ [UInt8.ofNat rn] ++ encs ([fe, ne] ++ gapsN (fe : Int) (ls.take 0))) := by
     rw [List.take_zero, show [fe, ne] ++ gapsN (fe : Int) [] = [fe, ne] from rfl]
     exact hown10.base_le (Nat.le_trans H10.out.2.1.size H10.out.1.size)
    have hbw : Below W0.heap.size W0 w10 := H10.out.2.1.trans ((H10.out.1.trans (hb10.mono H10.out.1.size)).mono H10.out.2.1.size)
    have HT := Lib.hid (And.intro hsl (And.intro hP0 hbw))
    obtain ⟨n10, hn10⟩ : ∃ m, (enc V.length ++ flatV (V.take k) ++ [UInt8.ofNat rn] ++ encs [fe, ne]).length = m := ⟨_, rfl⟩
    rw [hn10] at HT ⊢
    obtain ⟨P0, hP⟩ : ∃ P0, enc V.length ++ flatV (V.take k) ++ [UInt8.ofNat rn] = P0 := ⟨_, rfl⟩
    have hPl : P0.length ≤ 13000001 := by have := HX.out.2.2.2.2.1; rw [← hP, List.length_append, List.length_singleton]; omega
    have hPf : P0 ++ encs ([fe, ne] ++ gapsN (fe : Int) ls) = enc V.length ++ flatV (V.take (k + 1)) := by
     rw [HX.out.2.2.2.2.2.1, ← hP]
     simp
    rw [hP] at HT
    have HQ := Lib.hid (And.intro hPl hPf)
    have hokr := HX.out.2.2.2.2.2.2.1
    have hnel := HX.out.2.2.2.2.2.2.2.2.2
    have HO := Lib.hid (And.intro hokr hnel)
    clear hsl hP0 hbw hn10 hP hPl hPf hown10 hb10 HPut H10 H9 HJ HX hokr hnel S5 B5 hbel
    obtain ⟨wq, rfl⟩ : ∃ wq : World, wq = wr := ⟨_, rfl⟩
    go_wp2_with fail
    go_loopw [3, 6, 8] (fun x3 x6 x8 wr => ∃ (j : Nat) (en : Int), j ≤ ne ∧ x8 = .int .i64 (j : Int) ∧ x6 = .int .i64 en ∧ en = endG (fe : Int) (ls.take j) ∧ OwnB wr W0.heap.size x3 (P0 ++ encs ([fe, ne] ++ gapsN (fe : Int) (ls.take j))) ∧ Below W0.heap.size W0 wr ∧ Sl wr wr.heap.size A7 (rv ls)) (fun _ _ x8 _ => ne - (intOf x8).toNat)
    case atStart => exact ⟨0, (fe : Int), by omega, rfl, rfl, rfl, HT.out.2.1, HT.out.2.2, HT.out.1⟩
    case round =>
     obtain ⟨j, en, hj, rfl, rfl, hen, hno, hbj, hsj⟩ := hrel
     by_cases hjl : j < ne
     ·have hjs : j < ls.length := by rw [HO.out.2]; exact hjl
      obtain ⟨b2, o2, rfl, hb2B, hb2W, g0, g1⟩ := rgAt hsj hjs
      have hx : ls[j]? = some (ls[j]?.getD ⟨0, 0⟩) := by rw [List.getElem?_eq_getElem hjs]; rfl
      generalize ls[j]?.getD ⟨0, 0⟩ = x at *
      obtain ⟨t1, t2, t3, t4⟩ := okR_at HO.out.1 (by omega) hx
      rw [← hen] at t1 t2
      have hgs := gaps_step hx (fe : Int)
      have hes := endG_step hx (fe : Int)
      rw [← hen] at hgs
      obtain ⟨ga, hga⟩ : ∃ ga : Nat, x.a - en - 2 = (ga : Int) := ⟨(x.a - en - 2).toNat, by omega⟩
      obtain ⟨gb, hgb⟩ : ∃ gb : Nat, x.b - x.a = (gb : Int) := ⟨(x.b - x.a).toNat, by omega⟩
      rw [hga, hgb, Int.toNat_natCast, Int.toNat_natCast] at hgs
      have hd2 : decide ((j : Int) < (ne : Int)) = true := by rw [decide_eq_true_eq]; omega
      have hj0 : (0 : Int) ≤ (j : Int) := by omega
      have hj1 : (j : Int) < (ne : Int) := by omega
      have v1 : IntKind.i64.wrap (x.a - en) = x.a - en := by rw [IntKind.wrap_i64]; omega
      have v2 : IntKind.i64.wrap (x.a - en - 2) = (ga : Int) := by rw [IntKind.wrap_i64]; omega
      have v3 : IntKind.i64.wrap (x.b - x.a) = (gb : Int) := by rw [IntKind.wrap_i64]; omega
      have v4 : IntKind.u64.wrap (ga : Int) = (ga : Int) := by rw [IntKind.wrap_u64]; omega
      have v5 : IntKind.u64.wrap (gb : Int) = (gb : Int) := by rw [IntKind.wrap_u64]; omega
      have hga64 : ga < 18446744073709551616 := by omega
      have hgb64 : gb < 18446744073709551616 := by omega
      obtain ⟨A3, c3, rfl, _, _, hs3, _⟩ := hno.form
      have hgl : (gapsN (fe : Int) (ls.take j)).length ≤ 20000 := by rw [gapsN_len, List.length_take]; omega
      obtain ⟨O, hO⟩ : ∃ O, P0 ++ encs ([fe, ne] ++ gapsN (fe : Int) (ls.take j)) = O := ⟨_, rfl⟩
      have hOl : O.length ≤ 14000000 := by
       have h1 := encs_len ([fe, ne] ++ gapsN (fe : Int) (ls.take j))
       have h2 := HQ.out.1
       rw [← hO, List.length_append]
       simp only [List.length_append, List.length_cons, List.length_nil] at h1
       omega
      have hOn : O ++ encs [ga, gb] = P0 ++ encs ([fe, ne] ++ gapsN (fe : Int) (ls.take (j + 1))) := by
       rw [hgs, ← hO, List.append_assoc, ← encs_append, List.append_assoc]
      rw [hO] at hs3 ⊢
      have HJ := Lib.hid (And.intro hs3 (And.intro hOl (And.intro hOn (And.intro hbj (And.intro hsj hes)))))
      clear hno hs3 hgs hes hbj hsj hen hx t1 t2 hga hgb hgl hO hOl hOn hb2B
      obtain ⟨m3, hm3⟩ : ∃ m, O.length = m := ⟨_, rfl⟩
      rw [hm3]
      go_wp2_with fail
      have e0 := cellB g0
      have e1 := cellB g1
      have hb0 : Below wr.heap.size wr wr.drew := (Below.refl _ wr).drew
      refine bstartH (wr.heap) (by kernel_rfl) ?_
      refine btake 0 (oi := _) (v := ?_) (by simp only [List.getElem?_toArray, List.getElem?_cons_zero]; rfl) (by kernel_rfl) (by exact fun _ _ _ h => h) (by first | assumption | exact KB.refl _) (.inl ⟨by rfl, fun W hW => ?_⟩) ?_; rotate_left
      ·(go_simp; first | done | with_reducible rfl)
      try simp only [Act.put, List.setIfInBounds_toArray, List.set_cons_zero, List.set_cons_succ]
      refine btake 1 (oi := _) (v := ?_) (by simp only [getElem?_toArray, getElem?_cons_succ, getElem?_cons_zero]; rfl) (by kernel_rfl) (by exact fun _ _ _ h => h) (by first | assumption | exact KB.refl _) (.inl ⟨by rfl, fun W hW => ?_⟩) ?_; rotate_left
      ·(go_simp; first | done | with_reducible rfl)
      try simp only [Act.put, List.setIfInBounds_toArray, List.set_cons_zero, List.set_cons_succ]
      refine btake 2 (oi := _) (v := ?_) (by simp only [getElem?_toArray, getElem?_cons_succ, getElem?_cons_zero]; rfl) (by kernel_rfl) (by exact fun _ _ _ h => h) (by first | assumption | exact KB.refl _) (.inl ⟨by rfl, fun W hW => ?_⟩) ?_; rotate_left
      ·(go_simp; first | done | with_reducible rfl)
      try simp only [Act.put, List.setIfInBounds_toArray, List.set_cons_zero, List.set_cons_succ]
      refine btake 3 (oi := _) (v := ?_) (by simp only [getElem?_toArray, getElem?_cons_succ, getElem?_cons_zero]; rfl) (by kernel_rfl) (by exact fun _ _ _ h => h) (by first | assumption | exact KB.refl _) (.inl ⟨by rfl, fun W hW => ?_⟩) ?_; rotate_left
      ·(go_simp; first | done | with_reducible rfl)
      try simp only [Act.put, List.setIfInBounds_toArray, List.set_cons_zero, List.set_cons_succ]
      refine btake 4 (oi := _) (v := ?_) (by simp only [getElem?_toArray, getElem?_cons_succ, getElem?_cons_zero]; rfl) (by kernel_rfl) (by exact fun _ _ _ h => h) (by first | assumption | exact KB.refl _) (.inl ⟨by rfl, fun W hW => ?_⟩) ?_; rotate_left
      ·(go_simp; first | done | with_reducible rfl)
      try simp only [Act.put, List.setIfInBounds_toArray, List.set_cons_zero, List.set_cons_succ]
      refine btake 5 (oi := _) (v := ?_) (by simp only [getElem?_toArray, getElem?_cons_succ, getElem?_cons_zero]; rfl) (by kernel_rfl) (by exact fun _ _ _ h => h) (by first | assumption | exact KB.refl _) (.inl ⟨by rfl, fun W hW => ?_⟩) ?_; rotate_left
      ·(go_simp; first | done | with_reducible rfl)
      try simp only [Act.put, List.setIfInBounds_toArray, List.set_cons_zero, List.set_cons_succ]
      refine btake 6 (oi := _) (v := ?_) (by simp only [getElem?_toArray, getElem?_cons_succ, getElem?_cons_zero]; rfl) (by kernel_rfl) (by exact fun _ _ _ h => h) (by first | assumption | exact KB.refl _) (.inl ⟨by rfl, fun W hW => ?_⟩) ?_; rotate_left
      ·(go_simp; first | done | with_reducible rfl)
      try simp only [Act.put, List.setIfInBounds_toArray, List.set_cons_zero, List.set_cons_succ]
      refine btake 7 (oi := _) (v := ?_) (by simp only [getElem?_toArray, getElem?_cons_succ, getElem?_cons_zero]; rfl) (by kernel_rfl) (by exact fun _ _ _ h => h) (by first | assumption | exact KB.refl _) (.inl ⟨by rfl, fun W hW => ?_⟩) ?_; rotate_left
      ·(go_simp; first | done | with_reducible rfl)
      try simp only [Act.put, List.setIfInBounds_toArray, List.set_cons_zero, List.set_cons_succ]
      refine btake 8 (oi := _) (v := ?_) (by simp only [getElem?_toArray, getElem?_cons_succ, getElem?_cons_zero]; rfl) (by kernel_rfl) (by exact fun _ _ _ h => h) (by first | assumption | exact KB.refl _) (.inl ⟨by rfl, fun W hW => ?_⟩) ?_; rotate_left
      ·(go_simp; first | done | with_reducible rfl)
      try simp only [Act.put, List.setIfInBounds_toArray, List.set_cons_zero, List.set_cons_succ]
      refine btake 9 (oi := _) (v := ?_) (by simp only [getElem?_toArray, getElem?_cons_succ, getElem?_cons_zero]; rfl) (by kernel_rfl) (by exact fun _ _ _ h => h) (by first | assumption | exact KB.refl _) (.inl ⟨by rfl, fun W hW => ?_⟩) ?_; rotate_left
      ·(go_simp; first | done | with_reducible rfl)
      try simp only [Act.put, List.setIfInBounds_toArray, List.set_cons_zero, List.set_cons_succ]
      refine btake 10 (oi := _) (v := ?_) (by simp only [getElem?_toArray, getElem?_cons_succ, getElem?_cons_zero]; rfl) (by kernel_rfl) (by exact fun _ _ _ h => h) (by first | assumption | exact KB.refl _) (.inl ⟨by rfl, fun W hW => ?_⟩) ?_; rotate_left
      ·(go_simp; first | done | with_reducible rfl)
      try simp only [Act.put, List.setIfInBounds_toArray, List.set_cons_zero, List.set_cons_succ]
      refine btake 11 (oi := _) (v := ?_) (by simp only [getElem?_toArray, getElem?_cons_succ, getElem?_cons_zero]; rfl) (by kernel_rfl) (by exact fun _ _ _ h => h) (by first | assumption | exact KB.refl _) (.inl ⟨by rfl, fun W hW => ?_⟩) ?_; rotate_left
      ·(go_simp; first | done | with_reducible rfl)
      try simp only [Act.put, List.setIfInBounds_toArray, List.set_cons_zero, List.set_cons_succ]
      refine btake 12 (oi := _) (v := ?_) (by simp only [getElem?_toArray, getElem?_cons_succ, getElem?_cons_zero]; rfl) (by kernel_rfl) (by exact fun _ _ _ h => h) (by first | assumption | exact KB.refl _) (.inl ⟨by rfl, fun W hW => ?_⟩) ?_; rotate_left
      ·(go_simp; first | done | with_reducible rfl)
      try simp only [Act.put, List.setIfInBounds_toArray, List.set_cons_zero, List.set_cons_succ]
      refine btake 13 (oi := _) (v := ?_) (by simp only [getElem?_toArray, getElem?_cons_succ, getElem?_cons_zero]; rfl) (by kernel_rfl) (by exact fun _ _ _ h => h) (by first | assumption | exact KB.refl _) (.inl ⟨by rfl, fun W hW => ?_⟩) ?_; rotate_left
      ·(go_simp; first | done | with_reducible rfl)
      try simp only [Act.put, List.setIfInBounds_toArray, List.set_cons_zero, List.set_cons_succ]
      refine btake 14 (oi := _) (v := ?_) (by simp only [getElem?_toArray, getElem?_cons_succ, getElem?_cons_zero]; rfl) (by kernel_rfl) (by exact fun _ _ _ h => h) (by first | assumption | exact KB.refl _) (.inl ⟨by rfl, fun W hW => ?_⟩) ?_; rotate_left
      ·(go_simp; first | done | with_reducible rfl)
      try simp only [Act.put, List.setIfInBounds_toArray, List.set_cons_zero, List.set_cons_succ]
      refine btake 15 (oi := _) (v := ?_) (by simp only [getElem?_toArray, getElem?_cons_succ, getElem?_cons_zero]; rfl) (by kernel_rfl) (by exact fun _ _ _ h => h) (by first | assumption | exact KB.refl _) (.inl ⟨by rfl, fun W hW => ?_⟩) ?_; rotate_left
      ·(go_simp; first | done | with_reducible rfl)
      try simp only [Act.put, List.setIfInBounds_toArray, List.set_cons_zero, List.set_cons_succ]
      refine btake 16 (oi := _) (v := ?_) (by simp only [getElem?_toArray, getElem?_cons_succ, getElem?_cons_zero]; rfl) (by kernel_rfl) (by exact fun _ _ _ h => h) (by first | assumption | exact KB.refl _) (.inl ⟨by rfl, fun W hW => ?_⟩) ?_; rotate_left
      ·(go_simp; first | done | with_reducible rfl)
      try simp only [Act.put, List.setIfInBounds_toArray, List.set_cons_zero, List.set_cons_succ]
      refine btake 17 (oi := _) (v := ?_) (by simp only [getElem?_toArray, getElem?_cons_succ, getElem?_cons_zero]; rfl) (by kernel_rfl) (by exact fun _ _ _ h => h) (by first | assumption | exact KB.refl _) (.inl ⟨by rfl, fun W hW => ?_⟩) ?_; rotate_left
      ·(go_simp; first | done | with_reducible rfl)
      try simp only [Act.put, List.setIfInBounds_toArray, List.set_cons_zero, List.set_cons_succ]
      refine btake 18 (oi := _) (v := ?_) (by simp only [getElem?_toArray, getElem?_cons_succ, getElem?_cons_zero]; rfl) (by kernel_rfl) (by exact fun _ _ _ h => h) (by first | assumption | exact KB.refl _) (.inl ⟨by rfl, fun W hW => ?_⟩) ?_; rotate_left
      ·(go_simp; first | done | with_reducible rfl)
      try simp only [Act.put, List.setIfInBounds_toArray, List.set_cons_zero, List.set_cons_succ]
      refine btake 19 (oi := _) (v := ?_) (by simp only [getElem?_toArray, getElem?_cons_succ, getElem?_cons_zero]; rfl) (by kernel_rfl) (by exact fun _ _ _ h => h) (by first | assumption | exact KB.refl _) (.inl ⟨by rfl, fun W hW => ?_⟩) ?_; rotate_left
      ·(go_simp; first | done | with_reducible rfl)
      try simp only [Act.put, List.setIfInBounds_toArray, List.set_cons_zero, List.set_cons_succ]
      refine btake 20 (oi := _) (v := ?_) (by simp only [getElem?_toArray, getElem?_cons_succ, getElem?_cons_zero]; rfl) (by kernel_rfl) (by exact fun _ _ _ h => h) (by first | assumption | exact KB.refl _) (.inl ⟨by rfl, fun W hW => ?_⟩) ?_; rotate_left
      ·(go_simp; first | done | with_reducible rfl)
      try simp only [Act.put, List.setIfInBounds_toArray, List.set_cons_zero, List.set_cons_succ]
      refine btake 21 (oi := _) (v := ?_) (by simp only [getElem?_toArray, getElem?_cons_succ, getElem?_cons_zero]; rfl) (by kernel_rfl) (by exact fun _ _ _ h => h) (by first | assumption | exact KB.refl _) (.inl ⟨by rfl, fun W hW => ?_⟩) ?_; rotate_left
      ·(go_simp; first | done | with_reducible rfl)
      try simp only [Act.put, List.setIfInBounds_toArray, List.set_cons_zero, List.set_cons_succ]
      refine bopH 22 (o := _) (by simp only [getElem?_toArray, getElem?_cons_succ, getElem?_cons_zero]; rfl) (by kernel_rfl) (by first | assumption | exact KB.refl _) (by rfl) (fun K hK => ?_)
      go_simp
      have hbA : Below wr.heap.size wr (wr.alloc (.cells #[.int .u64 (ga : Int), .int .u64 (gb : Int)] 71)).drew := (balloc (Below.refl wr.heap.size wr) (.cells #[.int .u64 (ga : Int), .int .u64 (gb : Int)] 71)).drew
      have hkb : KB wr.heap (wr.alloc (.cells #[.int .u64 (ga : Int), .int .u64 (gb : Int)] 71)).drew := KB.of hbA
      have hsA := u64_sl2 wr ga gb
      rw [EU_dv] at hsA
      have hU2 : ∀ x ∈ [ga, gb], U64 x := fun x hx => by
       rcases List.mem_cons.1 hx with rfl | hx
       ·exact U64.mk hga64
       ·rw [List.mem_singleton.1 hx]; exact U64.mk hgb64
      have hPut := RefPut_any (wr.alloc (.cells #[.int .u64 (ga : Int), .int .u64 (gb : Int)] 71)).drew A3 (some ⟨wr.heap.size, 0, none⟩) c3 2 O [ga, gb] ((HJ.out.1.below hbA).more hbA.size) hsA hU2 (by have := HJ.out.2.1; simp only [List.length_cons, List.length_nil]; omega)
      rw [hm3] at hPut
      have HPut := Lib.hid (And.intro hbA hPut)
      clear hbA hsA hU2 hPut
      refine hK.out _ _ hkb ?_; clear hK K
      try simp only [Act.put, List.setIfInBounds_toArray, List.set_cons_zero, List.set_cons_succ]
      refine bopH 23 (o := _) (by simp only [getElem?_toArray, getElem?_cons_succ, getElem?_cons_zero]; rfl) (by kernel_rfl) (by first | assumption | exact KB.refl _) (by rfl) (fun K hK => ?_)
      go_simp
      refine HPut.out.2.mono ?_
      rintro e u4 ⟨A4, c4, rfl, hown4, hb4⟩
      have Bz := Lib.hid (HPut.out.1.trans (hb4.mono HPut.out.1.size))
      have hkb : KB wr.heap u4 := KB.of Bz.out
      rw [HJ.out.2.2.1] at hown4
      have HK := Lib.hid (hown4.base_le (base' := W0.heap.size) (Nat.le_trans HJ.out.2.2.2.1.size HPut.out.1.size))
      have hlen : (O ++ encs [ga, gb]).length = (P0 ++ encs ([fe, ne] ++ gapsN (fe : Int) (ls.take (j + 1)))).length := by rw [HJ.out.2.2.1]
      rw [hlen]
      clear hown4 hb4 hlen
      generalize (P0 ++ encs ([fe, ne] ++ gapsN (fe : Int) (ls.take (j + 1)))).length = m4 at *
      refine hK.out _ _ hkb ?_; clear hK K
      try simp only [Act.put, List.setIfInBounds_toArray, List.set_cons_zero, List.set_cons_succ]
      refine btake 24 (oi := _) (v := ?_) (by simp only [getElem?_toArray, getElem?_cons_succ, getElem?_cons_zero]; rfl) (by kernel_rfl) (by exact fun _ _ _ h => h) (by first | assumption | exact KB.refl _) (.inl ⟨by rfl, fun W hW => ?_⟩) ?_; rotate_left
      ·(go_simp; first | done | with_reducible rfl)
      try simp only [Act.put, List.setIfInBounds_toArray, List.set_cons_zero, List.set_cons_succ]
      refine bdone (by kernel_rfl) ?_
      have y1 := (Bz.out.cell hb2W).trans g1
      clear e0 e1 hkb hb0 g0 g1
      go_wp2_with fail
      go_roundw
      case rel => exact ⟨j + 1, x.b, by omega, by go_num, rfl, HJ.out.2.2.2.2.2.symm, HK.out, HJ.out.2.2.2.1.trans (Bz.out.mono HJ.out.2.2.2.1.size), (HJ.out.2.2.2.2.1.below Bz.out).more Bz.out.size⟩
      case measure => simp [intOf]; omega
     ·obtain rfl : j = ne := by omega
      have hd2 : decide ((j : Int) < (j : Int)) = false := by rw [decide_eq_false_iff_not]; omega
      rw [show ls.take j = ls by rw [← HO.out.2, List.take_length], HQ.out.2] at hno
      have HZ := Lib.hid hno
      clear hno
      go_wp2_with fail
      go_roundw
      case rel => exact ⟨k + 1, by omega, by go_num, HZ.out, hbj⟩
      case measure => simp [intOf]; omega
   ·obtain rfl : k = n := by omega
    have hd1 : decide ((k : Int) < (k : Int)) = false := by rw [decide_eq_false_iff_not]; omega
    rw [show V.take k = V by rw [← HV.out.1.len, List.take_length], ← HF.out] at hown
    obtain ⟨A9, c9, rfl, _⟩ := hown.form
    have HZ := Lib.hid (hown.base_le (base' := w.heap.size) HV.out.2.2.2.2.size)
    have hbz := HV.out.2.2.2.2.trans (hbel.mono HV.out.2.2.2.2.size)
    clear hown
    go_wp2_with fail
    go_ret
    exact ⟨A9, c9, rfl, HZ.out, hbz⟩
end Go.Proofs.Ytaflikgdlkaefaa
/- An argument that is a slice of structs. -/
namespace Go.Proofs.Ytaflikgdlkaefaa
open Go.RowKit
set_option maxRecDepth 20000
theorem sl_of_cells (W : World) (a : Addr) (xs : List Value) (h : ∀ (j : Nat) (u : Value), xs[j]? = some u → W.cell? (a.add j) = some u) : Sl W W.heap.size (some a) xs := by
 cases xs with
 | nil => exact .inl rfl
 | cons x t =>
  obtain ⟨b, o, spot⟩ := a
  have hc0 := h 0 x rfl
  have hspot : spot = none := by simpa [Addr.add] using World.cell?_spot hc0
  subst hspot
  have hbl : b < W.heap.size := by
   have := World.block_lt_of_cell? W _ hc0
   simpa [Addr.add] using this
  refine .inr ⟨b, o, rfl, hbl, hbl, fun j u hu => ?_⟩
  have := h j u hu
  have e1 : (⟨b, o, none⟩ : Addr).add j = ⟨b, o + j, none⟩ := by
   unfold Addr.add
   split
   ·rename_i h0; subst h0; rfl
   ·rfl
  rw [e1] at this
  exact this
theorem wf_i64' (a : Int) (h : (Lit.int .i64 a).wf = true) : i64in a := by
 have : -9223372036854775808 ≤ a ∧ a ≤ 9223372036854775807 := by simpa [Lit.wf, IntKind.min, IntKind.max, IntKind.signed, IntKind.bits] using h
 exact this
section
open Go.Joins Go.ChangeShapes Go.WideShapes Go.ChangeAt Go.RowKit Go.Deep
variable {H : Type} {enc : TypeId × Value → H} {W : World} {base : Nat} {t : TypeId} {v : Value} {d : DataW H} {p : List MemPlace}
/-- the cells of some things, one behind another -/
theorem flat_get {α : Type} (cells : α → List Value) (C : Nat) (h0 : 0 < C) (hl : ∀ x, (cells x).length = C) : ∀ (ls : List α) (j : Nat), (ls.flatMap cells)[j]? = (ls[j / C]?).bind fun x => (cells x)[j % C]?
 | [], j => by simp
 | x :: ls, j => by
  rw [List.flatMap_cons]
  by_cases h : j < C
  ·rw [List.getElem?_append_left (by rw [hl]; exact h), Nat.div_eq_of_lt h, Nat.mod_eq_of_lt h]; rfl
  ·rw [List.getElem?_append_right (by rw [hl]; omega), hl, flat_get cells C h0 hl ls (j - C)]
   have h1 : j / C = (j - C) / C + 1 := by
    rw [← Nat.add_div_right _ h0]; congr 1; omega
   have h2 : j % C = (j - C) % C := (Nat.mod_eq_sub_mod (by omega))
   rw [h1, h2]; rfl
theorem One.rows {α : Type} (cells : α → List Value) (C : Nat) (h0 : 0 < C) (hl : ∀ x, (cells x).length = C) (ok : α → Prop) (d0 : α) {e : TypeId} (ht : Try.prog.underlying t = some (.slice e)) (hC : Try.prog.cellsOf e = C)
  (hE : ∀ n cs' y, DataW.trod enc Try.prog W 0 (fun _ => true) true n e cs' = some y → ∃ x, cs' = cells x ∧ ok x) (h : One enc W base t v d p) :
  ∃ (A : Option Addr) (c : Nat) (ls : List α), v = .slice A ls.length c ∧ Sl W W.heap.size A (ls.flatMap cells) ∧ ls.length ≤ c ∧ c ≤ Go.maxLen ∧ ∀ x ∈ ls, ok x := by
 have hok := h.ok
 have rd := h.rd
 obtain ⟨A, len, cap, rfl⟩ := okWide_slice ht hok
 obtain ⟨fuel, hf⟩ := rd
 rcases open_slice ht hf with ⟨hcs, _⟩ | ⟨a, len', cap', m, n, D, Pl, hcs, _, hle, hm, hmm, _, hr⟩
 ·simp [Value.cells] at hcs
  obtain ⟨rfl, rfl, rfl⟩ := hcs
  exact ⟨none, 0, [], rfl, Sl.nil, by simp, by simp [Go.maxLen], by simp⟩
 ·simp [Value.cells] at hcs
  obtain ⟨rfl, rfl, rfl⟩ := hcs
  have hmm' : m = cap := by simpa using hmm
  subst hmm'
  have hx : ∀ i, ∃ x : α, i < m → ok x ∧ ∀ k, k < C → W.cell? (a.add (i * C + k)) = (cells x)[k]? := by
   intro i
   by_cases hi : i < m
   ·obtain ⟨cs', h1, h2⟩ := hr i hi
    obtain ⟨x, rfl, hx⟩ := hE _ _ _ h2
    rw [hC] at h1
    obtain ⟨_, _, h3⟩ := World.cells?_some h1
    exact ⟨x, fun _ => ⟨hx, fun k hk => by rw [← Go.Deep.add_add]; exact h3 k hk⟩⟩
   ·exact ⟨d0, fun h => absurd h hi⟩
  obtain ⟨f, hf'⟩ := Classical.axiomOfChoice hx
  refine ⟨some a, m, (List.range len).map f, by simp, sl_of_cells W a _ fun j u hu => ?_, by simpa using hle, hm, ?_⟩
  ·rw [flat_get cells C h0 hl, List.getElem?_map] at hu
   by_cases hj : j / C < len
   ·rw [List.getElem?_range hj] at hu
    have hk := (hf' (j / C) (by omega)).2 (j % C) (Nat.mod_lt _ h0)
    rw [Nat.div_add_mod' j C] at hk
    rw [hk]
    exact hu
   ·rw [List.getElem?_eq_none (by simpa using hj)] at hu
    cases hu
  ·intro x hx
   obtain ⟨i, hi, rfl⟩ := List.mem_map.1 hx
   exact (hf' i (by have := List.mem_range.1 hi; omega)).1
end
end Go.Proofs.Ytaflikgdlkaefaa
/- What lies inside an element: a slice of things read. -/
namespace Go.Proofs.Ytaflikgdlkaefaa
open Go.RowKit
section
open Go.Joins Go.ChangeShapes Go.WideShapes Go.ChangeAt Go.RowKit Go.Deep
variable {H : Type} {enc : TypeId × Value → H} {W : World} {t : TypeId}
theorem rows_of_trod {α : Type} (cells : α → List Value) (C : Nat) (h0 : 0 < C) (hl : ∀ x, (cells x).length = C) (ok : α → Prop) (d0 : α) {e : TypeId} (ht : Try.prog.underlying t = some (.slice e)) (hC : Try.prog.cellsOf e = C)
  (hE : ∀ n cs' y, DataW.trod enc Try.prog W 0 (fun _ => true) true n e cs' = some y → ∃ x, cs' = cells x ∧ ok x) {n0 : Nat} {cs : List Value} {y0 : DataW H × List MemPlace} (hf : DataW.trod enc Try.prog W 0 (fun _ => true) true n0 t cs = some y0) :
  ∃ (A : Option Addr) (c : Nat) (ls : List α), cs = [.slice A ls.length c] ∧ Sl W W.heap.size A (ls.flatMap cells) ∧ ls.length ≤ c ∧ c ≤ maxLen ∧ ∀ x ∈ ls, ok x := by
 rcases open_slice ht hf with ⟨hcs, _⟩ | ⟨a, len', cap', m, n, D, Pl, hcs, _, hle, hm, hmm, _, hr⟩
 ·exact ⟨none, 0, [], hcs, Sl.nil, by simp, by simp [maxLen], by simp⟩
 ·have hmm' : m = cap' := by simpa using hmm
  subst hmm'
  subst hcs
  have hx : ∀ i, ∃ x : α, i < m → ok x ∧ ∀ k, k < C → W.cell? (a.add (i * C + k)) = (cells x)[k]? := by
   intro i
   by_cases hi : i < m
   ·obtain ⟨cs', h1, h2⟩ := hr i hi
    obtain ⟨x, rfl, hx⟩ := hE _ _ _ h2
    rw [hC] at h1
    obtain ⟨_, _, h3⟩ := World.cells?_some h1
    exact ⟨x, fun _ => ⟨hx, fun k hk => by rw [← Go.Deep.add_add]; exact h3 k hk⟩⟩
   ·exact ⟨d0, fun h => absurd h hi⟩
  obtain ⟨f, hf'⟩ := Classical.axiomOfChoice hx
  refine ⟨some a, m, (List.range len').map f, by simp, sl_of_cells W a _ fun j u hu => ?_, by simpa using hle, hm, ?_⟩
  ·rw [flat_get cells C h0 hl, List.getElem?_map] at hu
   by_cases hj : j / C < len'
   ·rw [List.getElem?_range hj] at hu
    have hk := (hf' (j / C) (by omega)).2 (j % C) (Nat.mod_lt _ h0)
    rw [Nat.div_add_mod' j C] at hk
    rw [hk]
    exact hu
   ·rw [List.getElem?_eq_none (by simpa using hj)] at hu
    cases hu
  ·intro x hx
   obtain ⟨i, hi, rfl⟩ := List.mem_map.1 hx
   exact (hf' i (by have := List.mem_range.1 hi; omega)).1
theorem ints_of_trod {k : IntKind} {e : TypeId} (ht : Try.prog.underlying t = some (.slice e)) (he : Try.prog.underlying e = some (.int k)) (hC : Try.prog.cellsOf e = 1) {n0 : Nat} {cs : List Value} {y0 : DataW H × List MemPlace} (hf : DataW.trod enc Try.prog W 0 (fun _ => true) true n0 t cs = some y0) :
  ∃ (A : Option Addr) (c : Nat) (zs : List Int), cs = [.slice A zs.length c] ∧ Sl W W.heap.size A (zs.map (Value.int k)) ∧ zs.length ≤ c ∧ c ≤ maxLen ∧ ∀ z ∈ zs, (Lit.int k z).wf = true := by
 obtain ⟨A, c, zs, h1, h2, h3⟩ := rows_of_trod (fun z => [Value.int k z]) 1 (by omega) (fun _ => rfl) (fun z => (Lit.int k z).wf = true) 0 ht hC (fun n cs' y h => by
  obtain ⟨a, e1, _, w⟩ := DataW.trod_int he h
  exact ⟨a, e1, w⟩) hf
 refine ⟨A, c, zs, h1, ?_, h3⟩
 have e : zs.flatMap (fun z => [Value.int k z]) = zs.map (Value.int k) := by
  clear h1 h2 h3
  induction zs with
  | nil => rfl
  | cons z zs ih => rw [List.flatMap_cons, ih]; rfl
 rw [← e]; exact h2
def bytesOfZ (zs : List Int) : List UInt8 := zs.map (fun z => UInt8.ofNat z.toNat)
theorem bv_bytesOfZ (zs : List Int) (h : ∀ z ∈ zs, (Lit.int .u8 z).wf = true) : bv (bytesOfZ zs) = zs.map (Value.int .u8) := by
 simp only [bv, bytesOfZ, List.map_map]
 refine List.map_congr_left fun z hz => ?_
 have hx : 0 ≤ z ∧ z ≤ 255 := by simpa [Lit.wf, IntKind.min, IntKind.max, IntKind.signed, IntKind.bits] using h z hz
 simp only [Function.comp, u8v, UInt8.toNat_ofNat']
 congr 1
 omega
theorem bytes_of_trod (ht : Try.prog.underlying t = some (.slice 5)) {n0 : Nat} {cs : List Value} {y0 : DataW H × List MemPlace} (hf : DataW.trod enc Try.prog W 0 (fun _ => true) true n0 t cs = some y0) :
  ∃ (A : Option Addr) (c : Nat) (l : List UInt8), cs = [.slice A l.length c] ∧ Sl W W.heap.size A (bv l) ∧ l.length ≤ c ∧ c ≤ maxLen := by
 obtain ⟨A, c, zs, h1, h2, h3, h4, h5⟩ := ints_of_trod ht Try.underlying5 (by kernel_rfl) hf
 have hl : (bytesOfZ zs).length = zs.length := by simp [bytesOfZ]
 exact ⟨A, c, bytesOfZ zs, by rw [hl]; exact h1, by rw [bv_bytesOfZ zs h5]; exact h2, by rw [hl]; exact h3, h4⟩
theorem trod_structN2 {t : TypeId} {f0 f1 : Field} {fuel : Nat} {cs : List Value} {x : DataW H × List MemPlace} (ht : Try.prog.underlying t = some (.struct #[f0, f1])) (h : DataW.trod enc Try.prog W 0 (fun _ => true) true fuel t cs = some x) :
  ∃ y0 y1 n, cs.length = Try.prog.cellsOf t ∧ DataW.trod enc Try.prog W 0 (fun _ => true) true n f0.type ((cs.drop f0.offset).take (Try.prog.cellsOf f0.type)) = some y0 ∧ DataW.trod enc Try.prog W 0 (fun _ => true) true n f1.type ((cs.drop f1.offset).take (Try.prog.cellsOf f1.type)) = some y1 := by
 obtain ⟨xs, n, _, rfl, hl, hlen, hf⟩ := DataW.trod_struct ht h
 match xs, hlen with
 | [y0, y1], _ => exact ⟨y0, y1, n, hl, by simpa using hf 0 f0 rfl, by simpa using hf 1 f1 rfl⟩
theorem trod_structN6 {t : TypeId} {f0 f1 f2 f3 f4 f5 : Field} {fuel : Nat} {cs : List Value} {x : DataW H × List MemPlace} (ht : Try.prog.underlying t = some (.struct #[f0, f1, f2, f3, f4, f5])) (h : DataW.trod enc Try.prog W 0 (fun _ => true) true fuel t cs = some x) :
  ∃ y0 y1 y2 y3 y4 y5 n, cs.length = Try.prog.cellsOf t ∧ DataW.trod enc Try.prog W 0 (fun _ => true) true n f0.type ((cs.drop f0.offset).take (Try.prog.cellsOf f0.type)) = some y0 ∧ DataW.trod enc Try.prog W 0 (fun _ => true) true n f1.type ((cs.drop f1.offset).take (Try.prog.cellsOf f1.type)) = some y1 ∧ DataW.trod enc Try.prog W 0 (fun _ => true) true n f2.type ((cs.drop f2.offset).take (Try.prog.cellsOf f2.type)) = some y2 ∧ DataW.trod enc Try.prog W 0 (fun _ => true) true n f3.type ((cs.drop f3.offset).take (Try.prog.cellsOf f3.type)) = some y3 ∧ DataW.trod enc Try.prog W 0 (fun _ => true) true n f4.type ((cs.drop f4.offset).take (Try.prog.cellsOf f4.type)) = some y4 ∧ DataW.trod enc Try.prog W 0 (fun _ => true) true n f5.type ((cs.drop f5.offset).take (Try.prog.cellsOf f5.type)) = some y5 := by
 obtain ⟨xs, n, _, rfl, hl, hlen, hf⟩ := DataW.trod_struct ht h
 match xs, hlen with
 | [y0, y1, y2, y3, y4, y5], _ => exact ⟨y0, y1, y2, y3, y4, y5, n, hl, by simpa using hf 0 f0 rfl, by simpa using hf 1 f1 rfl, by simpa using hf 2 f2 rfl, by simpa using hf 3 f3 rfl, by simpa using hf 4 f4 rfl, by simpa using hf 5 f5 rfl⟩
theorem u8_of_trod (ht : Try.prog.underlying t = some (.int .u8)) {n0 : Nat} {cs : List Value} {y0 : DataW H × List MemPlace} (hf : DataW.trod enc Try.prog W 0 (fun _ => true) true n0 t cs = some y0) : ∃ a : Nat, cs = [.int .u8 (a : Int)] ∧ a < 256 := by
 obtain ⟨a0, e0, _, w0⟩ := DataW.trod_int (k := .u8) ht hf
 have w0' : 0 ≤ a0 ∧ a0 ≤ 255 := by simpa [Lit.wf, IntKind.min, IntKind.max, IntKind.signed, IntKind.bits] using w0
 exact ⟨a0.toNat, by rw [Int.toNat_of_nonneg w0'.1]; exact e0, by omega⟩
theorem i64_of_trod (ht : Try.prog.underlying t = some (.int .i64)) {n0 : Nat} {cs : List Value} {y0 : DataW H × List MemPlace} (hf : DataW.trod enc Try.prog W 0 (fun _ => true) true n0 t cs = some y0) : ∃ a : Int, cs = [.int .i64 a] ∧ -9223372036854775808 ≤ a ∧ a ≤ 9223372036854775807 := by
 obtain ⟨a0, e0, _, w0⟩ := DataW.trod_int (k := .i64) ht hf
 have w0' : -9223372036854775808 ≤ a0 ∧ a0 ≤ 9223372036854775807 := by simpa [Lit.wf, IntKind.min, IntKind.max, IntKind.signed, IntKind.bits] using w0
 exact ⟨a0, e0, w0'⟩
end
end Go.Proofs.Ytaflikgdlkaefaa
/- Dots: an argument that is a range, or some. -/
namespace Go.Proofs.Ytaflikgdlkaefaa
open Go.RowKit Go.Proofs.Ytaflikgdlkaefaa.Sp
set_option maxRecDepth 20000
section
open Go.Joins Go.ChangeShapes Go.WideShapes Go.ChangeAt Go.RowKit Go.Deep
variable {H : Type} {enc : TypeId × Value → H} {W : World} {base : Nat} {t : TypeId} {v : Value} {d : DataW H} {p : List MemPlace}
theorem One.rg (h : One enc W base 44 v d p) : ∃ s : Rg, v = s.v ∧ s.wfR := by
 have ok := h.ok
 have rd := h.rd
 obtain ⟨v0, v1, y0, y1, n, rfl, _, _, h0, h1⟩ := open_agg2 Try.underlying44 (by kernel_rfl) (by kernel_rfl) ok rd
 obtain ⟨a0, e0, _, w0⟩ := DataW.trod_int (k := .i64) Try.underlying2 h0
 obtain ⟨a1, e1, _, w1⟩ := DataW.trod_int (k := .i64) Try.underlying2 h1
 cases e0; cases e1
 exact ⟨⟨a0, a1⟩, rfl, wf_i64' a0 w0, wf_i64' a1 w1⟩
theorem rg_of_trod (n : Nat) (cs' : List Value) (y : DataW H × List MemPlace) (h : DataW.trod enc Try.prog W 0 (fun _ => true) true n 44 cs' = some y) : ∃ s : Rg, cs' = s.cells ∧ s.wfR := by
 obtain ⟨y0, y1, n', hx, hlen, h0, h1⟩ := trod_struct2 Try.underlying44 h
 have hC : Try.prog.cellsOf 44 = 2 := by kernel_rfl
 have k0 : Try.prog.cellsOf 2 = 1 := by kernel_rfl
 have k1 : Try.prog.cellsOf 2 = 1 := by kernel_rfl
 rw [hC] at hlen
 match cs', hlen with
 | [c0, c1], _ =>
  simp only [k0, k1, List.drop, List.take] at h0 h1
  obtain ⟨a0, e0, _, w0⟩ := DataW.trod_int (k := .i64) Try.underlying2 h0
  obtain ⟨a1, e1, _, w1⟩ := DataW.trod_int (k := .i64) Try.underlying2 h1
  cases e0; cases e1
  exact ⟨⟨a0, a1⟩, rfl, wf_i64' a0 w0, wf_i64' a1 w1⟩
theorem One.rgs (h : One enc W base 40 v d p) : ∃ (A : Option Addr) (c : Nat) (ls : List Rg), v = .slice A ls.length c ∧ Sl W W.heap.size A (rv ls) ∧ ls.length ≤ c ∧ c ≤ maxLen ∧ ∀ s ∈ ls, s.wfR :=
 One.rows Rg.cells 2 (by omega) (fun _ => rfl) Rg.wfR ⟨0, 0⟩ Try.underlying40 (by kernel_rfl) rg_of_trod h
end
end Go.Proofs.Ytaflikgdlkaefaa
/- Dots: an argument that is a dot, or some. -/
namespace Go.Proofs.Ytaflikgdlkaefaa
open Go.RowKit Go.Proofs.Ytaflikgdlkaefaa.Dt
set_option maxRecDepth 20000
section
open Go.Joins Go.ChangeShapes Go.WideShapes Go.ChangeAt Go.RowKit Go.Deep
variable {H : Type} {enc : TypeId × Value → H} {W : World} {base : Nat} {t : TypeId} {v : Value} {d : DataW H} {p : List MemPlace}
theorem One.dot (h : One enc W base 32 v d p) : ∃ s : D2, v = s.v ∧ s.ok := by
 have ok := h.ok
 have rd := h.rd
 obtain ⟨v0, v1, y0, y1, n, rfl, _, _, h0, h1⟩ := open_agg2 Try.underlying32 (by kernel_rfl) (by kernel_rfl) ok rd
 obtain ⟨a0, e0, _, w0⟩ := DataW.trod_int (k := .i64) Try.underlying3 h0
 obtain ⟨a1, e1, _, w1⟩ := DataW.trod_int (k := .i64) Try.underlying2 h1
 cases e0; cases e1
 exact ⟨⟨a0, a1⟩, rfl, wf_i64' a0 w0, wf_i64' a1 w1⟩
theorem dot_of_trod (n : Nat) (cs' : List Value) (y : DataW H × List MemPlace) (h : DataW.trod enc Try.prog W 0 (fun _ => true) true n 32 cs' = some y) : ∃ s : D2, cs' = s.cells ∧ s.ok := by
 obtain ⟨y0, y1, n', hx, hlen, h0, h1⟩ := trod_struct2 Try.underlying32 h
 have hC : Try.prog.cellsOf 32 = 2 := by kernel_rfl
 have k0 : Try.prog.cellsOf 3 = 1 := by kernel_rfl
 have k1 : Try.prog.cellsOf 2 = 1 := by kernel_rfl
 rw [hC] at hlen
 match cs', hlen with
 | [c0, c1], _ =>
  simp only [k0, k1, List.drop, List.take] at h0 h1
  obtain ⟨a0, e0, _, w0⟩ := DataW.trod_int (k := .i64) Try.underlying3 h0
  obtain ⟨a1, e1, _, w1⟩ := DataW.trod_int (k := .i64) Try.underlying2 h1
  cases e0; cases e1
  exact ⟨⟨a0, a1⟩, rfl, wf_i64' a0 w0, wf_i64' a1 w1⟩
theorem One.dots (h : One enc W base 53 v d p) : ∃ (A : Option Addr) (c : Nat) (ls : List D2), v = .slice A ls.length c ∧ Sl W W.heap.size A (dv ls) ∧ ls.length ≤ c ∧ c ≤ maxLen ∧ ∀ s ∈ ls, s.ok :=
 One.rows D2.cells 2 (by omega) (fun _ => rfl) D2.ok ⟨0, 0⟩ Try.underlying53 (by kernel_rfl) dot_of_trod h
end
end Go.Proofs.Ytaflikgdlkaefaa
/- A vector as an argument. -/
namespace Go.Proofs.Ytaflikgdlkaefaa
open Go.RowKit Go.Proofs.Ytaflikgdlkaefaa.Sp Go.Proofs.Ytaflikgdlkaefaa.Ve
set_option maxRecDepth 20000
section
open Go.Joins Go.ChangeShapes Go.WideShapes Go.ChangeAt Go.RowKit Go.Deep
variable {H : Type} {enc : TypeId × Value → H} {W : World} {base : Nat} {t : TypeId} {v : Value} {d : DataW H} {p : List MemPlace}
theorem rgs_of_trod {n0 : Nat} {cs : List Value} {y0 : DataW H × List MemPlace} (hf : DataW.trod enc Try.prog W 0 (fun _ => true) true n0 40 cs = some y0) :
  ∃ (A : Option Addr) (c : Nat) (ls : List Rg), cs = [.slice A ls.length c] ∧ Sl W W.heap.size A (rv ls) ∧ ls.length ≤ c ∧ c ≤ maxLen ∧ ∀ x ∈ ls, x.wfR :=
 rows_of_trod Rg.cells 2 (by omega) (fun _ => rfl) Rg.wfR ⟨0, 0⟩ Try.underlying40 (by kernel_rfl) rg_of_trod hf
theorem row_of_trod (n : Nat) (cs' : List Value) (y : DataW H × List MemPlace) (h : DataW.trod enc Try.prog W 0 (fun _ => true) true n 61 cs' = some y) : ∃ q : RA, cs' = q.cells ∧ RSt W q := by
 obtain ⟨x0, x1, n', hl, h0, h1⟩ := trod_structN2 Try.underlying61 h
 have hC : Try.prog.cellsOf 61 = 2 := by kernel_rfl
 have k0 : Try.prog.cellsOf 3 = 1 := by kernel_rfl
 have k1 : Try.prog.cellsOf 40 = 1 := by kernel_rfl
 rw [hC] at hl
 match cs', hl with
 | [c0, c1], _ =>
  simp only [k0, k1, List.drop, List.take] at h0 h1
  obtain ⟨a0, e0, w0, w0'⟩ := i64_of_trod Try.underlying3 h0
  obtain ⟨A, c, ls, e1, b1, b2, b3, _⟩ := rgs_of_trod h1
  cases e0; cases e1
  exact ⟨⟨a0, A, c, ls⟩, rfl, b1, b2, b3⟩
theorem One.vec (h : One enc W base 27 v d p) : ∃ (A : Option Addr) (n c : Nat) (R : List RA) (V : VL), v = .agg #[.slice A n c] ∧ VS W A n c R V := by
 have ok := h.ok
 have rd := h.rd
 obtain ⟨cs, rfl, hsz⟩ := okWide_struct Try.underlying27 ok
 have hC : Try.prog.cellsOf 27 = 1 := by kernel_rfl
 have k0 : Try.prog.cellsOf 25 = 1 := by kernel_rfl
 rw [hC] at hsz
 obtain ⟨fuel, hf⟩ := rd
 obtain ⟨c0, rfl⟩ : ∃ c0, cs = #[c0] := Array.size_eq_one_iff.1 hsz
 obtain ⟨y0, n, hx, hlen, h0⟩ := trod_struct1 Try.underlying27 hf
 simp only [Value.cells, k0, List.drop, List.take] at h0
 obtain ⟨A, c, ls, e0, b1, b2, b3, b4⟩ := rows_of_trod RA.cells 2 (by omega) (fun _ => rfl) (RSt W) z0RA Try.underlying25 (by kernel_rfl) row_of_trod h0
 injection e0 with e0 _
 subst e0
 exact ⟨A, ls.length, c, ls, ls.map RA.p, rfl, rfl, b2, b3, b1, b4, rfl⟩
end
end Go.Proofs.Ytaflikgdlkaefaa
/- The walk of VectorBytes. -/
namespace Go.Proofs.Ytaflikgdlkaefaa
open Go.RowKit Go.Maps Go.Proofs.Ytaflikgdlkaefaa.Pl Go.Proofs.Ytaflikgdlkaefaa.Sp Go.Proofs.Ytaflikgdlkaefaa.Ve
set_option maxRecDepth 20000

/-- one of the two vectors -/
def TwoV (w : World) (u : Value) : Prop := ∃ A n c R V, u = .slice A n c ∧ VS w A n c R V ∧ n ≤ 70 ∧ Lim 120 V
theorem TwoV.below {w w' : World} {u : Value} (h : TwoV w u) (hb : Below w.heap.size w w') : TwoV w' u := by
 obtain ⟨A, n, c, R, V, e, hv, hn, hl⟩ := h
 exact ⟨A, n, c, R, V, e, hv.below hb, hn, hl⟩
set_option maxRecDepth 100000 in
set_option maxHeartbeats 12800000 in
theorem VectorBytes_walk (w : World) (A : Option Addr) (n c : Nat) (R : List RA) (V : VL) (hv : VS w A n c R V) (A' : Option Addr) (c' : Nat) (x : List Nat) (hx : Sl w w.heap.size A' (wv x)) (hxl : ∀ m ∈ x, m < 65536) (A'' : Option Addr) (c'' : Nat) (t : List UInt8) (ht : Sl w w.heap.size A'' (bv t)) (htl : t.length ≤ 1048576) :
  Calls Try.prog 5 #[.agg #[.slice A n c], .slice A' x.length c', .slice A'' t.length c''] w fun e w' => e = .returned (.bool true) ∧ Below w.heap.size w w' := by
 have hb0 : Below w.heap.size w (w.alloc (.cells #[.slice A n c] 27)) := balloc (Below.refl _ _) _
 have a0 : At (w.alloc (.cells #[.slice A n c] 27)) w.heap.size [.slice A n c] := At.new w 27 #[.slice A n c]
 obtain ⟨nx, hnx⟩ : ∃ m, x.length = m := ⟨_, rfl⟩
 obtain ⟨nt, hnt⟩ : ∃ m, t.length = m := ⟨_, rfl⟩
 rw [hnx, hnt]
 have HV := Lib.hid (And.intro (hv.below hb0) (And.intro ((hx.below hb0).more hb0.size) (And.intro ((ht.below hb0).more hb0.size) (And.intro a0 (And.intro hxl (And.intro hnx (And.intro hnt (And.intro htl hb0))))))))
 clear hv hx ht a0 hxl hnx hnt htl hb0
 go_enter Try.func5, Try.ntmps5
 go_wp2_with fail
 generalize w.alloc (.cells #[.slice A n c] 27) = W0 at *
 refine (vknown_any W0).mono ?_
 rintro e w1 ⟨rfl, h1⟩
 have y0 := (HV.out.2.2.2.1.below h1).c 0 rfl
 have HL := Lib.hid (Light_any w1 A n c R V (HV.out.1.below h1))
 have H1 := Lib.hid h1
 clear h1
 go_wp2_with fail
 refine HL.out.mono ?_
 rintro e w2 ⟨rfl, h2⟩
 have B2 := Lib.hid (H1.out.trans (h2.mono H1.out.size))
 have hbz := HV.out.2.2.2.2.2.2.2.2.trans (B2.out.mono HV.out.2.2.2.2.2.2.2.2.size)
 obtain ⟨lt, hlt⟩ : ∃ b, lightV V = b := ⟨_, rfl⟩
 rw [hlt]
 have HLT := Lib.hid hlt
 clear h2 hlt y0 HL H1
 cases lt with
 | false =>
  go_wp2_with fail
  go_ret
  exact ⟨rfl, hbz⟩
 | true =>
  by_cases q1 : 60 < nx
  ·have hd1 : decide ((60 : Int) < (nx : Int)) = true := by rw [decide_eq_true_eq]; omega
   go_wp2_with fail
   go_ret
   exact ⟨rfl, hbz⟩
  have hd1 : decide ((60 : Int) < (nx : Int)) = false := by rw [decide_eq_false_iff_not]; omega
  have y0 := (HV.out.2.2.2.1.below B2.out).c 0 rfl
  go_wp2_with fail
  have e0 := cellB y0
  have hb0 : Below w2.heap.size w2 w2.drew := (Below.refl _ w2).drew
  refine bstartH (w2.heap) (by kernel_rfl) ?_
  refine btake 0 (oi := _) (v := ?_) (by simp only [List.getElem?_toArray, List.getElem?_cons_zero]; rfl) (by kernel_rfl) (by exact fun _ _ _ h => h) (by first | assumption | exact KB.refl _) (.inl ⟨by rfl, fun W hW => ?_⟩) ?_; rotate_left
  ·(go_simp; first | done | with_reducible rfl)
  try simp only [Act.put, List.setIfInBounds_toArray, List.set_cons_zero, List.set_cons_succ]
  refine btake 1 (oi := _) (v := ?_) (by simp only [getElem?_toArray, getElem?_cons_succ, getElem?_cons_zero]; rfl) (by kernel_rfl) (by exact fun _ _ _ h => h) (by first | assumption | exact KB.refl _) (.inl ⟨by rfl, fun W hW => ?_⟩) ?_; rotate_left
  ·(go_simp; first | done | with_reducible rfl)
  try simp only [Act.put, List.setIfInBounds_toArray, List.set_cons_zero, List.set_cons_succ]
  refine btake 5 (oi := _) (v := ?_) (by simp only [getElem?_toArray, getElem?_cons_succ, getElem?_cons_zero]; rfl) (by kernel_rfl) (by exact fun _ _ _ h => h) (by first | assumption | exact KB.refl _) (.inl ⟨by rfl, fun W hW => ?_⟩) ?_; rotate_left
  ·(go_simp; first | done | with_reducible rfl)
  try simp only [Act.put, List.setIfInBounds_toArray, List.set_cons_zero, List.set_cons_succ]
  refine bopH 2 (o := _) (by simp only [getElem?_toArray, getElem?_cons_succ, getElem?_cons_zero]; rfl) (by kernel_rfl) (by first | assumption | exact KB.refl _) (by rfl) (fun K hK => ?_)
  go_simp
  refine (SVec_own w2.drew A' nx c' x ((HV.out.2.1.below (B2.out.trans (hb0.mono B2.out.size))).more (Nat.le_trans B2.out.size hb0.size)) HV.out.2.2.2.2.2.1.symm (by omega) HV.out.2.2.2.2.1).mono ?_
  rintro e w3 ha
  obtain ⟨A3, n3, c3, R3, rfl, hv3, h3⟩ := ha.ans
  have B3 := Lib.hid (hb0.trans (h3.mono hb0.size))
  have hkb : KB w2.heap w3 := KB.of B3.out
  have V3 := Lib.hid hv3
  clear h3 ha hv3
  refine hK.out _ _ hkb ?_; clear hK K
  try simp only [Act.put, List.setIfInBounds_toArray, List.set_cons_zero, List.set_cons_succ]
  refine bopH 3 (o := _) (by simp only [getElem?_toArray, getElem?_cons_succ, getElem?_cons_zero]; rfl) (by kernel_rfl) (by first | assumption | exact KB.refl _) (by rfl) (fun K hK => ?_)
  go_simp
  have hbA := balloc (Below.refl w3.heap.size w3) (.cells #[.slice A n c, .slice A3 n3 c3] 27)
  have B4 := Lib.hid (B3.out.trans (hbA.mono B3.out.size)).drew
  have hkb : KB w2.heap (w3.alloc (.cells #[.slice A n c, .slice A3 n3 c3] 27)).drew := KB.of B4.out
  clear hbA
  refine hK.out _ _ hkb ?_; clear hK K
  try simp only [Act.put, List.setIfInBounds_toArray, List.set_cons_zero, List.set_cons_succ]
  refine btake 4 (oi := _) (v := ?_) (by simp only [getElem?_toArray, getElem?_cons_succ, getElem?_cons_zero]; rfl) (by kernel_rfl) (by exact fun _ _ _ h => h) (by first | assumption | exact KB.refl _) (.inl ⟨by rfl, fun W hW => ?_⟩) ?_; rotate_left
  ·(go_simp; first | done | with_reducible rfl)
  try simp only [Act.put, List.setIfInBounds_toArray, List.set_cons_zero, List.set_cons_succ]
  refine bdone (by kernel_rfl) ?_
  have hbA := balloc (Below.refl w3.heap.size w3) (.cells #[.slice A n c, .slice A3 n3 c3] 27)
  have B5 := B3.out.trans (hbA.mono B3.out.size)
  have aA := At.new w3 27 #[.slice A n c, .slice A3 n3 c3]
  have hvA := (HV.out.1.below B2.out).below B5
  have hvB := V3.out.below hbA
  have hn70 : n ≤ 70 := by rw [← hvA.len]; exact (lightV_lim HLT.out).2
  have hn64 : n3 ≤ 64 := hvB.one (ofV_right _)
  have hlB : Lim 120 (vecX x) := ofV_lim.mono (by have := xds_len x; have := HV.out.2.2.2.2.2.1; omega)
  have hT : ∀ k : Nat, k < 2 → ∃ u, [Value.slice A n c, Value.slice A3 n3 c3][k]? = some u ∧ TwoV (w3.alloc (.cells #[.slice A n c, .slice A3 n3 c3] 27)) u := fun k hk => by
   match k, hk with
   | 0, _ => exact ⟨_, rfl, A, n, c, R, V, rfl, hvA, hn70, (lightV_lim HLT.out).1.mono (by omega)⟩
   | 1, _ => exact ⟨_, rfl, A3, n3, c3, R3, vecX x, rfl, hvB, by omega, hlB⟩
  have B25 := B2.out.trans (B5.mono B2.out.size)
  have ht5 := (HV.out.2.2.1.below B25).more B25.size
  have hb5 := HV.out.2.2.2.2.2.2.2.2.trans (B25.mono HV.out.2.2.2.2.2.2.2.2.size)
  have HS := Lib.hid (And.intro aA (And.intro hT (And.intro ht5 hb5)))
  have HTL := Lib.hid (And.intro HV.out.2.2.2.2.2.2.1 HV.out.2.2.2.2.2.2.2.1)
  clear hbA B5 aA hvA hvB hn70 hn64 hlB hT B25 ht5 hb5 HV B2 HLT B3 V3 B4 hkb e0 hb0 hbz y0
  generalize w3.alloc (.cells #[.slice A n c, .slice A3 n3 c3] 27) = W5 at *
  generalize w3.heap.size = g5 at *
  go_wp2_with fail
  go_loopw [32] (fun x32 wr => ∃ (k : Nat), k ≤ 2 ∧ x32 = .int .i64 (k : Int) ∧ Below W5.heap.size W5 wr) (fun x32 _ => 2 - (intOf x32).toNat)
  case atStart => exact ⟨0, by omega, rfl, Below.refl _ _⟩
  case round =>
   obtain ⟨k, hk, rfl, hbel⟩ := hrel
   by_cases hlt : k < 2
   ·obtain ⟨u, hu, hTw⟩ := HS.out.2.1 k hlt
    have ck := (HS.out.1.below hbel).c k hu
    obtain ⟨Av, nv, cv, Rv, Vv, rfl, hv, hnv, hlv⟩ := hTw
    have hd1 : decide ((k : Int) < 2) = true := by rw [decide_eq_true_eq]; omega
    have hn0 : (0 : Int) ≤ (k : Int) := by omega
    have hn1 : (k : Int) < 2 := by omega
    have hbx := balloc (Below.refl wr.heap.size wr) (.cells #[.slice Av nv cv] 27)
    have abx := At.new wr 27 #[.slice Av nv cv]
    have hvx := (hv.below hbel).below hbx
    have hb7 := hbel.trans (hbx.mono hbel.size)
    have HX := Lib.hid (And.intro hvx (And.intro abx (And.intro hlv hb7)))
    clear hu hv hlv hbx abx hvx hb7
    go_wp2_with fail
    clear ck
    generalize wr.alloc (.cells #[.slice Av nv cv] 27) = W7 at *
    generalize wr.heap.size = gx at *
    refine (VBytes_any W7 Av nv cv Rv Vv HX.out.1 (by omega) (HX.out.2.2.1.mono (by omega))).mono ?_
    rintro e w8 ⟨A9, c9, rfl, hown9, h8⟩
    have HO := Lib.hid (And.intro hown9 h8)
    obtain ⟨n9, hn9⟩ : ∃ m, (bytesV Vv).length = m := ⟨_, rfl⟩
    rw [hn9] at HO ⊢
    have HN := Lib.hid hn9
    clear hown9 h8 hn9
    go_wp2_with fail
    have e0 := (HX.out.2.1.below HO.out.2).e 0 rfl
    have hsb : Sl w8 w8.heap.size A9 (bv (bytesV Vv)) ∧ n9 ≤ c9 ∧ c9 ≤ maxLen := by
     have h1 := HO.out.1
     rw [← HN.out] at h1
     have h2 := h1.sl
     rw [HN.out] at h2
     exact h2
    have hcB := convB hsb.1 n9 c9 HN.out.symm
    have hb0 : Below w8.heap.size w8 w8.drew := (Below.refl _ w8).drew
    have HSB := Lib.hid hsb
    clear hsb
    refine bstart (by kernel_rfl) ?_
    refine btake 0 (oi := _) (v := ?_) (by simp only [List.getElem?_toArray, List.getElem?_cons_zero]; rfl) (by kernel_rfl) (by exact fun _ _ _ h => h) (by first | assumption | exact KB.refl _) (.inl ⟨by rfl, fun W hW => ?_⟩) ?_; rotate_left
    ·(go_simp; first | done | with_reducible rfl)
    try simp only [Act.put, List.setIfInBounds_toArray, List.set_cons_zero, List.set_cons_succ]
    refine btake 1 (oi := _) (v := ?_) (by simp only [getElem?_toArray, getElem?_cons_succ, getElem?_cons_zero]; rfl) (by kernel_rfl) (by exact fun _ _ _ h => h) (by first | assumption | exact KB.refl _) (.inl ⟨by rfl, fun W hW => ?_⟩) ?_; rotate_left
    ·(go_simp; first | done | with_reducible rfl)
    try simp only [Act.put, List.setIfInBounds_toArray, List.set_cons_zero, List.set_cons_succ]
    refine btake 2 (oi := _) (v := ?_) (by simp only [getElem?_toArray, getElem?_cons_succ, getElem?_cons_zero]; rfl) (by kernel_rfl) (by exact fun _ _ _ h => h) (by first | assumption | exact KB.refl _) (.inl ⟨by rfl, fun W hW => ?_⟩) ?_; rotate_left
    ·(go_simp; first | done | with_reducible rfl)
    try simp only [Act.put, List.setIfInBounds_toArray, List.set_cons_zero, List.set_cons_succ]
    refine bop 3 (o := _) (by simp only [getElem?_toArray, getElem?_cons_succ, getElem?_cons_zero]; rfl) (by kernel_rfl) (by first | assumption | exact KB.refl _) (by rfl) (fun K hK => ?_)
    go_simp
    refine (RVBytes_any w8.drew Av nv cv Rv Vv (HX.out.1.below (HO.out.2.trans (hb0.mono HO.out.2.size))) (by omega) (HX.out.2.2.1.mono (by omega))).mono ?_
    rintro e w10 ⟨Az, cz, rfl, hownz, hz⟩
    have hcR := convB (Fresh.sl hownz).1 _ cz rfl
    have B10 := Lib.hid (hb0.trans (hz.mono hb0.size))
    have hkb : KB w8.heap w10 := KB.of B10.out
    clear hownz hz
    refine hK.out _ _ hkb ?_; clear hK K
    try simp only [Act.put, List.setIfInBounds_toArray, List.set_cons_zero, List.set_cons_succ]
    refine btake 4 (oi := _) (v := ?_) (by simp only [getElem?_toArray, getElem?_cons_succ, getElem?_cons_zero]; rfl) (by kernel_rfl) (by exact fun _ _ _ h => h) (by first | assumption | exact KB.refl _) (.inl ⟨by rfl, fun W hW => ?_⟩) ?_; rotate_left
    ·(go_simp; first | done | with_reducible rfl)
    try simp only [Act.put, List.setIfInBounds_toArray, List.set_cons_zero, List.set_cons_succ]
    refine btake 5 (oi := _) (v := ?_) (by simp only [getElem?_toArray, getElem?_cons_succ, getElem?_cons_zero]; rfl) (by kernel_rfl) (by exact fun _ _ _ h => h) (by first | assumption | exact KB.refl _) (.inl ⟨by rfl, fun W hW => ?_⟩) ?_; rotate_left
    ·(go_simp; first | done | with_reducible rfl)
    try simp only [Act.put, List.setIfInBounds_toArray, List.set_cons_zero, List.set_cons_succ]
    refine bdone (by kernel_rfl) ?_
    clear hkb hb0 e0 hcB hcR
    have B710 := HO.out.2.trans (B10.out.mono HO.out.2.size)
    have yx := (HX.out.2.1.below B710).c 0 rfl
    obtain ⟨pr, hpr⟩ : ∃ b, rightV Vv = b := ⟨_, rfl⟩
    have HRT := Lib.hid hpr
    have HRG := Lib.hid (VRight_any w10 Av nv cv Rv Vv (HX.out.1.below B710) (by omega) (HX.out.2.2.1.mono (by omega)))
    have H710 := Lib.hid B710
    clear B710 hpr
    go_wp2_with fail
    refine HRG.out.mono ?_
    rintro e w11 ⟨rfl, h11⟩
    rw [HRT.out]
    have B11 := Lib.hid (H710.out.trans (h11.mono H710.out.size))
    have B811 := Lib.hid (B10.out.trans (h11.mono B10.out.size))
    clear h11 yx HRG H710 B10
    cases pr with
    | false =>
     have hz : n9 = 0 := by rw [← HN.out, bytesV, if_neg (by rw [HRT.out]; simp)]; rfl
     have hbz := HX.out.2.2.2.trans (B11.out.mono HX.out.2.2.2.size)
     subst hz
     go_wp2_with fail
     go_roundw
     case rel => exact ⟨k + 1, by omega, by go_num, hbz⟩
     case measure => simp [intOf]; omega
    | true =>
     have hlen : ∀ p ∈ Vv, p.2.length < 18446744073709551616 := fun p hp => by have := HX.out.2.2.1 p hp; omega
     have hn1 : 1 ≤ n9 := by rw [← HN.out]; exact enc_len_small HRT.out
     have hn9l : n9 ≤ 200000 := by
      have h1 := bytesV_le HX.out.2.2.1
      have h2 := HX.out.1.len
      have h3 : Vv.length * (20 * 120 + 21) ≤ 70 * (20 * 120 + 21) := Nat.mul_le_mul_right _ (by omega)
      have h4 := HN.out
      omega
     have htll := HTL.out.2
     have HTK := Lib.hid (And.intro (takeV_bytes HRT.out hlen t) (fun j (hj : j < n9) => takeV_less HRT.out hlen (k := j) (by rw [HN.out]; exact hj)))
     have hs11 := (HSB.out.1.below B811.out).more B811.out.size
     have B511 := HX.out.2.2.2.trans (B11.out.mono HX.out.2.2.2.size)
     have ht11 := (HS.out.2.2.1.below B511).more B511.size
     have HSL := Lib.hid (And.intro hs11 ht11)
     clear hlen hs11 ht11
     go_wp2_with (first | (at_builtin; refine app rfl rfl (OwnB.nil w11 w11.heap.size) HSL.out.1 HN.out.symm rfl rfl (by have := HN.out; simp; omega) (Nat.le_refl _) ?_; intro v12 w12 hown12 hg12 hat12) | (at_builtin; refine app rfl rfl hown12 ((HSL.out.2.below (below_of_grown hg12 (by simp [Value.ownBlock]) (Nat.le_refl _))).more hg12.size) HTL.out.1.symm rfl rfl (by have := HN.out; simp; omega) hg12.size ?_; intro v13 w13 hown13 hg13 hat13))
     have hb12 : Below w11.heap.size w11 w12 := below_of_grown hg12 (by simp [Value.ownBlock]) (Nat.le_refl _)
     have hb13 : Below w11.heap.size w11 w13 := own_below hb12 hb12.size hown12 hg13
     rw [List.nil_append] at hown13
     obtain ⟨A13, c13, rfl, hc13, hm13, hs13, _⟩ := hown13.form
     have hTk := VTake_any w13 A13 _ c13 (bytesV Vv ++ t) hs13 rfl hc13 hm13 (by have := HN.out; have := HTL.out.1; rw [List.length_append]; omega)
     rw [HTK.out.1] at hTk
     have HTk := Lib.hid hTk
     have B13 := Lib.hid (B11.out.trans (hb13.mono B11.out.size))
     have B813 := Lib.hid (B811.out.trans (hb13.mono B811.out.size))
     clear hTk hown12 hown13 hg12 hg13 hat12 hat13 hb12 hb13 hs13 hc13 hm13 B511
     refine HTk.out.mono ?_
     rintro e w14 ⟨A14, n14, c14, R14, rfl, hv14, h14⟩
     dsimp only at hv14 ⊢
     rw [HN.out]
     have hl14 : n14 = nv := by rw [← hv14.len]; exact HX.out.1.len
     subst hl14
     have hbb := balloc (Below.refl w14.heap.size w14) (.cells #[.slice A14 n14 c14] 27)
     have B15 := B13.out.trans ((h14.trans (hbb.mono h14.size)).mono B13.out.size)
     have B815 := B813.out.trans ((h14.trans (hbb.mono h14.size)).mono B813.out.size)
     have yx := (HX.out.2.1.below B15).c 0 rfl
     have hsame := Same_any _ A14 Av n14 n14 c14 cv R14 Rv Vv Vv (hv14.below hbb) (HX.out.1.below B15) (by omega) (by omega) (HX.out.2.2.1.mono (by omega)) (HX.out.2.2.1.mono (by omega))
     rw [show sameV Vv Vv = true by rw [sameV, HRT.out]; simp] at hsame
     have H15 := Lib.hid (And.intro hsame (And.intro B15 B815))
     have hd2 : decide ((n9 : Int) < 1) = false := by rw [decide_eq_false_iff_not]; omega
     clear hsame B15 B815 hbb hv14 h14 HTk
     go_wp2_with fail
     refine H15.out.1.mono ?_
     rintro e w16 ⟨rfl, h16⟩
     have B816 := Lib.hid (H15.out.2.2.trans (h16.mono H15.out.2.2.size))
     have B516 := Lib.hid (HX.out.2.2.2.trans ((H15.out.2.1.trans (h16.mono H15.out.2.1.size)).mono HX.out.2.2.2.size))
     clear h16 yx H15
     go_wp2_with fail
     go_loopw [13] (fun x13 wr => ∃ (j : Nat), j ≤ n9 ∧ x13 = .int .i64 (j : Int) ∧ Below w16.heap.size w16 wr) (fun x13 _ => n9 - (intOf x13).toNat)
     case atStart => exact ⟨0, by omega, rfl, Below.refl _ _⟩
     case round =>
      obtain ⟨j, hj, rfl, hbj⟩ := hrel
      by_cases hjl : j < n9
      ·have hd3 : decide ((j : Int) < (n9 : Int)) = true := by rw [decide_eq_true_eq]; omega
       have hm2 : c9 ≤ 9223372036854775807 := by have := HSB.out.2.2; simp only [maxLen] at this; omega
       have hjc : j ≤ c9 := by have := HSB.out.2.1; omega
       have i1 : (j : Int) ≤ (c9 : Int) := by omega
       have hsj : Sl wr wr.heap.size A9 (bv ((bytesV Vv).take j)) := by
        have h1 := B816.out.trans (hbj.mono B816.out.size)
        rw [← bv_take]
        exact (((HSB.out.1.below h1).more h1.size).tk j)
       have hTk := VTake_any _ A9 j c9 ((bytesV Vv).take j) hsj (by rw [List.length_take, HN.out]; omega) hjc HSB.out.2.2 (by omega)
       rw [HTK.out.2 j hjl] at hTk
       have HTk := Lib.hid hTk
       clear hTk hsj
       go_wp2_with fail
       refine HTk.out.mono ?_
       rintro e w17 ⟨A17, n17, c17, R17, rfl, _, h17⟩
       have hbz := hbj.trans ((h17.trans ((balloc (Below.refl w17.heap.size w17) (.cells #[.slice A17 n17 c17] 27)).mono h17.size)).mono hbj.size)
       dsimp only
       go_wp2_with fail
       go_roundw
       case rel => exact ⟨j + 1, by omega, by go_num, hbz⟩
       case measure => simp [intOf]; omega
      ·obtain rfl : j = n9 := by omega
       have hd3 : decide ((j : Int) < (j : Int)) = false := by rw [decide_eq_false_iff_not]; omega
       have hbz := B516.out.trans (hbj.mono B516.out.size)
       go_wp2_with fail
       go_roundw
       case rel => exact ⟨k + 1, by omega, by go_num, hbz⟩
       case measure => simp [intOf]; omega
   ·obtain rfl : k = 2 := by omega
    have hd1 : decide (((2 : Nat) : Int) < 2) = false := by rw [decide_eq_false_iff_not]; omega
    have hbz := HS.out.2.2.2.trans (hbel.mono HS.out.2.2.2.size)
    go_wp2_with fail
    go_ret
    exact ⟨rfl, hbz⟩
end Go.Proofs.Ytaflikgdlkaefaa
/- 'VectorBytes': whatever comes in, the law returns true and leaves it as it was. CONDITION: what comes in holds together at most 1048576 values and letters. -/
namespace Go.Proofs.Ytaflikgdlkaefaa.vectorBytesUpto
open Go.RowKit

theorem walk {H : Type} {enc : TypeId × Value → H} (W : World) (args : Array Value) (ds : List (DataW H)) (p : List MemPlace) (h : Args enc Try.f5 W args ds p) (hk : Rows.uptoBulkAll ds ≤ 1048576) :
  Calls Try.prog 5 args W fun e W' => e = .returned (.bool true) ∧ Below W.heap.size W W' := by
 obtain ⟨base, vs, rfl, m0⟩ := h.many (ts := [27, 22, 46]) (by rw [Try.params5])
 obtain ⟨v0, vs1, d0, ds1, p0, q0, rfl, rfl, o0, m1⟩ := m0.cons
 obtain ⟨v1, vs2, d1, ds2, p1, q1, rfl, rfl, o1, m2⟩ := m1.cons
 obtain ⟨v2, vs3, d2, ds3, p2, q2, rfl, rfl, o2, m3⟩ := m2.cons
 obtain ⟨rfl, rfl⟩ := m3.nil
 obtain ⟨A0, n0, c0, R0, V0, rfl, h0⟩ := o0.vec
 obtain ⟨A1, c1, l1, rfl, h1a, h1b, h1c, h1e, h1d⟩ := o1.u16s
 obtain ⟨A2, c2, l2, rfl, h2a, h2b, h2c, h2d⟩ := o2.bytes
 simp only [Rows.uptoBulkAll] at hk
 exact VectorBytes_walk W A0 n0 c0 R0 V0 h0 A1 c1 l1 h1a h1e A2 c2 l2 h2a (by omega)

theorem types : ∀ t ∈ Try.f5.params.toList, Try.prog.readableRec t = true ∧ t < Try.prog.types.size := by
 rw [Try.params5]
 intro t ht
 simp only [List.mem_cons, List.not_mem_nil, or_false] at ht
 rcases ht with rfl | rfl | rfl
 all_goals exact ⟨by kernel_rfl, of_decide_eq_true (by kernel_rfl)⟩
theorem fits (H : Type) (ds : List (DataW H)) (hl : ds.length = Try.f5.params.toList.length) : Rows.vectorBytesSpec.fn H (ds ++ []) = { results := [.lit (.bool true)], args := ds } := by
 rw [Try.params5] at hl
 match ds, hl with
 | [d0, d1, d2], _ => rfl

set_option maxRecDepth 100000 in
theorem over : Rows.vectorBytesUptoRow.holds Try.pinned (Rows.OpenSpec.upto Rows.vectorBytesSpec) :=
 OpenClaim.holds_of_cond 5 Try.f5 rfl rfl rfl rfl rfl rfl rfl ⟨rfl, rfl, rfl, rfl, rfl⟩ rfl rfl rfl rfl rfl (by kernel_rfl) Try.func5 (by kernel_rfl)
  (of_decide_eq_true (by kernel_rfl)) (by unfold Func.isWrapper; first | (rw [if_pos (by decide +kernel)]; kernel_rfl) | (rw [if_neg (by decide +kernel)]; exact ⟨rfl, rfl⟩))
  (fun os started H enc _ F => liftedU 5 Try.f5 Rows.vectorBytesSpec Try.func5 (by kernel_rfl) rfl rfl types fits os started H enc F
   (OpenSpec.witness (enc := enc) (C := Try.checked) (s := Rows.OpenSpec.upto Rows.vectorBytesSpec) (k := Rows.uptoSmall) rfl false ⟨#[], #[.agg #[.slice none 0 0], .slice none 0 0, .slice none 0 0], []⟩ 8 (by kernel_rfl) (by kernel_rfl) (by kernel_rfl)
    (x := ([.agg [.nil], .nil, .nil], [], [])) (by kernel_rfl) rfl (by kernel_rfl))
   (fun W args ds p h hk => walk W args ds p h hk))

theorem proved : Rows.VectorBytesUptoSaid := over
end Go.Proofs.Ytaflikgdlkaefaa.vectorBytesUpto
