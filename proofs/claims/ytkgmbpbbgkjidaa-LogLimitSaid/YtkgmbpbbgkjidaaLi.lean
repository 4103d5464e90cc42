/- Records: the iterator. -/
import Derived.Test.YtkgmbpbbgkjidaaRan
import Derived.Test.YtkgmbpbbgkjidaaLo
namespace Go.Proofs.Ytkgmbpbbgkjidaa
open Go.RowKit Go.Shelf Go.Proofs.Ytkgmbpbbgkjidaa.Pl Go.Proofs.Ytkgmbpbbgkjidaa.Pc
attribute [local go_sem] Oper.semAt_some

/-- a record as it is handed on: where it lies, its bytes, how far it goes -/
structure RecX where
  A : Option Addr
  l : List UInt8
  c : Nat
  e : Nat
def RecX.encs (x : RecX) : Array Value := #[.slice x.A x.l.length x.c, .int .i64 (x.e : Int)]
def RecX.R (pre : List RecX) (x : RecX) (W : World) : Prop := Sl W W.heap.size x.A (bv x.l) ∧ x.l.length ≤ x.c ∧ x.c ≤ maxLen ∧ x.l.length ≤ 65536 ∧ pre.length < 400000
def lastE (xs : List RecX) : Nat := match xs.getLast? with
  | none => 0
  | some x => x.e
theorem lastE_snoc (xs : List RecX) (x : RecX) : lastE (xs ++ [x]) = x.e := by simp [lastE]
def ScanIs (b : List UInt8) (xs : List RecX) : Prop := Lg.scan b = (xs.map RecX.l, lastE xs)
/-- so far -/
def ScanTo (b : List UInt8) (o : Nat) (pre : List RecX) : Prop := lastE pre = o ∧ (o ≤ b.length ∧ pre.length ≤ o) ∧ Lg.scan b = (pre.map RecX.l ++ (Lg.scan (b.drop o)).1, o + (Lg.scan (b.drop o)).2)
theorem ScanTo.start (b : List UInt8) : ScanTo b 0 [] := ⟨rfl, ⟨Nat.zero_le _, Nat.le_refl _⟩, by simp⟩
theorem ScanTo.done {b : List UInt8} {o : Nat} {pre : List RecX} (h : ScanTo b o pre) (hn : Lg.oneR (b.drop o) = none) : ScanIs b pre := by
  obtain ⟨h1, h2, h3⟩ := h
  unfold ScanIs
  rw [h3, Lg.scan_none hn, h1]
  simp
theorem ScanTo.step {b : List UInt8} {o k : Nat} {pre : List RecX} (h : ScanTo b o pre) {x : RecX} (hs : Lg.oneR (b.drop o) = some (x.l, k)) (he : x.e = o + k) : ScanTo b (o + k) (pre ++ [x]) := by
  obtain ⟨h1, h2, h3⟩ := h
  obtain ⟨g1, g2, _, _⟩ := Lg.oneR_some hs
  rw [List.length_drop] at g1
  refine ⟨by rw [lastE_snoc, he], ⟨by omega, by rw [List.length_append, List.length_singleton]; omega⟩, ?_⟩
  rw [h3, Lg.scan_some hs, List.drop_drop]
  simp [Nat.add_assoc]
/-- what lay below a block, and one block above it, stand -/
def KpB (n₀ Bn : Nat) (W W' : World) : Prop := Below n₀ W W' ∧ W'.heap[Bn]? = W.heap[Bn]?
theorem KpB.of {n₀ Bn : Nat} {W W' : World} (h : Below W.heap.size W W') (h0 : n₀ ≤ W.heap.size) (h1 : Bn < W.heap.size) : KpB n₀ Bn W W' := ⟨h.mono h0, h.block Bn h1⟩
theorem KpB.trans {n₀ Bn : Nat} {A B C : World} (h : KpB n₀ Bn A B) (h' : KpB n₀ Bn B C) : KpB n₀ Bn A C := ⟨h.1.trans h'.1, h'.2.trans h.2⟩
set_option maxRecDepth 100000 in
set_option maxHeartbeats 3200000 in
theorem records1_in (n l Bn n₀ : Nat) (A : Option Addr) (nb c : Nat) (b : List UInt8) (h0 : nb = b.length) (hc : nb ≤ c) (hm : c ≤ maxLen) (hbl : b.length ≤ 300000) (J : List RecX → World → Prop)
    (hJ : ∀ s X Y, J s X → Below X.heap.size X Y → J s Y)
    (hY : ∀ pre x W1, J pre W1 → RecX.R pre x W1 → YieldAt Fence.wide (n - 1) Try.prog l x.encs W1 fun e W' => e = .returned (.bool true) ∧ J (pre ++ [x]) W' ∧ KpB n₀ Bn W1 W')
    (W : World) (hBn : W.cell? ⟨Bn, 0, none⟩ = some (.slice A nb c)) (hn₀ : n₀ ≤ W.heap.size) (hL : Sl W n₀ A (bv b)) (hJ0 : J [] W) :
    CallsIn Fence.wide n Try.prog 57 #[.func (.yield l) #[] #[], .pointer (some ⟨Bn, 0, none⟩)] W fun e W' => (∃ v, e = .returned v) ∧ ∃ xs, ScanIs b xs ∧ J xs W' := by
  refine callsIn_of_wp Try.func57 rfl trivial ?_ rfl
  simp only [Try.ntmps57, List.size_toArray, List.length_cons, List.length_nil, Nat.reduceAdd, Nat.reduceSub, Array.replicate_succ, Array.replicate_zero, List.push_toArray, List.append_toArray, List.nil_append, List.cons_append]
  have H0 := Lib.hid h0
  clear h0
  gi_wp2
  gi_loopw [3] (fun p wr => ∃ (pre : List RecX) (o : Nat), p = .int .i64 (o : Int) ∧ ScanTo b o pre ∧ J pre wr ∧ KpB n₀ Bn W wr) (fun p _ => nb - (intOf p).toNat)
  case atStart => exact ⟨[], 0, rfl, ScanTo.start b, hJ0, Below.refl _ _, rfl⟩
  case round =>
    obtain ⟨pre, o, rfl, hst, hJp, hbel⟩ := hrel
    have hcell : wr.cell? ⟨Bn, 0, none⟩ = some (.slice A nb c) := (World.cell?_of_block (w := W) hbel.2).trans hBn
    have hBw : Bn < wr.heap.size := World.block_lt_of_cell? _ _ hcell
    have sb := hL.below hbel.1
    have hob := hst.2.1.1
    have hpo := hst.2.1.2
    have hn := H0.out
    have hoc : (o : Int) ≤ (c : Int) := by omega
    have hon : (o : Int) ≤ (nb : Int) := by omega
    have hsz : n₀ ≤ wr.heap.size := Nat.le_trans hn₀ hbel.1.size
    by_cases hco : c = o
    · have hbo : b.drop o = [] := List.drop_eq_nil_of_le (by omega)
      have hno : Lg.oneR (b.drop o) = none := Lg.oneR_none_len (by rw [hbo]; simp)
      have HC := Lib.hid (LOne_any wr A 0 0 [] (.inl rfl) rfl (Nat.le_refl _) (by simp [maxLen]) (by simp))
      rw [show Lg.oneR [] = none from by rw [← hbo]; exact hno] at HC
      have hnb : nb = o := by omega
      clear hn hbo
      subst hnb
      subst hco
      gi_wp2
      refine ⟨trivial, fun h => (by simp [Fence.wide] at h), ?_⟩
      refine (callsIn_wide.2 HC.out).mono ?_
      rintro e w2 ⟨rfl, hb2⟩
      gi_wp2
      refine bodyPost_ret (results_none rfl _ _ _) rfl ?_
      exact ⟨⟨_, rfl⟩, pre, hst.done hno, hJ _ _ _ hJp hb2⟩
    · have s' := sb.cut o c (by simp only [bv, List.length_map]; omega)
      rw [bv_drop, if_neg hco] at s'
      have HC := Lib.hid (LOne_any wr (A.map (·.add o)) (nb - o) (c - o) (b.drop o) (s'.more hsz) (by rw [List.length_drop]; omega) (by omega) (by omega) (by rw [List.length_drop]; omega))
      cases ho : Lg.oneR (b.drop o) with
      | none =>
        rw [ho] at HC
        clear hn
        gi_wp2
        refine ⟨trivial, fun h => (by simp [Fence.wide] at h), ?_⟩
        refine (callsIn_wide.2 HC.out).mono ?_
        rintro e w2 ⟨rfl, hb2⟩
        gi_wp2
        refine bodyPost_ret (results_none rfl _ _ _) rfl ?_
        exact ⟨⟨_, rfl⟩, pre, hst.done ho, hJ _ _ _ hJp hb2⟩
      | some r =>
        obtain ⟨x, k⟩ := r
        rw [ho] at HC
        obtain ⟨q1, q2, q3, _⟩ := Lg.oneR_some ho
        rw [List.length_drop] at q1
        have hok : o + k ≤ nb := by omega
        have hpl : pre.length < 400000 := by omega
        have hmx : nb ≤ 9223372036854775807 := by unfold maxLen at hm; omega
        clear hn q1
        gi_wp2
        refine ⟨trivial, fun h => (by simp [Fence.wide] at h), ?_⟩
        refine (callsIn_wide.2 HC.out).mono ?_
        rintro e w2 ⟨A2, c2, rfl, s2, hc2, hm2, hb2⟩
        obtain ⟨fn, tmps, assign, body, hy, hR⟩ := hY pre ⟨A2, x, c2, o + k⟩ w2 (hJ _ _ _ hJp hb2) ⟨s2, hc2, hm2, q3, hpl⟩
        unfold RecX.encs at hy
        simp only [Int.natCast_add] at hy
        gi_wp2
        refine ⟨fun h => (by simp [Fence.wide] at h), hR.mono ?_⟩
        rintro e w3 ⟨rfl, hJ3, hk3⟩
        gi_wp2
        go_roundw
        case rel => exact ⟨_, o + k, by go_num, hst.step (x := ⟨A2, x, c2, o + k⟩) ho rfl, hJ3, (hbel.trans (KpB.of hb2 hsz hBw)).trans hk3⟩
        case measure => simp [intOf]; omega
end Go.Proofs.Ytkgmbpbbgkjidaa

