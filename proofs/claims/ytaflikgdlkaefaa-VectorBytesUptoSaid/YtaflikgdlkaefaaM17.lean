/- A region that draws its order, held by whatever is said of memory till the first of some operations (stores): what reads is waited for by all of them, what does not read may come when it will. -/
import Derived.Maps.AppendAt
import Derived.Lib.SliceRun
import Derived.Laws.IdiomCopy
import Derived.Test.YtaflikgdlkaefaaM00
import Derived.Test.YtaflikgdlkaefaaM06
import Derived.Test.YtaflikgdlkaefaaM09
import Derived.Test.YtaflikgdlkaefaaM11
import Derived.Test.YtaflikgdlkaefaaM16
open List (getElem?_toArray getElem?_cons_succ getElem?_cons_zero)
namespace Go.Proofs.Ytaflikgdlkaefaa
open Go.RowKit

def unl (Z : List Nat) (listed : Array Bool) : Prop := ∀ z ∈ Z, listed.getD z false = false
def wpZ (P : Program) (ops : Array Oper) (Q : Exit → Act → World → Prop) (S : World → Prop) (Z : List Nat) : Nat → Array Bool → Act → World → Prop
  | 0, listed, a, w => Region.ready .any ops listed = [] ∧ Q .normal a w
  | fuel + 1, listed, a, w =>
    (Region.ready .any ops listed = [] → Q .normal a w) ∧
    ∀ i ∈ Region.ready .any ops listed, wpOp P ops Q i (fun a' w' => (unl Z (listed.setIfInBounds i true) → S w') ∧ wpZ P ops Q S Z fuel (listed.setIfInBounds i true) a' w') a w
section
variable {P : Program} {ops : Array Oper} {Q : Exit → Act → World → Prop} {S : World → Prop} {Z : List Nat}
theorem unl_mono {listed : Array Bool} {i : Nat} (h : unl Z (listed.setIfInBounds i true)) : unl Z listed := fun z hz => by
  have h1 := h z hz
  cases h2 : listed.getD z false with
  | false => rfl
  | true => rw [getD_set_true h2] at h1; cases h1
theorem unl_swap {listed : Array Bool} {i j : Nat} (hi : i ∉ Z) (h : unl Z (listed.setIfInBounds j true)) : unl Z ((listed.setIfInBounds j true).setIfInBounds i true) := fun z hz => by
  have hne : i ≠ z := fun e => by subst e; exact hi hz
  rw [getD_set_ne false hne]
  exact h z hz
theorem wpAny_of_Z : ∀ (fuel : Nat) (listed : Array Bool) (a : Act) (w : World), wpZ P ops Q S Z fuel listed a w → wpAny P .any ops Q fuel listed a w
  | 0, _, _, _, h => h
  | fuel + 1, _, _, _, h => ⟨h.1, fun i hi => wpOp_mono (fun a' w' h' => wpAny_of_Z fuel _ a' w' h'.2) (h.2 i hi)⟩
theorem wpZ_first {i : Nat} {oi : Oper} {v : Value} (hi : ops[i]? = some oi) (hiZ : i ∉ Z) {T : World → Prop} (hT : ∀ (listed : Array Bool) (w' : World), Closed ops listed → listed.getD i true = false → (unl Z listed → S w') → T w') (hsel : ∀ (j : Nat) (o : Oper) cs b, ops[j]? = some o → o.op ≠ .select cs b)
    (hQ : ∀ c a w, Q (.panic c) (a.put oi.dst v) w → Q (.panic c) a w) :
    ∀ (fuel : Nat) (listed : Array Bool) (a : Act) (w : World),
      (∀ j oj, ops[j]? = some oj → j ≠ i → listed.getD j true = false → (∀ e ∈ oj.after, Region.binds .any e = true → e.on ≠ i) → oi.apart ops oj = true) →
      Closed ops listed → i ∈ Region.ready .any ops listed → YieldsIf P ops T oi v a → (unl Z listed → S w) →
      wpZ P ops Q S Z fuel (listed.setIfInBounds i true) (a.put oi.dst v) w → wpZ P ops Q S Z (fuel + 1) listed a w := by
  intro fuel
  induction fuel with
  | zero =>
    intro listed a w _ hcl hr hy hS H
    refine ⟨fun h => (by rw [h] at hr; cases hr), fun j hj => ?_⟩
    by_cases hji : j = i
    · subst hji; exact hy.wpOp hi (hT listed w hcl (mem_ready.1 hr).1 hS) ⟨fun hu => hS (unl_mono hu), H⟩
    · have := ready_mono hj hji
      rw [H.1] at this
      cases this
  | succ fuel ih =>
    intro listed a w hfree hcl hr hy hS H
    refine ⟨fun h => (by rw [h] at hr; cases hr), fun j hj => ?_⟩
    by_cases hji : j = i
    · subst hji; exact hy.wpOp hi (hT listed w hcl (mem_ready.1 hr).1 hS) ⟨fun hu => hS (unl_mono hu), H⟩
    · have h1 := H.2 j (ready_mono hj hji)
      obtain ⟨hjun, oj, hoj, hall⟩ := mem_ready.1 hj
      have hnot : ∀ e ∈ oj.after, Region.binds .any e = true → e.on ≠ i := fun e he hb heq => by
        have h1 := hall e he hb
        have h0 := (mem_ready.1 hr).1
        rw [heq] at h1
        rcases Nat.lt_or_ge i listed.size with h' | h'
        · simp [h'] at h0 h1; rw [h0] at h1; cases h1
        · simp [Array.getElem?_eq_none h'] at h1
      have hcl' : Closed ops (listed.setIfInBounds j true) := fun k ok hk hkl e he hb => by
        by_cases hjk : j = k
        · subst hjk
          rw [hoj] at hk
          cases hk
          exact getD_set_true (hall e he hb)
        · rw [getD_set_ne false hjk] at hkl
          exact getD_set_true (hcl k ok hk hkl e he hb)
      have h2 := wpOp_putIf hoj (hfree j oj hoj hji hjun hnot) (fun cs b => hsel i oi cs b hi) (fun cs b => hsel j oj cs b hoj) hQ hy h1
      have hfree' : ∀ k ok, ops[k]? = some ok → k ≠ i → (listed.setIfInBounds j true).getD k true = false →
          (∀ e ∈ ok.after, Region.binds .any e = true → e.on ≠ i) → oi.apart ops ok = true := fun k ok hk hki hun hno => by
        refine hfree k ok hk hki ?_ hno
        by_cases hjk : j = k
        · subst hjk; exact hjun
        · rw [getD_set_ne true hjk] at hun; exact hun
      refine wpOp_mono (fun a' w' h3 => ?_) h2
      have hSw : unl Z (listed.setIfInBounds j true) → S w' := fun hu => h3.2.1 (by rw [Array.setIfInBounds_comm _ _ (Ne.symm hji)]; exact unl_swap hiZ hu)
      refine ⟨hSw, ih (listed.setIfInBounds j true) a' w' hfree' hcl' (ready_mono hr (Ne.symm hji)) h3.1 hSw ?_⟩
      rw [Array.setIfInBounds_comm _ _ hji]
      exact h3.2.2
theorem bstartZ (S : World → Prop) (Z : List Nat) {id : Nat} {a : Act} {w : World} (hm : P.follows .mixedOrders = true) (hh : wpZ P ops Q S Z ops.size (Array.replicate ops.size false) a w.drew) : (Code.region id ops true).wp P Q a w :=
  wp_region_any hm (wpAny_of_Z _ _ _ _ hh)
/-- each of Z waits for i: by the paths -/
def waitZ (ops : Array Oper) (Z : List Nat) (i : Nat) : List (List Nat) → Bool := fun pss => Z.length == pss.length && (Z.zip pss).all fun q => chainE ops q.1 q.2 i
def okTakeZ (ops : Array Oper) (listed : Array Bool) (Z : List Nat) (i : Nat) : Bool := okTake ops listed i && closedB ops listed && !Z.contains i
theorem waitZ_spec {listed : Array Bool} {i : Nat} {pss : List (List Nat)} (hz : waitZ ops Z i pss = true) (hcl : Closed ops listed) (hi : listed.getD i true = false) : unl Z listed := fun z hz' => by
  simp only [waitZ, Bool.and_eq_true, beq_iff_eq, List.all_eq_true] at hz
  obtain ⟨k, hk⟩ := List.getElem?_of_mem hz'
  have hlt := (List.getElem?_eq_some_iff.1 hk).1
  have hmem : (z, pss[k]'(by omega)) ∈ Z.zip pss := by
    refine List.mem_iff_getElem?.2 ⟨k, ?_⟩
    rw [List.getElem?_zip_eq_some]
    exact ⟨hk, List.getElem?_eq_getElem (by omega)⟩
  have hch := hz.2 _ hmem
  cases h2 : listed.getD z false with
  | false => rfl
  | true =>
    exfalso
    have h := chain_listed hcl _ _ _ (fun o' ho' => hcl _ o' ho' h2) hch
    rcases Nat.lt_or_ge i listed.size with h' | h'
    · simp [h'] at h hi; rw [hi] at h; cases h
    · simp [Array.getElem?_eq_none h'] at h
/-- what reads: all of Z wait for it -/
theorem btakeZ (i : Nat) (pss : List (List Nat)) {oi : Oper} {v : Value} {fuel : Nat} {listed : Array Bool} {a : Act} {w : World} (hi : ops[i]? = some oi) (hok : (okTakeZ ops listed Z i && waitZ ops Z i pss) = true)
    (hQ : ∀ c a w, Q (.panic c) (a.put oi.dst v) w → Q (.panic c) a w) (hS : S w)
    (hy : (Region.wanted oi (yielded ops a.tmps) = true ∧ ∀ W, S W → (execOp a.eval oi).run P W = .ok (.value v) W) ∨ (Region.wanted oi (yielded ops a.tmps) = false ∧ v = undef))
    (hr : wpZ P ops Q S Z fuel (listed.setIfInBounds i true) (a.put oi.dst v) w) : wpZ P ops Q S Z (fuel + 1) listed a w := by
  simp only [okTakeZ, okTake, Bool.and_eq_true, Bool.not_eq_true'] at hok
  obtain ⟨⟨⟨⟨⟨k1, k2⟩, k3⟩, k4⟩, k5⟩, k6⟩ := hok
  exact wpZ_first hi (by simpa using k5) (T := S) (fun l w' hcl hun hs => hs (waitZ_spec k6 hcl hun)) (Region.noSelect_spec k1) hQ fuel listed a w (Region.free_spec hi k2) (closed_of k4) (by simpa using k3) hy (fun _ => hS) hr
def unlB (Z : List Nat) (listed : Array Bool) : Bool := Z.all fun z => !listed.getD z false
theorem unlB_spec {listed : Array Bool} (h : unlB Z listed = false) : ¬ unl Z listed := fun hu => by
  have : unlB Z listed = true := List.all_eq_true.2 fun z hz => by rw [hu z hz]; rfl
  rw [this] at h; cases h
/-- what reads nothing -/
theorem btakeT (i : Nat) {oi : Oper} {v : Value} {fuel : Nat} {listed : Array Bool} {a : Act} {w : World} (hi : ops[i]? = some oi) (hok : okTakeZ ops listed Z i = true)
    (hQ : ∀ c a w, Q (.panic c) (a.put oi.dst v) w → Q (.panic c) a w) (hS : S w ∨ unlB Z listed = false)
    (hy : (Region.wanted oi (yielded ops a.tmps) = true ∧ ∀ W, True → (execOp a.eval oi).run P W = .ok (.value v) W) ∨ (Region.wanted oi (yielded ops a.tmps) = false ∧ v = undef))
    (hr : wpZ P ops Q S Z fuel (listed.setIfInBounds i true) (a.put oi.dst v) w) : wpZ P ops Q S Z (fuel + 1) listed a w := by
  simp only [okTakeZ, okTake, Bool.and_eq_true, Bool.not_eq_true'] at hok
  obtain ⟨⟨⟨⟨k1, k2⟩, k3⟩, k4⟩, k5⟩ := hok
  exact wpZ_first hi (by simpa using k5) (T := fun _ => True) (fun _ _ _ _ _ => trivial) (Region.noSelect_spec k1) hQ fuel listed a w (Region.free_spec hi k2) (closed_of k4) (by simpa using k3) hy (fun hu => hS.elim id (fun h => absurd hu (unlB_spec h))) hr
/-- a store: the only one that is ready -/
theorem bopZ (i : Nat) {o : Oper} {fuel : Nat} {listed : Array Bool} {a : Act} {w : World} (hi : ops[i]? = some o) (hok : okOp ops listed i = true)
    (hz : Z.contains i = true)
    (hw : Region.wanted o (yielded ops a.tmps) = true)
    (hr : ∀ K : Act → World → Prop, Shut (∀ a' w', wpZ P ops Q S Z fuel (listed.setIfInBounds i true) a' w' → K a' w') → o.wp P a w K Q) : wpZ P ops Q S Z (fuel + 1) listed a w := by
  have hok' : Region.ready .any ops listed = [i] := by simpa [okOp] using hok
  refine ⟨fun h0 => (by rw [hok'] at h0; cases h0), fun j hj => ?_⟩
  obtain rfl : j = i := by rw [hok'] at hj; simpa using hj
  unfold wpOp
  simp only [hi, hw, if_true]
  refine .inl (hr _ (fun a' w' hb => ⟨fun hu => ?_, hb⟩))
  exfalso
  have h1 := hu j (by simpa using hz)
  have h2 := (mem_ready.1 (show j ∈ Region.ready .any ops listed by rw [hok']; simp)).1
  rcases Nat.lt_or_ge j listed.size with h' | h'
  · simp [h'] at h1
  · simp [Array.getElem?_eq_none h'] at h2
/-- any other one that is ready alone -/
theorem bopY (i : Nat) {o : Oper} {fuel : Nat} {listed : Array Bool} {a : Act} {w : World} (hi : ops[i]? = some o) (hok : okOp ops listed i = true)
    (hw : Region.wanted o (yielded ops a.tmps) = true)
    (hr : ∀ K : Act → World → Prop, Shut (∀ a' w', S w' → wpZ P ops Q S Z fuel (listed.setIfInBounds i true) a' w' → K a' w') → o.wp P a w K Q) : wpZ P ops Q S Z (fuel + 1) listed a w := by
  have hok' : Region.ready .any ops listed = [i] := by simpa [okOp] using hok
  refine ⟨fun h0 => (by rw [hok'] at h0; cases h0), fun j hj => ?_⟩
  obtain rfl : j = i := by rw [hok'] at hj; simpa using hj
  unfold wpOp
  simp only [hi, hw, if_true]
  exact .inl (hr _ (fun a' w' hk hb => ⟨fun _ => hk, hb⟩))
theorem bdoneZ {fuel : Nat} {listed : Array Bool} {a : Act} {w : World} (hr : Region.ready .any ops listed = []) (hq : Q .normal a w) : wpZ P ops Q S Z fuel listed a w :=
  match fuel with
  | 0 => ⟨hr, hq⟩
  | _ + 1 => ⟨fun _ => hq, by rw [hr]; simp⟩
end
end Go.Proofs.Ytaflikgdlkaefaa
/- Vectors: the document's VecOf. -/
namespace Go.Proofs.Ytaflikgdlkaefaa
open Go.RowKit Go.Maps Go.Proofs.Ytaflikgdlkaefaa.Pl Go.Proofs.Ytaflikgdlkaefaa.Sp Go.Proofs.Ytaflikgdlkaefaa.Ve
set_option maxRecDepth 20000

set_option maxRecDepth 100000 in
set_option maxHeartbeats 6400000 in
theorem RVOf_own (w : World) (A : Option Addr) (n c : Nat) (l : List Dt.D2) (hs : Sl w w.heap.size A (dv l)) (h0 : n = l.length) (hl : n ≤ 100000) :
    Calls Try.prog 24 #[.slice A n c] w (PAns w (ofV l)) := by
  have HN := Lib.hid h0
  clear h0
  go_enter Try.func24, Try.ntmps24
  have hb0 : Below w.heap.size w ((w.alloc (.cells #[.slice none 0 0] 27)).alloc (.cells (XA.us z64S).toArray 83)) := balloc (balloc (Below.refl _ _) _) _
  have a0 : At ((w.alloc (.cells #[.slice none 0 0] 27)).alloc (.cells (XA.us z64S).toArray 83)) w.heap.size [.slice none 0 0] := (At.new w 27 #[.slice none 0 0]).alloc _
  have a1 : Ar ((w.alloc (.cells #[.slice none 0 0] 27)).alloc (.cells (XA.us z64S).toArray 83)) (w.heap.size + 1) (XA.us z64S) := by
    have := Ar.new (w.alloc (.cells #[.slice none 0 0] 27)) (XA.us z64S)
    rw [World.size_alloc] at this
    exact this
  have hsz : ((w.alloc (.cells #[.slice none 0 0] 27)).alloc (.cells (XA.us z64S).toArray 83)).heap.size = w.heap.size + 2 := by simp
  have hxa : XA ((w.alloc (.cells #[.slice none 0 0] 27)).alloc (.cells (XA.us z64S).toArray 83)) z64S (fun _ => []) := XA.zero _
  have hzz := zeroA
  generalize z64S = Z at *
  go_wp2_with (refine opVal rfl (ex_alT hzz rfl) ?_)
  generalize (w.alloc (.cells #[.slice none 0 0] 27)).alloc (.cells (XA.us Z).toArray 83) = W at *
  go_loopw [4] (fun x4 wr => ∃ (k : Nat) (X : List RSl), k ≤ n ∧ x4 = .int .i64 (k : Int) ∧ XA wr X (fun r => ofS (seqsOf (l.take k) r)) ∧ Ar wr (w.heap.size + 1) (XA.us X) ∧ At wr w.heap.size [.slice none 0 0] ∧ w.heap.size + 2 ≤ wr.heap.size ∧ Below w.heap.size w wr) (fun x4 _ => n - (intOf x4).toNat)
  case atStart => exact ⟨0, Z, by omega, rfl, by simpa [seqsOf, ofS] using hxa, a1, a0, by omega, hb0⟩
  case round =>
    clear hxa a1 a0 hb0 hzz hsz
    obtain ⟨k, X, hk, rfl, hX, hA, h0, hs2, hbel⟩ := hrel
    by_cases hlt : k < n
    · have hkl : k < l.length := by have := HN.out; omega
      obtain ⟨b, o, rfl, hbB, hbW, c0, c1⟩ := dotAt hs hkl
      have hd : l[k]? = some (l[k]?.getD ⟨0, 0⟩) := by rw [List.getElem?_eq_getElem hkl]; rfl
      generalize l[k]?.getD ⟨0, 0⟩ = d at *
      replace c0 := (hbel.cell hbW).trans c0
      replace c1 := (hbel.cell hbW).trans c1
      have hd1 : decide ((k : Int) < (n : Int)) = true := by rw [decide_eq_true_eq]; omega
      have hn0 : (0 : Int) ≤ (k : Int) := by omega
      have hn1 : (k : Int) < (n : Int) := by omega
      have hdr := RDRight_any wr d
      unfold Dt.D2.v at hdr
      have HD := Lib.hid hdr
      have HX := Lib.hid (And.intro hX (And.intro hA (And.intro h0 (And.intro hs2 (And.intro hbel hd)))))
      clear hdr hX hA h0 hs hd
      go_wp2_with fail
      refine HD.out.mono ?_
      rintro e w1 ⟨rfl, h1⟩
      obtain ⟨p, hp⟩ : ∃ p, d.right = p := ⟨_, rfl⟩
      rw [hp]
      have HP := Lib.hid hp
      have hb1 := hbel.trans (h1.mono hbel.size)
      have H1 := Lib.hid (And.intro h1 hb1)
      replace c0 := (h1.cell (by dsimp only; omega)).trans c0
      replace c1 := (h1.cell (by dsimp only; omega)).trans c1
      clear hp h1
      cases p with
      | false =>
        have hX1 := HX.out.1.below H1.out.1
        have HZ := Lib.hid (show XA w1 X (fun r => ofS (seqsOf (l.take (k + 1)) r)) from ⟨hX1.1, fun i hi => by dsimp only; rw [ofS_skip HX.out.2.2.2.2.2 HP.out]; exact hX1.2 i hi⟩)
        have HY := Lib.hid (And.intro (HX.out.2.1.below H1.out.1) (And.intro (HX.out.2.2.1.below H1.out.1) (show w.heap.size + 2 ≤ w1.heap.size from Nat.le_trans HX.out.2.2.2.1 H1.out.1.size)))
        clear hX1
        go_wp2_with fail
        go_roundw
        case rel => exact ⟨k + 1, X, by omega, by go_num, HZ.out, HY.out.1, HY.out.2.1, HY.out.2.2, hb1⟩
        case measure => simp [intOf]; omega
      | true =>
        obtain ⟨q1, q2, q3, q4⟩ := Dt.right_iff.1 HP.out
        obtain ⟨r, hr⟩ : ∃ r : Nat, d.r = (r : Int) := ⟨d.r.toNat, by omega⟩
        obtain ⟨s, hs, hsn, hst⟩ := HX.out.1.2 r (by omega)
        obtain ⟨As, ns, cs⟩ := s
        dsimp only at hsn hst
        have hA1 := HX.out.2.1.below H1.out.1
        have y0 : w1.cell? ⟨w.heap.size + 1, r, none⟩ = some (.slice As ns cs) := by rw [hA1.cell, XA.us, List.getElem?_map, hs]; rfl
        rw [hr] at c0
        have HS := Lib.hid (And.intro hsn (And.intro (hst.below H1.out.1) (And.intro hr hs)))
        have HSZ := Lib.hid (And.intro q1 q2)
        have r0 : (0 : Int) ≤ (r : Int) := by omega
        have r1 : (r : Int) < 64 := by omega
        clear hs hsn hst hA1 hr q1 q2 q3 q4
        go_wp2_with fail
        have e0 := cellB c0
        have e1 := cellB c1
        have e2 := cellB y0
        have zc := y0
        refine bstartE (KB w1.heap) 25 (by kernel_rfl) ?_
        refine btakeE 0 [] (oi := _) (v := ?_) (by simp only [getElem?_toArray, getElem?_cons_zero]; rfl) (by kernel_rfl) (by exact fun _ _ _ h => h) (by first | assumption | exact KB.refl _) (.inl ⟨by rfl, fun W hW => ?_⟩) ?_; rotate_left
        · (go_simp; first | done | with_reducible rfl)
        try simp only [Act.put, List.setIfInBounds_toArray, List.set_cons_zero, List.set_cons_succ]
        refine btakeE 1 [] (oi := _) (v := ?_) (by simp only [getElem?_toArray, getElem?_cons_succ, getElem?_cons_zero]; rfl) (by kernel_rfl) (by exact fun _ _ _ h => h) (by first | assumption | exact KB.refl _) (.inl ⟨by rfl, fun W hW => ?_⟩) ?_; rotate_left
        · (go_simp; first | done | with_reducible rfl)
        try simp only [Act.put, List.setIfInBounds_toArray, List.set_cons_zero, List.set_cons_succ]
        refine btakeE 2 [] (oi := _) (v := ?_) (by simp only [getElem?_toArray, getElem?_cons_succ, getElem?_cons_zero]; rfl) (by kernel_rfl) (by exact fun _ _ _ h => h) (by first | assumption | exact KB.refl _) (.inl ⟨by rfl, fun W hW => ?_⟩) ?_; rotate_left
        · (go_simp; first | done | with_reducible rfl)
        try simp only [Act.put, List.setIfInBounds_toArray, List.set_cons_zero, List.set_cons_succ]
        refine btakeE 3 [] (oi := _) (v := ?_) (by simp only [getElem?_toArray, getElem?_cons_succ, getElem?_cons_zero]; rfl) (by kernel_rfl) (by exact fun _ _ _ h => h) (by first | assumption | exact KB.refl _) (.inl ⟨by rfl, fun W hW => ?_⟩) ?_; rotate_left
        · (go_simp; first | done | with_reducible rfl)
        try simp only [Act.put, List.setIfInBounds_toArray, List.set_cons_zero, List.set_cons_succ]
        refine btakeE 4 [] (oi := _) (v := ?_) (by simp only [getElem?_toArray, getElem?_cons_succ, getElem?_cons_zero]; rfl) (by kernel_rfl) (by exact fun _ _ _ h => h) (by first | assumption | exact KB.refl _) (.inl ⟨by rfl, fun W hW => ?_⟩) ?_; rotate_left
        · (go_simp; first | done | with_reducible rfl)
        try simp only [Act.put, List.setIfInBounds_toArray, List.set_cons_zero, List.set_cons_succ]
        refine btakeE 5 [] (oi := _) (v := ?_) (by simp only [getElem?_toArray, getElem?_cons_succ, getElem?_cons_zero]; rfl) (by kernel_rfl) (by exact fun _ _ _ h => h) (by first | assumption | exact KB.refl _) (.inl ⟨by rfl, fun W hW => ?_⟩) ?_; rotate_left
        · (go_simp; first | done | with_reducible rfl)
        try simp only [Act.put, List.setIfInBounds_toArray, List.set_cons_zero, List.set_cons_succ]
        refine btakeE 6 [] (oi := _) (v := ?_) (by simp only [getElem?_toArray, getElem?_cons_succ, getElem?_cons_zero]; rfl) (by kernel_rfl) (by exact fun _ _ _ h => h) (by first | assumption | exact KB.refl _) (.inl ⟨by rfl, fun W hW => ?_⟩) ?_; rotate_left
        · (go_simp; first | done | with_reducible rfl)
        try simp only [Act.put, List.setIfInBounds_toArray, List.set_cons_zero, List.set_cons_succ]
        refine btakeE 7 [] (oi := _) (v := ?_) (by simp only [getElem?_toArray, getElem?_cons_succ, getElem?_cons_zero]; rfl) (by kernel_rfl) (by exact fun _ _ _ h => h) (by first | assumption | exact KB.refl _) (.inl ⟨by rfl, fun W hW => ?_⟩) ?_; rotate_left
        · (go_simp; first | done | with_reducible rfl)
        try simp only [Act.put, List.setIfInBounds_toArray, List.set_cons_zero, List.set_cons_succ]
        refine btakeE 8 [] (oi := _) (v := ?_) (by simp only [getElem?_toArray, getElem?_cons_succ, getElem?_cons_zero]; rfl) (by kernel_rfl) (by exact fun _ _ _ h => h) (by first | assumption | exact KB.refl _) (.inl ⟨by rfl, fun W hW => ?_⟩) ?_; rotate_left
        · (go_simp; first | done | with_reducible rfl)
        try simp only [Act.put, List.setIfInBounds_toArray, List.set_cons_zero, List.set_cons_succ]
        refine btakeE 9 [] (oi := _) (v := ?_) (by simp only [getElem?_toArray, getElem?_cons_succ, getElem?_cons_zero]; rfl) (by kernel_rfl) (by exact fun _ _ _ h => h) (by first | assumption | exact KB.refl _) (.inl ⟨by rfl, fun W hW => ?_⟩) ?_; rotate_left
        · (go_simp; first | done | with_reducible rfl)
        try simp only [Act.put, List.setIfInBounds_toArray, List.set_cons_zero, List.set_cons_succ]
        refine btakeE 10 [] (oi := _) (v := ?_) (by simp only [getElem?_toArray, getElem?_cons_succ, getElem?_cons_zero]; rfl) (by kernel_rfl) (by exact fun _ _ _ h => h) (by first | assumption | exact KB.refl _) (.inl ⟨by rfl, fun W hW => ?_⟩) ?_; rotate_left
        · (go_simp; first | done | with_reducible rfl)
        try simp only [Act.put, List.setIfInBounds_toArray, List.set_cons_zero, List.set_cons_succ]
        refine btakeE 11 [] (oi := _) (v := ?_) (by simp only [getElem?_toArray, getElem?_cons_succ, getElem?_cons_zero]; rfl) (by kernel_rfl) (by exact fun _ _ _ h => h) (by first | assumption | exact KB.refl _) (.inl ⟨by rfl, fun W hW => ?_⟩) ?_; rotate_left
        · (go_simp; first | done | with_reducible rfl)
        try simp only [Act.put, List.setIfInBounds_toArray, List.set_cons_zero, List.set_cons_succ]
        refine btakeE 12 [] (oi := _) (v := ?_) (by simp only [getElem?_toArray, getElem?_cons_succ, getElem?_cons_zero]; rfl) (by kernel_rfl) (by exact fun _ _ _ h => h) (by first | assumption | exact KB.refl _) (.inl ⟨by rfl, fun W hW => ?_⟩) ?_; rotate_left
        · (go_simp; first | done | with_reducible rfl)
        try simp only [Act.put, List.setIfInBounds_toArray, List.set_cons_zero, List.set_cons_succ]
        refine btakeE 13 [] (oi := _) (v := ?_) (by simp only [getElem?_toArray, getElem?_cons_succ, getElem?_cons_zero]; rfl) (by kernel_rfl) (by exact fun _ _ _ h => h) (by first | assumption | exact KB.refl _) (.inl ⟨by rfl, fun W hW => ?_⟩) ?_; rotate_left
        · (go_simp; first | done | with_reducible rfl)
        try simp only [Act.put, List.setIfInBounds_toArray, List.set_cons_zero, List.set_cons_succ]
        refine btakeE 14 [] (oi := _) (v := ?_) (by simp only [getElem?_toArray, getElem?_cons_succ, getElem?_cons_zero]; rfl) (by kernel_rfl) (by exact fun _ _ _ h => h) (by first | assumption | exact KB.refl _) (.inl ⟨by rfl, fun W hW => ?_⟩) ?_; rotate_left
        · (go_simp; first | done | with_reducible rfl)
        try simp only [Act.put, List.setIfInBounds_toArray, List.set_cons_zero, List.set_cons_succ]
        refine btakeE 15 [] (oi := _) (v := ?_) (by simp only [getElem?_toArray, getElem?_cons_succ, getElem?_cons_zero]; rfl) (by kernel_rfl) (by exact fun _ _ _ h => h) (by first | assumption | exact KB.refl _) (.inl ⟨by rfl, fun W hW => ?_⟩) ?_; rotate_left
        · (go_simp; first | done | with_reducible rfl)
        try simp only [Act.put, List.setIfInBounds_toArray, List.set_cons_zero, List.set_cons_succ]
        refine btakeE 16 [] (oi := _) (v := ?_) (by simp only [getElem?_toArray, getElem?_cons_succ, getElem?_cons_zero]; rfl) (by kernel_rfl) (by exact fun _ _ _ h => h) (by first | assumption | exact KB.refl _) (.inl ⟨by rfl, fun W hW => ?_⟩) ?_; rotate_left
        · (go_simp; first | done | with_reducible rfl)
        try simp only [Act.put, List.setIfInBounds_toArray, List.set_cons_zero, List.set_cons_succ]
        refine btakeE 17 [] (oi := _) (v := ?_) (by simp only [getElem?_toArray, getElem?_cons_succ, getElem?_cons_zero]; rfl) (by kernel_rfl) (by exact fun _ _ _ h => h) (by first | assumption | exact KB.refl _) (.inl ⟨by rfl, fun W hW => ?_⟩) ?_; rotate_left
        · (go_simp; first | done | with_reducible rfl)
        try simp only [Act.put, List.setIfInBounds_toArray, List.set_cons_zero, List.set_cons_succ]
        refine btakeE 18 [] (oi := _) (v := ?_) (by simp only [getElem?_toArray, getElem?_cons_succ, getElem?_cons_zero]; rfl) (by kernel_rfl) (by exact fun _ _ _ h => h) (by first | assumption | exact KB.refl _) (.inl ⟨by rfl, fun W hW => ?_⟩) ?_; rotate_left
        · (go_simp; first | done | with_reducible rfl)
        try simp only [Act.put, List.setIfInBounds_toArray, List.set_cons_zero, List.set_cons_succ]
        refine btakeE 19 [] (oi := _) (v := ?_) (by simp only [getElem?_toArray, getElem?_cons_succ, getElem?_cons_zero]; rfl) (by kernel_rfl) (by exact fun _ _ _ h => h) (by first | assumption | exact KB.refl _) (.inl ⟨by rfl, fun W hW => ?_⟩) ?_; rotate_left
        · (go_simp; first | done | with_reducible rfl)
        try simp only [Act.put, List.setIfInBounds_toArray, List.set_cons_zero, List.set_cons_succ]
        refine btakeE 20 [] (oi := _) (v := ?_) (by simp only [getElem?_toArray, getElem?_cons_succ, getElem?_cons_zero]; rfl) (by kernel_rfl) (by exact fun _ _ _ h => h) (by first | assumption | exact KB.refl _) (.inl ⟨by rfl, fun W hW => ?_⟩) ?_; rotate_left
        · (go_simp; first | done | with_reducible rfl)
        try simp only [Act.put, List.setIfInBounds_toArray, List.set_cons_zero, List.set_cons_succ]
        refine btakeE 21 [] (oi := _) (v := ?_) (by simp only [getElem?_toArray, getElem?_cons_succ, getElem?_cons_zero]; rfl) (by kernel_rfl) (by exact fun _ _ _ h => h) (by first | assumption | exact KB.refl _) (.inl ⟨by rfl, fun W hW => ?_⟩) ?_; rotate_left
        · (go_simp; first | done | with_reducible rfl)
        try simp only [Act.put, List.setIfInBounds_toArray, List.set_cons_zero, List.set_cons_succ]
        refine btakeE 22 [] (oi := _) (v := ?_) (by simp only [getElem?_toArray, getElem?_cons_succ, getElem?_cons_zero]; rfl) (by kernel_rfl) (by exact fun _ _ _ h => h) (by first | assumption | exact KB.refl _) (.inl ⟨by rfl, fun W hW => ?_⟩) ?_; rotate_left
        · (go_simp; first | done | with_reducible rfl)
        try simp only [Act.put, List.setIfInBounds_toArray, List.set_cons_zero, List.set_cons_succ]
        -- 23: newsreel/newsreelref1.SpanAdd
        refine bopE 23 (o := _) (by simp only [getElem?_toArray, getElem?_cons_succ, getElem?_cons_zero]; rfl) (by kernel_rfl) (by rfl) (fun K hK => ?_)
        go_simp
        refine (RRAdd_any w1.drew As ns cs (ofS (seqsOf (l.take k) (r : Int))) ⟨d.q, d.q⟩ HS.out.2.1.1 HS.out.1 (by rw [HS.out.1]; exact Nat.le_trans (ofS_len _) (by have := HN.out; unfold seqsOf; rw [List.length_map]; exact Nat.le_trans (List.length_filter_le _ _) (by rw [List.length_take]; omega))) (by rw [HS.out.1]; exact HS.out.2.1.2.1) HS.out.2.1.2.2).mono ?_
        rintro e w2 ⟨A2, c2, rfl, hs2', hl2, hc2, hb2⟩
        have hkb : KB w1.heap w2 := KB.of ((Below.refl _ w1).drew.trans hb2)
        have HZ := Lib.hid (And.intro hs2' (And.intro hl2 (And.intro hc2 ((Below.refl _ w1).drew.trans hb2))))
        have zf : w2.frozen? ⟨w.heap.size + 1, r, none⟩ = false := (((HX.out.2.1.below H1.out.1).below ((Below.refl _ w1).drew.trans hb2)).at_.f r (v := .slice As ns cs) (by rw [XA.us, List.getElem?_map, HS.out.2.2.2]; rfl))
        clear hs2' hl2 hc2 hb2
        refine hK.out _ _ hkb ?_; clear hK K
        try simp only [Act.put, List.setIfInBounds_toArray, List.set_cons_zero, List.set_cons_succ]
        refine btakeE 24 [] (oi := _) (v := ?_) (by simp only [getElem?_toArray, getElem?_cons_succ, getElem?_cons_zero]; rfl) (by kernel_rfl) (by exact fun _ _ _ h => h) (by first | assumption | exact KB.refl _) (.inl ⟨by rfl, fun W hW => ?_⟩) ?_; rotate_left
        · (go_simp; first | done | with_reducible rfl)
        try simp only [Act.put, List.setIfInBounds_toArray, List.set_cons_zero, List.set_cons_succ]
        -- 25: Op.store 40 (Operand.tmp 40) (Operand.tmp 39)
        refine blastE 25 (o := _) (by simp only [getElem?_toArray, getElem?_cons_succ, getElem?_cons_zero]; rfl) (by kernel_rfl) (by rfl) (by rfl) (fun K hK => ?_)
        go_simp
        skip
        refine hK.out _ _ ?_; clear hK K
        try simp only [Act.put, List.setIfInBounds_toArray, List.set_cons_zero, List.set_cons_succ]
        refine bdoneE (by kernel_rfl) ?_
        have hA2 := (HX.out.2.1.below H1.out.1).below HZ.out.2.2.2
        have hX2 := (HX.out.1.below H1.out.1).below HZ.out.2.2.2
        have hst2 : RSt w2 ⟨(r : Int), A2, c2, addS (ofS (seqsOf (l.take k) (r : Int))) ⟨d.q, d.q⟩⟩ := ⟨HZ.out.1, HZ.out.2.1, HZ.out.2.2.1⟩
        have hstep : ∀ i : Int, ofS (seqsOf (l.take (k + 1)) i) = if i = (r : Int) then addS (ofS (seqsOf (l.take k) (r : Int))) ⟨d.q, d.q⟩ else ofS (seqsOf (l.take k) i) := fun i => by
          rw [ofS_step HX.out.2.2.2.2.2 HP.out, HS.out.2.2.1]
          by_cases h : i = (r : Int)
          · rw [if_pos h, if_pos h, h]
          · rw [if_neg h, if_neg h]
        have h3 := XA.store (f' := fun r => ofS (seqsOf (l.take (k + 1)) r)) hX2 hA2 (r := r) (by omega) (s := ⟨A2, (addS (ofS (seqsOf (l.take k) (r : Int))) ⟨d.q, d.q⟩).length, c2⟩) (by (try dsimp only); rw [hstep, if_pos rfl]) (by (try dsimp only); rw [hstep, if_pos rfl]; exact hst2) (fun i _ hne => by (try dsimp only); rw [hstep, if_neg (by omega)])
        have hb3 : Below w.heap.size w (w2.setCell ⟨w.heap.size + 1, r, none⟩ (.slice A2 (addS (ofS (seqsOf (l.take k) (r : Int))) ⟨d.q, d.q⟩).length c2)) := (hb1.trans (HZ.out.2.2.2.mono hb1.size)).setCell (show w.heap.size ≤ w.heap.size + 1 by omega) _
        have h03 : At (w2.setCell ⟨w.heap.size + 1, r, none⟩ (.slice A2 (addS (ofS (seqsOf (l.take k) (r : Int))) ⟨d.q, d.q⟩).length c2)) w.heap.size [.slice none 0 0] := ((HX.out.2.2.1.below H1.out.1).below HZ.out.2.2.2).set_other _ _ (by omega)
        have HW := Lib.hid (And.intro h3 (And.intro h03 hb3))
        have hs3 : w.heap.size + 2 ≤ w2.heap.size := Nat.le_trans HX.out.2.2.2.1 (Nat.le_trans H1.out.1.size HZ.out.2.2.2.size)
        clear h3 h03 hb3 hA2 hX2 hst2 hstep
        go_wp2_with fail
        go_roundw
        case rel => exact ⟨k + 1, X.set r ⟨A2, (addS (ofS (seqsOf (l.take k) (r : Int))) ⟨d.q, d.q⟩).length, c2⟩, by omega, by go_num, HW.out.1.1, HW.out.1.2, HW.out.2.1, by simpa using hs3, HW.out.2.2⟩
        case measure => simp [intOf]; omega
    · obtain rfl : k = n := by omega
      have hd1 : decide ((k : Int) < (k : Int)) = false := by rw [decide_eq_false_iff_not]; omega
      have hXf : XA wr X (fun r => ofS (seqsOf l r)) := by
        have e : l.take k = l := by rw [HN.out]; exact List.take_length
        rw [e] at hX
        exact hX
      have hlm : ∀ r, (ofS (seqsOf l r)).length ≤ 1000000 := fun r => by
        have a1 := ofS_len (seqsOf l r)
        have a2 : (seqsOf l r).length ≤ l.length := by unfold seqsOf; rw [List.length_map]; exact List.length_filter_le _ _
        have a3 := HN.out
        omega
      have HP := Lib.hid (parts_own wr X _ hXf hlm)
      have hXL : (XA.us X).length = 64 := by rw [XA.us, List.length_map]; exact hX.1
      have HX := Lib.hid (And.intro h0 (And.intro hA.at_ hXL))
      clear hXf hlm hX h0 hA hXL hs
      go_wp2_with (refine opVal rfl (ex_ldT aggA sizeA rfl rfl HX.out.2.1 HX.out.2.2) ?_)
      refine HP.out.mono ?_
      rintro e w1 ⟨A1, c1, R1, rfl, hv1, hR1, hb1⟩
      have h01 := HX.out.1.below hb1
      have z0 := h01.c 0 rfl
      have z1 := h01.f 0 rfl
      have hbz := hbel.trans (hb1.mono hbel.size)
      have hb3 : Below w.heap.size w (w1.setCell ⟨w.heap.size, 0, none⟩ (.slice A1 R1.length c1)) := hbz.setCell (Nat.le_refl _) _
      have HZ := Lib.hid (And.intro (hv1.kept (grownS w1 w.heap.size 0 (.slice A1 R1.length c1)) (by omega)) (And.intro (h01.set 0 (.slice A1 R1.length c1) (by simp)) hb3))
      clear hv1 h01 hb3
      go_wp2_with fail
      exact bodyPost_ret (results_vec rfl _ rfl HZ.out.2.1) rfl ⟨A1, c1, R1, rfl, HZ.out.1.lower (by omega), hR1, HZ.out.2.2⟩
end Go.Proofs.Ytaflikgdlkaefaa
/- Rows of dots of the call's own: append, stores, clear. -/
namespace Go.Proofs.Ytaflikgdlkaefaa
open Go.RowKit Go.Proofs.Ytaflikgdlkaefaa.Pl Go.Proofs.Ytaflikgdlkaefaa.Dt
set_option maxRecDepth 20000

abbrev OwnD (w : World) (base : Nat) (v : Value) (l : List D2) : Prop := w.ownsRow base 32 2 v l.length (dv l)
theorem dotinfo : (Try.prog.info? 32).map (fun i => (i.zero, i.size, i.bytes)) = some (some (.agg #[.int .i64 0, .int .i64 0]), 2, 16) := by kernel_rfl
theorem OwnD.nil (w : World) (base : Nat) : OwnD w base (.slice none 0 0) [] := World.ownsRow_nil w base _ 2
theorem OwnD.form {w : World} {base : Nat} {v : Value} {l : List D2} (h : OwnD w base v l) : ∃ A c, v = .slice A l.length c ∧ l.length ≤ c ∧ c ≤ maxLen ∧ Sl w w.heap.size A (dv l) ∧ (A = none → l = []) ∧ (∀ a, A = some a → base ≤ a.block ∧ a.off = 0 ∧ a.spot = none) := by
  rcases h.2 with ⟨rfl, hn⟩ | ⟨g, cap, cur, rfl, hb, hg, hn, hm, hcs, ht⟩
  · have := List.eq_nil_of_length_eq_zero hn
    subst this
    exact ⟨none, 0, rfl, by simp, by simp [maxLen], .inl rfl, (fun _ => rfl), (fun a h => (by cases h))⟩
  · have hlt : g < w.heap.size := (Array.getElem?_eq_some_iff.1 hg).1
    refine ⟨_, cap, rfl, hn, hm, .inr ⟨g, 0, rfl, hlt, hlt, fun j u hu => ?_⟩, (fun h => (by cases h)), (fun a h => by cases h; exact ⟨hb, rfl, rfl⟩)⟩
    have := h.cells (g := g) rfl j u hu
    rw [Nat.zero_add]
    rw [addr0] at this
    exact this
theorem OwnD.below {w w' : World} {base : Nat} {v : Value} {l : List D2} (h : OwnD w base v l) (hb : Below w.heap.size w w') : OwnD w' base v l :=
  h.kept (row := none) ⟨hb.os, hb.tape, hb.output, hb.size, fun k hk _ => hb.block k hk⟩ (by cases hv : v.ownBlock <;> simp)
theorem OwnD.head {w : World} {base : Nat} {v : Value} {l : List D2} (h : OwnD w base v l) (hn : 0 < l.length) : ∃ g cap, v = .slice (some ⟨g, 0, none⟩) l.length cap ∧ base ≤ g ∧ g < w.heap.size ∧ l.length ≤ cap ∧ cap ≤ maxLen := by
  rcases h.2 with ⟨_, h0⟩ | ⟨g, cap, cur, rfl, hb, hg, h1, h2, _⟩
  · omega
  · exact ⟨g, cap, rfl, hb, (Array.getElem?_eq_some_iff.1 hg).1, h1, h2⟩
theorem own_belowD {w wr w1 : World} {x : Value} {B : Nat} {l : List D2} (hb : Below B w wr) (hB : B ≤ wr.heap.size) (hown : OwnD wr B x l) (hg : wr.grownBy w1 x.ownBlock) : Below B w w1 :=
  hb.trans (below_of_grown hg (fun g e => (hown.lt g e).1) hB)
theorem dv_one (l : List D2) : ∀ u ∈ dv l, u.oneCell' = true := by
  intro u hu
  obtain ⟨d, _, h⟩ := List.mem_flatMap.1 hu
  simp [D2.cells] at h
  rcases h with rfl | rfl <;> rfl
theorem run_appD (w : World) (ty : TypeId) {base : Nat} {v : Value} {l : List D2} (hown : OwnD w base v l) {B : Nat} {A : Option Addr} {m c : Nat} {k : List D2} (hr : Sl w B A (dv k)) (hm : m = k.length)
    (hl : l.length + k.length ≤ 1000000000) (hbase : base ≤ w.heap.size) :
    ∃ v' w', (Builtin.append_ #[53, 53] ty #[v, .slice A m c]).run Try.prog w = .ok v' w' ∧ OwnD w' base v' (l ++ k) ∧ w.grownBy w' v.ownBlock ∧ (v'.ownBlock = v.ownBlock ∨ v'.ownBlock = some w.heap.size) := by
  subst hm
  obtain ⟨i, hi, hz, hz1, hz2⟩ := info_parts dotinfo
  rcases A with _ | ad
  · have hk : k = [] := by
      rcases hr with h | ⟨b, o, h, _⟩
      · have := dv_len k
        rw [h] at this
        exact List.eq_nil_of_length_eq_zero (by simp at this; omega)
      · cases h
    subst hk
    refine ⟨v, w, ?_, by simpa using hown, World.grownBy.refl w _, .inl rfl⟩
    rcases hown.2 with ⟨e, h0⟩ | ⟨g, cap', cur, e, hb0, hg0, hnc0, _⟩
    · subst e
      simp [Builtin.append_, run_underlying Try.underlying53, sizeOf, typeInfo, hi, Builtin.lenOf, Builtin.firstCells]
    · subst e
      simp [Builtin.append_, run_underlying Try.underlying53, sizeOf, typeInfo, hi, Builtin.lenOf, Builtin.firstCells, loadCells, hnc0, storeCells]
  · obtain ⟨v', w', hrun, h2, h3, _, h5⟩ := run_append_own_at (P := Try.prog) w base 53 ty 32 i (.agg #[.int .i64 0, .int .i64 0]) 2 16 Try.underlying53 hi hz hz1 hz2 rfl (by omega) v l.length (dv l) hown ad k.length c (dv k)
      (dv_len k) (fun j u hu => by
        rcases hr with h | ⟨b, o, h, _, _, hc⟩
        · rw [h] at hu; simp at hu
        · injection h with h
          subst h
          have : (⟨b, o, none⟩ : Addr).add j = ⟨b, o + j, none⟩ := by
            unfold Addr.add
            split
            · rename_i h0; subst h0; rfl
            · rfl
          rw [this]; exact hc j u hu) (dv_one k) (by simp only [maxLen]; omega) (by omega) hbase
    exact ⟨v', w', hrun, by rw [OwnD, dv_append, List.length_append]; exact h2, h3, h5⟩
section
variable {ops : Array Oper} {rest : List Oper} {o : Oper} {a : Act} {Q : Exit → Act → World → Prop} {w : World} {s x : Operand}
theorem wp_appD {K : Act → World → Prop} (ho : o.op = .call { callee := .builtin .append, args := #[s, x], argTypes := #[53, 53] })
    {base : Nat} {v : Value} {l : List D2} (hown : OwnD w base v l) {B : Nat} {A : Option Addr} {m c : Nat} {k : List D2} (hr : Sl w B A (dv k)) (hm : m = k.length)
    (hs : a.eval s = v) (hx : a.eval x = .slice A m c) (hl : l.length + k.length ≤ 1000000000) (hbase : base ≤ w.heap.size)
    (h : ∀ v' w', OwnD w' base v' (l ++ k) → w.grownBy w' v.ownBlock → (v'.ownBlock = v.ownBlock ∨ v'.ownBlock = some w.heap.size) → K (a.put o.dst v') w') : o.wp Try.prog a w K Q := by
  obtain ⟨v', w', hrun, h2, h3, h4⟩ := run_appD w o.type hown hr hm hl hbase (c := c)
  unfold Oper.wp execOp
  simp only [ho, resolve, invoke, builtin, Sem.run_bind, Sem.run_pure, Result.andThen_ok, List.map_toArray, List.map_cons, List.map_nil, hs, hx, hrun]
  exact h v' w' h2 h3 h4
theorem appDG (hgd : Region.wanted o (yielded ops a.tmps) = true) (ho : o.op = .call { callee := .builtin .append, args := #[s, x], argTypes := #[53, 53] })
    {base : Nat} {v : Value} {l : List D2} (hown : OwnD w base v l) {B : Nat} {A : Option Addr} {m c : Nat} {k : List D2} (hr : Sl w B A (dv k)) (hm : m = k.length)
    (hs : a.eval s = v) (hx : a.eval x = .slice A m c) (hl : l.length + k.length ≤ 1000000000) (hbase : base ≤ w.heap.size)
    (h : ∀ v' w', OwnD w' base v' (l ++ k) → w.grownBy w' v.ownBlock → (v'.ownBlock = v.ownBlock ∨ v'.ownBlock = some w.heap.size) → wpList Try.prog ops Q rest (a.put o.dst v') w') : wpList Try.prog ops Q (o :: rest) a w :=
  BigFrame.wpList_want hgd fun _ hK => wp_appD ho hown hr hm hs hx hl hbase fun v' w' h2 h3 h4 => hK _ _ (h v' w' h2 h3 h4)
end
/-! ### a row of dots that may be turned where it lies -/
def Row2 (w : World) (g : Nat) (l : List D2) : Prop := g < w.heap.size ∧ ∀ k, k < l.length → w.cell? ⟨g, k * 2, none⟩ = some (.int .i64 (l[k]?.getD ⟨0, 0⟩).r) ∧ w.cell? ⟨g, k * 2 + 1, none⟩ = some (.int .i64 (l[k]?.getD ⟨0, 0⟩).q) ∧ w.frozen? ⟨g, k * 2, none⟩ = false ∧ w.frozen? ⟨g, k * 2 + 1, none⟩ = false
theorem Row2.below {w w' : World} {g : Nat} {l : List D2} (h : Row2 w g l) (hb : Below w.heap.size w w') : Row2 w' g l :=
  ⟨Nat.lt_of_lt_of_le h.1 hb.size, fun k hk => by
    obtain ⟨h1, h2, h3, h4⟩ := h.2 k hk
    exact ⟨(hb.cell h.1).trans h1, (hb.cell h.1).trans h2, (hb.frozen h.1).trans h3, (hb.frozen h.1).trans h4⟩⟩
theorem put2_cell (w : World) (g i : Nat) (s : D2) (h0 : (w.cell? ⟨g, i * 2, none⟩).isSome = true) (h1 : (w.cell? ⟨g, i * 2 + 1, none⟩).isSome = true) (k j : Nat) (hj : j < 2) :
    (((w.setCell ⟨g, i * 2, none⟩ (.int .i64 s.r)).setCell ⟨g, i * 2 + 1, none⟩ (.int .i64 s.q))).cell? ⟨g, k * 2 + j, none⟩ = if k = i then s.cells[j]? else w.cell? ⟨g, k * 2 + j, none⟩ := by
  obtain ⟨u0, e0⟩ := Option.isSome_iff_exists.1 h0
  obtain ⟨u1, e1⟩ := Option.isSome_iff_exists.1 h1
  by_cases hk : k = i
  · subst hk
    rw [if_pos rfl]
    rcases (by omega : j = 0 ∨ j = 1) with rfl | rfl
    · rw [setCell_other _ _ _ _ _ _ (.inr (by omega)), Nat.add_zero, World.cell?_setCell_same _ _ _ e0]; rfl
    · rw [World.cell?_setCell_same _ _ _ (u := u1) (by rw [setCell_other _ _ _ _ _ _ (.inr (by omega))]; exact e1)]; rfl
  · rw [if_neg hk, setCell_other _ _ _ _ _ _ (.inr (by omega)), setCell_other _ _ _ _ _ _ (.inr (by omega))]
def put2At (w : World) (g i : Nat) (s : D2) : World := (w.setCell ⟨g, i * 2, none⟩ (.int .i64 s.r)).setCell ⟨g, i * 2 + 1, none⟩ (.int .i64 s.q)
theorem Row2.put {w : World} {g : Nat} {l : List D2} (h : Row2 w g l) {i : Nat} (hi : i < l.length) (s : D2) : Row2 (put2At w g i s) g (l.set i s) := by
  obtain ⟨q0, q1, _, _⟩ := h.2 i hi
  have hc := put2_cell w g i s (by rw [q0]; rfl) (by rw [q1]; rfl)
  refine ⟨by unfold put2At; simpa using h.1, fun k hk => ?_⟩
  rw [List.length_set] at hk
  obtain ⟨h1, h2, h3, h4⟩ := h.2 k hk
  have c0 := hc k 0 (by omega)
  have c1 := hc k 1 (by omega)
  rw [Nat.add_zero] at c0
  unfold put2At
  refine ⟨c0.trans ?_, c1.trans ?_, by simp only [setCell_frozen]; exact h3, by simp only [setCell_frozen]; exact h4⟩
  · by_cases e : k = i
    · subst e; rw [if_pos rfl, List.getElem?_set_self hk]; rfl
    · rw [if_neg e, List.getElem?_set_ne (fun h => e h.symm)]; exact h1
  · by_cases e : k = i
    · subst e; rw [if_pos rfl, List.getElem?_set_self hk]; rfl
    · rw [if_neg e, List.getElem?_set_ne (fun h => e h.symm)]; exact h2
theorem Row2.sl {w : World} {g : Nat} {l : List D2} (h : Row2 w g l) : Sl w w.heap.size (some ⟨g, 0, none⟩) (dv l) := by
  refine .inr ⟨g, 0, rfl, h.1, h.1, fun j u hu => ?_⟩
  have hj : j < (dv l).length := by
    rcases Nat.lt_or_ge j (dv l).length with h | h
    · exact h
    · rw [List.getElem?_eq_none h] at hu; cases hu
  rw [dv_len] at hj
  have hk : j / 2 < l.length := by omega
  have hs : l[j / 2]? = some (l[j / 2]'hk) := List.getElem?_eq_getElem hk
  have hg := dv_get l (j / 2) (j % 2) _ hs (by omega)
  rw [show j / 2 * 2 + j % 2 = j by omega, hu] at hg
  obtain ⟨h1, h2, _, _⟩ := h.2 (j / 2) hk
  rw [hs, Option.getD_some] at h1 h2
  rw [Nat.zero_add]
  rcases (by omega : j % 2 = 0 ∨ j % 2 = 1) with e | e
  · rw [e] at hg
    rw [show j = j / 2 * 2 by omega, h1]; exact hg.symm
  · rw [e] at hg
    rw [show j = j / 2 * 2 + 1 by omega, h2]; exact hg.symm
theorem Row2.take {w : World} {g : Nat} {l : List D2} (h : Row2 w g l) (n : Nat) : Row2 w g (l.take n) := by
  refine ⟨h.1, fun k hk => ?_⟩
  rw [List.length_take] at hk
  rw [List.getElem?_take, if_pos (by omega)]
  exact h.2 k (by omega)
theorem OwnD.row2 {w : World} {base g c : Nat} {l : List D2} (h : OwnD w base (.slice (some ⟨g, 0, none⟩) l.length c) l) : Row2 w g l := by
  refine ⟨(h.lt g rfl).2, fun k hk => ?_⟩
  have hs : l[k]? = some (l[k]'hk) := List.getElem?_eq_getElem hk
  have g0 := dv_get l k 0 _ hs (by omega)
  have g1 := dv_get l k 1 _ hs (by omega)
  rw [Nat.add_zero] at g0
  have c0 := h.cellAt (k * 2) (by omega)
  have c1 := h.cellAt (k * 2 + 1) (by omega)
  rw [hs]
  exact ⟨c0.trans g0, c1.trans g1, h.frozenAt _, h.frozenAt _⟩
theorem below_put2At {B : Nat} {a w : World} (h : Below B a w) {g : Nat} (hg : B ≤ g) (i : Nat) (s : D2) : Below B a (put2At w g i s) := (h.setCell hg _).setCell hg _
/-! ### clear -/
theorem below_setCellsD {B : Nat} {a : World} (b : Nat) (hb : B ≤ b) : ∀ (vs : List Value) (o : Nat) {w : World}, Below B a w → Below B a (w.setCells b o vs)
  | [], _, _, h => h
  | v :: vs, o, _, h => below_setCellsD b hb vs (o + 1) (h.setCell hb v)
theorem Row2.cleared {w : World} {g : Nat} {l : List D2} (h : Row2 w g l) (k : Nat) (hk : k ≤ l.length) (zs : List Value) : Row2 (w.setCells g (k * 2) zs) g (l.take k) := by
  have hsz : ∀ (vs : List Value) (o : Nat) (w : World), (w.setCells g o vs).heap.size = w.heap.size := by
    intro vs
    induction vs with
    | nil => intro o w; rfl
    | cons v vs ih => intro o w; rw [World.setCells, ih]; simp
  refine ⟨by rw [hsz]; exact h.1, fun j hj => ?_⟩
  rw [List.length_take] at hj
  rw [List.getElem?_take, if_pos (by omega)]
  obtain ⟨h1, h2, h3, h4⟩ := h.2 j (by omega)
  rw [World.cell?_setCells_out g zs (k * 2) w _ (fun _ _ => .inl (by show j * 2 < k * 2; omega)), World.cell?_setCells_out g zs (k * 2) w _ (fun _ _ => .inl (by show j * 2 + 1 < k * 2; omega)), World.frozen?_setCells, World.frozen?_setCells]
  exact ⟨h1, h2, h3, h4⟩
theorem dotzero (w : World) : (zeroValue 32).run Try.prog w = .ok (.agg #[.int .i64 0, .int .i64 0]) w := by
  obtain ⟨i, hi, hz, _⟩ := info_parts dotinfo
  simp [zeroValue, typeInfo, hi, hz]
theorem run_clear_dots (w : World) (ty : TypeId) (b o n c : Nat) (hn : 0 < n)
    (hc : ∀ j, j < n * 2 → (w.cell? ⟨b, o + j, none⟩).isSome = true) (hf : ∀ j, j < n * 2 → w.frozen? ⟨b, o + j, none⟩ = false) :
    ∃ zs, (Builtin.clear_ #[53] ty #[.slice (some ⟨b, o, none⟩) n c]).run Try.prog w = .ok (.tuple #[]) (w.setCells b o zs) := by
  have hl : (Builtin.zeroCells #[Value.int .i64 0, Value.int .i64 0] n).toList.length = n * 2 := by simp [Builtin.zeroCells]
  have ho : ∀ v ∈ (Builtin.zeroCells #[Value.int .i64 0, Value.int .i64 0] n).toList, v.oneCell' = true := by
    intro v hv
    simp [Builtin.zeroCells] at hv
    obtain ⟨a, ha, rfl⟩ := hv
    rcases (by omega : a % 2 = 0 ∨ a % 2 = 1) with e | e <;> simp [e, Value.oneCell']
  have hst := run_storeCells_cells (P := Try.prog) b o (Builtin.zeroCells #[Value.int .i64 0, Value.int .i64 0] n).toList 0 w (by rw [hl]; simpa using hc) (by rw [hl]; simpa using hf) ho
  simp only [Nat.add_zero] at hst
  obtain ⟨m, rfl⟩ : ∃ m, n = m + 1 := ⟨n - 1, by omega⟩
  refine ⟨(Builtin.zeroCells #[Value.int .i64 0, Value.int .i64 0] (m + 1)).toList, ?_⟩
  simp [Builtin.clear_, run_underlying Try.underlying53, Value.cells, hst]
end Go.Proofs.Ytaflikgdlkaefaa
/- A slice of u16. -/
namespace Go.Proofs.Ytaflikgdlkaefaa
open Go.RowKit
set_option maxRecDepth 20000

def wv (l : List Nat) : List Value := l.map (fun (n : Nat) => Value.int .u16 (n : Int))
theorem u16At {w : World} {B : Nat} {A : Option Addr} {x : List Nat} (h : Sl w B A (wv x)) {k : Nat} (hk : k < x.length) : ∃ b o, A = some ⟨b, o, none⟩ ∧ b < w.heap.size ∧ w.cell? ⟨b, o + k, none⟩ = some (.int .u16 ((x[k]?.getD 0 : Nat) : Int)) := by
  obtain ⟨b, o, e, _, h2, hc⟩ := h.at_ (k := k) (by simp [wv]; omega)
  exact ⟨b, o, e, h2, hc k _ (by simp [wv, List.getElem?_eq_getElem hk])⟩
theorem u16_lt {x : List Nat} (h : ∀ n ∈ x, n < 65536) (k : Nat) : x[k]?.getD 0 < 65536 := by
  rcases Nat.lt_or_ge k x.length with hk | hk
  · rw [List.getElem?_eq_getElem hk]; exact h _ (List.getElem_mem hk)
  · rw [List.getElem?_eq_none hk]; simp
end Go.Proofs.Ytaflikgdlkaefaa
