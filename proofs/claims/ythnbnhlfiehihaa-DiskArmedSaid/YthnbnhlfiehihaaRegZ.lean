/- A region that draws its order, held by whatever is said of memory till the first of some operations (stores): what reads is waited for by all of them, what does not read may come when it will. -/
import Derived.Test.YthnbnhlfiehihaaRegE
namespace Go.Proofs.Ythnbnhlfiehihaa
open Go.RowKit

def unl (Z : List Nat) (listed : Array Bool) : Prop := ∀ z ∈ Z, listed.getD z false = false
def wpZ (P : Program) (ops : Array Oper) (Q : Exit → Act → World → Prop) (S : World → Prop) (Z : List Nat) : Nat → Array Bool → Act → World → Prop
  | 0, listed, a, w => Region.ready .any ops listed = [] ∧ Q .normal a w
  | fuel + 1, listed, a, w =>
    (Region.ready .any ops listed = [] → Q .normal a w) ∧
    ∀ i ∈ Region.ready .any ops listed, wpOp P ops Q i (fun a' w' => (unl Z (listed.setIfInBounds i true) → S w') ∧ wpZ P ops Q S Z fuel (listed.setIfInBounds i true) a' w') a w
section
variable {P : Program} {ops : Array Oper} {Q : Exit → Act → World → Prop} {S : World → Prop} {Z : List Nat}
theorem unl_mono {listed : Array Bool} {i : Nat} (h : unl Z (listed.setIfInBounds i true)) : unl Z listed := fun z hz => by
  have h1 := h z hz
  cases h2 : listed.getD z false with
  | false => rfl
  | true => rw [getD_set_true h2] at h1; cases h1
theorem unl_swap {listed : Array Bool} {i j : Nat} (hi : i ∉ Z) (h : unl Z (listed.setIfInBounds j true)) : unl Z ((listed.setIfInBounds j true).setIfInBounds i true) := fun z hz => by
  have hne : i ≠ z := fun e => by subst e; exact hi hz
  rw [getD_set_ne false hne]
  exact h z hz
theorem wpAny_of_Z : ∀ (fuel : Nat) (listed : Array Bool) (a : Act) (w : World), wpZ P ops Q S Z fuel listed a w → wpAny P .any ops Q fuel listed a w
  | 0, _, _, _, h => h
  | fuel + 1, _, _, _, h => ⟨h.1, fun i hi => wpOp_mono (fun a' w' h' => wpAny_of_Z fuel _ a' w' h'.2) (h.2 i hi)⟩
theorem wpZ_first {i : Nat} {oi : Oper} {v : Value} (hi : ops[i]? = some oi) (hiZ : i ∉ Z) {T : World → Prop} (hT : ∀ (listed : Array Bool) (w' : World), Closed ops listed → listed.getD i true = false → (unl Z listed → S w') → T w') (hsel : ∀ (j : Nat) (o : Oper) cs b, ops[j]? = some o → o.op ≠ .select cs b)
    (hQ : ∀ c a w, Q (.panic c) (a.put oi.dst v) w → Q (.panic c) a w) :
    ∀ (fuel : Nat) (listed : Array Bool) (a : Act) (w : World),
      (∀ j oj, ops[j]? = some oj → j ≠ i → listed.getD j true = false → (∀ e ∈ oj.after, Region.binds .any e = true → e.on ≠ i) → oi.apart ops oj = true) →
      Closed ops listed → i ∈ Region.ready .any ops listed → YieldsIf P ops T oi v a → (unl Z listed → S w) →
      wpZ P ops Q S Z fuel (listed.setIfInBounds i true) (a.put oi.dst v) w → wpZ P ops Q S Z (fuel + 1) listed a w := by
  intro fuel
  induction fuel with
  | zero =>
    intro listed a w _ hcl hr hy hS H
    refine ⟨fun h => (by rw [h] at hr; cases hr), fun j hj => ?_⟩
    by_cases hji : j = i
    · subst hji; exact hy.wpOp hi (hT listed w hcl (mem_ready.1 hr).1 hS) ⟨fun hu => hS (unl_mono hu), H⟩
    · have := ready_mono hj hji
      rw [H.1] at this
      cases this
  | succ fuel ih =>
    intro listed a w hfree hcl hr hy hS H
    refine ⟨fun h => (by rw [h] at hr; cases hr), fun j hj => ?_⟩
    by_cases hji : j = i
    · subst hji; exact hy.wpOp hi (hT listed w hcl (mem_ready.1 hr).1 hS) ⟨fun hu => hS (unl_mono hu), H⟩
    · have h1 := H.2 j (ready_mono hj hji)
      obtain ⟨hjun, oj, hoj, hall⟩ := mem_ready.1 hj
      have hnot : ∀ e ∈ oj.after, Region.binds .any e = true → e.on ≠ i := fun e he hb heq => by
        have h1 := hall e he hb
        have h0 := (mem_ready.1 hr).1
        rw [heq] at h1
        rcases Nat.lt_or_ge i listed.size with h' | h'
        · simp [h'] at h0 h1; rw [h0] at h1; cases h1
        · simp [Array.getElem?_eq_none h'] at h1
      have hcl' : Closed ops (listed.setIfInBounds j true) := fun k ok hk hkl e he hb => by
        by_cases hjk : j = k
        · subst hjk
          rw [hoj] at hk
          cases hk
          exact getD_set_true (hall e he hb)
        · rw [getD_set_ne false hjk] at hkl
          exact getD_set_true (hcl k ok hk hkl e he hb)
      have h2 := wpOp_putIf hoj (hfree j oj hoj hji hjun hnot) (fun cs b => hsel i oi cs b hi) (fun cs b => hsel j oj cs b hoj) hQ hy h1
      have hfree' : ∀ k ok, ops[k]? = some ok → k ≠ i → (listed.setIfInBounds j true).getD k true = false →
          (∀ e ∈ ok.after, Region.binds .any e = true → e.on ≠ i) → oi.apart ops ok = true := fun k ok hk hki hun hno => by
        refine hfree k ok hk hki ?_ hno
        by_cases hjk : j = k
        · subst hjk; exact hjun
        · rw [getD_set_ne true hjk] at hun; exact hun
      refine wpOp_mono (fun a' w' h3 => ?_) h2
      have hSw : unl Z (listed.setIfInBounds j true) → S w' := fun hu => h3.2.1 (by rw [Array.setIfInBounds_comm _ _ (Ne.symm hji)]; exact unl_swap hiZ hu)
      refine ⟨hSw, ih (listed.setIfInBounds j true) a' w' hfree' hcl' (ready_mono hr (Ne.symm hji)) h3.1 hSw ?_⟩
      rw [Array.setIfInBounds_comm _ _ hji]
      exact h3.2.2
theorem bstartZ (S : World → Prop) (Z : List Nat) {id : Nat} {a : Act} {w : World} (hm : P.follows .mixedOrders = true) (hh : wpZ P ops Q S Z ops.size (Array.replicate ops.size false) a w.drew) : (Code.region id ops true).wp P Q a w :=
  wp_region_any hm (wpAny_of_Z _ _ _ _ hh)
/-- each of Z waits for i: by the paths -/
def waitZ (ops : Array Oper) (Z : List Nat) (i : Nat) : List (List Nat) → Bool := fun pss => Z.length == pss.length && (Z.zip pss).all fun q => chainE ops q.1 q.2 i
def okTakeZ (ops : Array Oper) (listed : Array Bool) (Z : List Nat) (i : Nat) : Bool := okTake ops listed i && closedB ops listed && !Z.contains i
theorem waitZ_spec {listed : Array Bool} {i : Nat} {pss : List (List Nat)} (hz : waitZ ops Z i pss = true) (hcl : Closed ops listed) (hi : listed.getD i true = false) : unl Z listed := fun z hz' => by
  simp only [waitZ, Bool.and_eq_true, beq_iff_eq, List.all_eq_true] at hz
  obtain ⟨k, hk⟩ := List.getElem?_of_mem hz'
  have hlt := (List.getElem?_eq_some_iff.1 hk).1
  have hmem : (z, pss[k]'(by omega)) ∈ Z.zip pss := by
    refine List.mem_iff_getElem?.2 ⟨k, ?_⟩
    rw [List.getElem?_zip_eq_some]
    exact ⟨hk, List.getElem?_eq_getElem (by omega)⟩
  have hch := hz.2 _ hmem
  cases h2 : listed.getD z false with
  | false => rfl
  | true =>
    exfalso
    have h := chain_listed hcl _ _ _ (fun o' ho' => hcl _ o' ho' h2) hch
    rcases Nat.lt_or_ge i listed.size with h' | h'
    · simp [h'] at h hi; rw [hi] at h; cases h
    · simp [Array.getElem?_eq_none h'] at h
/-- what reads: all of Z wait for it -/
theorem btakeZ (i : Nat) (pss : List (List Nat)) {oi : Oper} {v : Value} {fuel : Nat} {listed : Array Bool} {a : Act} {w : World} (hi : ops[i]? = some oi) (hok : (okTakeZ ops listed Z i && waitZ ops Z i pss) = true)
    (hQ : ∀ c a w, Q (.panic c) (a.put oi.dst v) w → Q (.panic c) a w) (hS : S w)
    (hy : (Region.wanted oi (yielded ops a.tmps) = true ∧ ∀ W, S W → (execOp a.eval oi).run P W = .ok (.value v) W) ∨ (Region.wanted oi (yielded ops a.tmps) = false ∧ v = undef))
    (hr : wpZ P ops Q S Z fuel (listed.setIfInBounds i true) (a.put oi.dst v) w) : wpZ P ops Q S Z (fuel + 1) listed a w := by
  simp only [okTakeZ, okTake, Bool.and_eq_true, Bool.not_eq_true'] at hok
  obtain ⟨⟨⟨⟨⟨k1, k2⟩, k3⟩, k4⟩, k5⟩, k6⟩ := hok
  exact wpZ_first hi (by simpa using k5) (T := S) (fun l w' hcl hun hs => hs (waitZ_spec k6 hcl hun)) (Region.noSelect_spec k1) hQ fuel listed a w (Region.free_spec hi k2) (closed_of k4) (by simpa using k3) hy (fun _ => hS) hr
def unlB (Z : List Nat) (listed : Array Bool) : Bool := Z.all fun z => !listed.getD z false
theorem unlB_spec {listed : Array Bool} (h : unlB Z listed = false) : ¬ unl Z listed := fun hu => by
  have : unlB Z listed = true := List.all_eq_true.2 fun z hz => by rw [hu z hz]; rfl
  rw [this] at h; cases h
/-- what reads nothing -/
theorem btakeT (i : Nat) {oi : Oper} {v : Value} {fuel : Nat} {listed : Array Bool} {a : Act} {w : World} (hi : ops[i]? = some oi) (hok : okTakeZ ops listed Z i = true)
    (hQ : ∀ c a w, Q (.panic c) (a.put oi.dst v) w → Q (.panic c) a w) (hS : S w ∨ unlB Z listed = false)
    (hy : (Region.wanted oi (yielded ops a.tmps) = true ∧ ∀ W, True → (execOp a.eval oi).run P W = .ok (.value v) W) ∨ (Region.wanted oi (yielded ops a.tmps) = false ∧ v = undef))
    (hr : wpZ P ops Q S Z fuel (listed.setIfInBounds i true) (a.put oi.dst v) w) : wpZ P ops Q S Z (fuel + 1) listed a w := by
  simp only [okTakeZ, okTake, Bool.and_eq_true, Bool.not_eq_true'] at hok
  obtain ⟨⟨⟨⟨k1, k2⟩, k3⟩, k4⟩, k5⟩ := hok
  exact wpZ_first hi (by simpa using k5) (T := fun _ => True) (fun _ _ _ _ _ => trivial) (Region.noSelect_spec k1) hQ fuel listed a w (Region.free_spec hi k2) (closed_of k4) (by simpa using k3) hy (fun hu => hS.elim id (fun h => absurd hu (unlB_spec h))) hr
/-- a store: the only one that is ready -/
theorem bopZ (i : Nat) {o : Oper} {fuel : Nat} {listed : Array Bool} {a : Act} {w : World} (hi : ops[i]? = some o) (hok : okOp ops listed i = true)
    (hz : Z.contains i = true)
    (hw : Region.wanted o (yielded ops a.tmps) = true)
    (hr : ∀ K : Act → World → Prop, Shut (∀ a' w', wpZ P ops Q S Z fuel (listed.setIfInBounds i true) a' w' → K a' w') → o.wp P a w K Q) : wpZ P ops Q S Z (fuel + 1) listed a w := by
  have hok' : Region.ready .any ops listed = [i] := by simpa [okOp] using hok
  refine ⟨fun h0 => (by rw [hok'] at h0; cases h0), fun j hj => ?_⟩
  obtain rfl : j = i := by rw [hok'] at hj; simpa using hj
  unfold wpOp
  simp only [hi, hw, if_true]
  refine .inl (hr _ (fun a' w' hb => ⟨fun hu => ?_, hb⟩))
  exfalso
  have h1 := hu j (by simpa using hz)
  have h2 := (mem_ready.1 (show j ∈ Region.ready .any ops listed by rw [hok']; simp)).1
  rcases Nat.lt_or_ge j listed.size with h' | h'
  · simp [h'] at h1
  · simp [Array.getElem?_eq_none h'] at h2
/-- any other one that is ready alone -/
theorem bopY (i : Nat) {o : Oper} {fuel : Nat} {listed : Array Bool} {a : Act} {w : World} (hi : ops[i]? = some o) (hok : okOp ops listed i = true)
    (hw : Region.wanted o (yielded ops a.tmps) = true)
    (hr : ∀ K : Act → World → Prop, Shut (∀ a' w', S w' → wpZ P ops Q S Z fuel (listed.setIfInBounds i true) a' w' → K a' w') → o.wp P a w K Q) : wpZ P ops Q S Z (fuel + 1) listed a w := by
  have hok' : Region.ready .any ops listed = [i] := by simpa [okOp] using hok
  refine ⟨fun h0 => (by rw [hok'] at h0; cases h0), fun j hj => ?_⟩
  obtain rfl : j = i := by rw [hok'] at hj; simpa using hj
  unfold wpOp
  simp only [hi, hw, if_true]
  exact .inl (hr _ (fun a' w' hk hb => ⟨fun _ => hk, hb⟩))
theorem bdoneZ {fuel : Nat} {listed : Array Bool} {a : Act} {w : World} (hr : Region.ready .any ops listed = []) (hq : Q .normal a w) : wpZ P ops Q S Z fuel listed a w :=
  match fuel with
  | 0 => ⟨hr, hq⟩
  | _ + 1 => ⟨fun _ => hq, by rw [hr]; simp⟩
end
end Go.Proofs.Ythnbnhlfiehihaa

