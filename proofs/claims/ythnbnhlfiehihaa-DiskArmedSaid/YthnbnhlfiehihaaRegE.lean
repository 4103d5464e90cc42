/- A region that draws its order, held by whatever is said of memory till its last operation, which waits for all others and need not leave it so. -/
import Derived.Test.YthnbnhlfiehihaaRegS
namespace Go.Proofs.Ythnbnhlfiehihaa
open Go.RowKit

def wpE (P : Program) (ops : Array Oper) (Q : Exit → Act → World → Prop) (S : World → Prop) (z : Nat) : Nat → Array Bool → Act → World → Prop
  | 0, listed, a, w => Region.ready .any ops listed = [] ∧ Q .normal a w
  | fuel + 1, listed, a, w =>
    (Region.ready .any ops listed = [] → Q .normal a w) ∧
    ∀ i ∈ Region.ready .any ops listed, wpOp P ops Q i (fun a' w' => (i = z ∨ S w') ∧ wpE P ops Q S z fuel (listed.setIfInBounds i true) a' w') a w
section
variable {P : Program} {ops : Array Oper} {Q : Exit → Act → World → Prop} {S : World → Prop} {z : Nat}
theorem wpAny_of_E : ∀ (fuel : Nat) (listed : Array Bool) (a : Act) (w : World), wpE P ops Q S z fuel listed a w → wpAny P .any ops Q fuel listed a w
  | 0, _, _, _, h => h
  | fuel + 1, _, _, _, h => ⟨h.1, fun i hi => wpOp_mono (fun a' w' h' => wpAny_of_E fuel _ a' w' h'.2) (h.2 i hi)⟩
/-- z waits for i: by itself, or by another one that does -/
def direct (ops : Array Oper) (z i : Nat) : Bool := match ops[z]? with | none => false | some o => o.after.any fun e => Region.binds .any e && e.on == i
/-- z waits for the first of ps, that one for the next, .., the last for i -/
def chainE (ops : Array Oper) : Nat → List Nat → Nat → Bool
  | z, [], i => direct ops z i
  | z, p :: ps, i => direct ops z p && chainE ops p ps i
def Closed (ops : Array Oper) (listed : Array Bool) : Prop := ∀ j o, ops[j]? = some o → listed.getD j false = true → ∀ e ∈ o.after, Region.binds .any e = true → listed.getD e.on false = true
def closedB (ops : Array Oper) (listed : Array Bool) : Bool := (List.range ops.size).all fun j => !listed.getD j false || match ops[j]? with | none => true | some o => o.after.all fun e => !Region.binds .any e || listed.getD e.on false
theorem closed_of {listed : Array Bool} (h : closedB ops listed = true) : Closed ops listed := by
  intro j o ho hj e he hb
  unfold closedB at h
  rw [List.all_eq_true] at h
  have h1 := h j (List.mem_range.2 (Array.getElem?_eq_some_iff.1 ho).1)
  rw [hj, ho] at h1
  simp only [Bool.not_true, Bool.false_or, Array.all_eq_true] at h1
  obtain ⟨k, hk, rfl⟩ := Array.mem_iff_getElem.1 he
  have h2 := h1 k hk
  rw [hb] at h2
  simpa using h2
theorem direct_spec {z i : Nat} (h : direct ops z i = true) : ∃ o, ops[z]? = some o ∧ ∃ e ∈ o.after, Region.binds .any e = true ∧ e.on = i := by
  unfold direct at h
  cases ho : ops[z]? with
  | none => rw [ho] at h; cases h
  | some o =>
    rw [ho] at h
    simp only [Array.any_eq_true, Bool.and_eq_true, beq_iff_eq] at h
    obtain ⟨k, hk, hb, he⟩ := h
    exact ⟨o, rfl, _, Array.getElem_mem hk, hb, he⟩
theorem chain_listed {listed : Array Bool} (hcl : Closed ops listed) : ∀ (ps : List Nat) (z i : Nat), (∀ o, ops[z]? = some o → ∀ e ∈ o.after, Region.binds .any e = true → listed.getD e.on false = true) → chainE ops z ps i = true → listed.getD i false = true
  | [], z, i, hall, hz => by
    obtain ⟨o, ho, e, he, hb, rfl⟩ := direct_spec hz
    exact hall o ho e he hb
  | p :: ps, z, i, hall, hz => by
    rw [chainE, Bool.and_eq_true] at hz
    obtain ⟨o, ho, e, he, hb, rfl⟩ := direct_spec hz.1
    exact chain_listed hcl ps e.on i (fun o' ho' => hcl _ o' ho' (hall o ho e he hb)) hz.2
theorem waits_not {listed : Array Bool} {z i : Nat} {ps : List Nat} (hcl : Closed ops listed) (hz : chainE ops z ps i = true) (hr : z ∈ Region.ready .any ops listed) (hi : listed.getD i true = false) : False := by
  obtain ⟨_, o, ho, hall⟩ := mem_ready.1 hr
  have h := chain_listed hcl ps z i (fun o' ho' => by rw [ho] at ho'; cases ho'; exact hall) hz
  rcases Nat.lt_or_ge i listed.size with h' | h'
  · simp [h'] at h hi; rw [hi] at h; cases h
  · simp [Array.getElem?_eq_none h'] at h
theorem wpE_first {i : Nat} {oi : Oper} {v : Value} (hi : ops[i]? = some oi) {ps : List Nat} (hz : chainE ops z ps i = true) (hsel : ∀ (j : Nat) (o : Oper) cs b, ops[j]? = some o → o.op ≠ .select cs b)
    (hQ : ∀ c a w, Q (.panic c) (a.put oi.dst v) w → Q (.panic c) a w) :
    ∀ (fuel : Nat) (listed : Array Bool) (a : Act) (w : World),
      (∀ j oj, ops[j]? = some oj → j ≠ i → listed.getD j true = false → (∀ e ∈ oj.after, Region.binds .any e = true → e.on ≠ i) → oi.apart ops oj = true) →
      Closed ops listed → i ∈ Region.ready .any ops listed → YieldsIf P ops S oi v a → S w →
      wpE P ops Q S z fuel (listed.setIfInBounds i true) (a.put oi.dst v) w → wpE P ops Q S z (fuel + 1) listed a w := by
  intro fuel
  induction fuel with
  | zero =>
    intro listed a w _ _ hr hy hS H
    refine ⟨fun h => (by rw [h] at hr; cases hr), fun j hj => ?_⟩
    by_cases hji : j = i
    · subst hji; exact hy.wpOp hi hS ⟨.inr hS, H⟩
    · have := ready_mono hj hji
      rw [H.1] at this
      cases this
  | succ fuel ih =>
    intro listed a w hfree hcl hr hy hS H
    refine ⟨fun h => (by rw [h] at hr; cases hr), fun j hj => ?_⟩
    by_cases hji : j = i
    · subst hji; exact hy.wpOp hi hS ⟨.inr hS, H⟩
    · have h1 := H.2 j (ready_mono hj hji)
      obtain ⟨hjun, oj, hoj, hall⟩ := mem_ready.1 hj
      have hnot : ∀ e ∈ oj.after, Region.binds .any e = true → e.on ≠ i := fun e he hb heq => by
        have h1 := hall e he hb
        have h0 := (mem_ready.1 hr).1
        rw [heq] at h1
        rcases Nat.lt_or_ge i listed.size with h' | h'
        · simp [h'] at h0 h1; rw [h0] at h1; cases h1
        · simp [Array.getElem?_eq_none h'] at h1
      have hjz : j ≠ z := by
        rintro rfl
        exact waits_not hcl hz hj (mem_ready.1 hr).1
      have hcl' : Closed ops (listed.setIfInBounds j true) := fun k ok hk hkl e he hb => by
        by_cases hjk : j = k
        · subst hjk
          rw [hoj] at hk
          cases hk
          exact getD_set_true (hall e he hb)
        · rw [getD_set_ne false hjk] at hkl
          exact getD_set_true (hcl k ok hk hkl e he hb)
      have h2 := wpOp_putIf hoj (hfree j oj hoj hji hjun hnot) (fun cs b => hsel i oi cs b hi) (fun cs b => hsel j oj cs b hoj) hQ hy h1
      have hfree' : ∀ k ok, ops[k]? = some ok → k ≠ i → (listed.setIfInBounds j true).getD k true = false →
          (∀ e ∈ ok.after, Region.binds .any e = true → e.on ≠ i) → oi.apart ops ok = true := fun k ok hk hki hun hno => by
        refine hfree k ok hk hki ?_ hno
        by_cases hjk : j = k
        · subst hjk; exact hjun
        · rw [getD_set_ne true hjk] at hun; exact hun
      refine wpOp_mono (fun a' w' h3 => ?_) h2
      have hSw : S w' := h3.2.1.resolve_left hjz
      refine ⟨.inr hSw, ih (listed.setIfInBounds j true) a' w' hfree' hcl' (ready_mono hr (Ne.symm hji)) h3.1 hSw ?_⟩
      rw [Array.setIfInBounds_comm _ _ hji]
      exact h3.2.2
theorem bstartE (S : World → Prop) (z : Nat) {id : Nat} {a : Act} {w : World} (hm : P.follows .mixedOrders = true) (hh : wpE P ops Q S z ops.size (Array.replicate ops.size false) a w.drew) : (Code.region id ops true).wp P Q a w :=
  wp_region_any hm (wpAny_of_E _ _ _ _ hh)
def okTakeE (ops : Array Oper) (listed : Array Bool) (z i : Nat) (ps : List Nat) : Bool := okTake ops listed i && chainE ops z ps i && closedB ops listed
theorem btakeE (i : Nat) (ps : List Nat) {oi : Oper} {v : Value} {fuel : Nat} {listed : Array Bool} {a : Act} {w : World} (hi : ops[i]? = some oi) (hok : okTakeE ops listed z i ps = true)
    (hQ : ∀ c a w, Q (.panic c) (a.put oi.dst v) w → Q (.panic c) a w) (hS : S w)
    (hy : (Region.wanted oi (yielded ops a.tmps) = true ∧ ∀ W, S W → (execOp a.eval oi).run P W = .ok (.value v) W) ∨ (Region.wanted oi (yielded ops a.tmps) = false ∧ v = undef))
    (hr : wpE P ops Q S z fuel (listed.setIfInBounds i true) (a.put oi.dst v) w) : wpE P ops Q S z (fuel + 1) listed a w := by
  simp only [okTakeE, okTake, Bool.and_eq_true] at hok
  exact wpE_first hi hok.1.2 (Region.noSelect_spec hok.1.1.1.1) hQ fuel listed a w (Region.free_spec hi hok.1.1.1.2) (closed_of hok.2) (by simpa using hok.1.1.2) hy hS hr
theorem bopE (i : Nat) {o : Oper} {fuel : Nat} {listed : Array Bool} {a : Act} {w : World} (hi : ops[i]? = some o) (hok : okOp ops listed i = true)
    (hw : Region.wanted o (yielded ops a.tmps) = true)
    (hr : ∀ K : Act → World → Prop, Shut (∀ a' w', S w' → wpE P ops Q S z fuel (listed.setIfInBounds i true) a' w' → K a' w') → o.wp P a w K Q) : wpE P ops Q S z (fuel + 1) listed a w := by
  have hok' : Region.ready .any ops listed = [i] := by simpa [okOp] using hok
  refine ⟨fun h0 => (by rw [hok'] at h0; cases h0), fun j hj => ?_⟩
  obtain rfl : j = i := by rw [hok'] at hj; simpa using hj
  unfold wpOp
  simp only [hi, hw, if_true]
  exact .inl (hr _ (fun a' w' hk hb => ⟨.inr hk, hb⟩))
theorem blastE (i : Nat) {o : Oper} {fuel : Nat} {listed : Array Bool} {a : Act} {w : World} (hi : ops[i]? = some o) (hok : okOp ops listed i = true) (hz : i = z)
    (hw : Region.wanted o (yielded ops a.tmps) = true)
    (hr : ∀ K : Act → World → Prop, Shut (∀ a' w', wpE P ops Q S z fuel (listed.setIfInBounds i true) a' w' → K a' w') → o.wp P a w K Q) : wpE P ops Q S z (fuel + 1) listed a w := by
  have hok' : Region.ready .any ops listed = [i] := by simpa [okOp] using hok
  refine ⟨fun h0 => (by rw [hok'] at h0; cases h0), fun j hj => ?_⟩
  obtain rfl : j = i := by rw [hok'] at hj; simpa using hj
  unfold wpOp
  simp only [hi, hw, if_true]
  exact .inl (hr _ (fun a' w' hb => ⟨.inl hz, hb⟩))
theorem bdoneE {fuel : Nat} {listed : Array Bool} {a : Act} {w : World} (hr : Region.ready .any ops listed = []) (hq : Q .normal a w) : wpE P ops Q S z fuel listed a w :=
  match fuel with
  | 0 => ⟨hr, hq⟩
  | _ + 1 => ⟨fun _ => hq, by rw [hr]; simp⟩
end
end Go.Proofs.Ythnbnhlfiehihaa

