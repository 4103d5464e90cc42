/- A region that draws its order, where nothing that is there is written: what only reads is taken as soon as it may come up; calls and new blocks come one behind another. -/
import Derived.Test.YthpooogjlmaemaaMem
import Derived.Deep.RegionHeld
namespace Go.Proofs.Ythpooogjlmaemaa
open Go.RowKit

/-- All that was there stands. -/
def KB (h : Array Obj) (W : World) : Prop := h.size ≤ W.heap.size ∧ ∀ k, k < h.size → W.heap[k]? = h[k]?
theorem KB.refl (w : World) : KB w.heap w := ⟨Nat.le_refl _, fun _ _ => rfl⟩
theorem KB.of {w W : World} (h : Below w.heap.size w W) : KB w.heap W := ⟨h.size, h.block⟩
theorem KB.ofN {w W : World} {_B : Nat} {row : Option Nat} (h : w.grownBy W row) (hr : ∀ g, row = some g → w.heap.size ≤ g) : KB w.heap W := ⟨h.size, fun k hk => h.block k hk (fun e => by have := hr k e.symm; omega)⟩
theorem KB.trans {h : Array Obj} {w W : World} (a : KB h w) (b : KB w.heap W) : KB h W := ⟨Nat.le_trans a.1 b.1, fun k hk => (b.2 k (Nat.lt_of_lt_of_le hk a.1)).trans (a.2 k hk)⟩
theorem KB.alloc (w : World) (o : Obj) : KB w.heap (w.alloc o) := ⟨by simp, fun k hk => Below.heap_alloc w o k hk⟩
theorem KB.cell {w W : World} (h : KB w.heap W) {p : Addr} (hp : p.block < w.heap.size) : W.cell? p = w.cell? p := World.cell?_of_block (w := w) (h.2 p.block hp)
theorem Sl.kb {w W : World} {B : Nat} {A : Option Addr} {xs : List Value} (h : Sl w B A xs) (k : KB w.heap W) : Sl W B A xs := h.keep k.1 fun _ _ hp => k.cell hp
theorem cellB {w : World} {p : Addr} {v : Value} (h : w.cell? p = some v) : ∀ W, KB w.heap W → W.cell? p = some v := fun _W hW => (hW.cell (World.block_lt_of_cell? w p h)).trans h
theorem convB {w : World} {B : Nat} {A : Option Addr} {l : List UInt8} (h : Sl w B A (bv l)) (n c : Nat) (hn : n = l.length) :
    ∀ W, KB w.heap W → (convert 28 9 (.slice A n c)).run Try.prog W = .ok (.string ⟨l.toArray⟩) W := fun _W hW => conv (h.kb hW) n c hn

def wpB (P : Program) (ops : Array Oper) (Q : Exit → Act → World → Prop) (h : Array Obj) (fuel : Nat) (listed : Array Bool) (a : Act) (w : World) : Prop := wpAnyH P .any ops Q (KB h) fuel listed a w
section
variable {P : Program} {ops : Array Oper} {Q : Exit → Act → World → Prop}
theorem wpAnyH_mono {md : Region.Mode} {S S' : World → Prop} (hs : ∀ w, S' w → S w) : ∀ (fuel : Nat) (listed : Array Bool) (a : Act) (w : World), wpAnyH P md ops Q S' fuel listed a w → wpAnyH P md ops Q S fuel listed a w
  | 0, _, _, _, h => h
  | fuel + 1, _, _, _, h => ⟨h.1, fun i hi => wpOp_mono (fun a' w' h' => ⟨hs _ h'.1, wpAnyH_mono hs fuel _ a' w' h'.2⟩) (h.2 i hi)⟩
theorem bstart {id : Nat} {a : Act} {w : World} (hm : P.follows .mixedOrders = true) (h : wpB P ops Q w.heap ops.size (Array.replicate ops.size false) a w.drew) : (Code.region id ops true).wp P Q a w := wp_region_held hm h
/-- The closed facts of a take, in one. -/
def okTake (ops : Array Oper) (listed : Array Bool) (i : Nat) : Bool := Region.noSelect ops && Region.free .any ops listed i && (Region.ready .any ops listed).contains i
theorem btake (i : Nat) {oi : Oper} {v : Value} {h : Array Obj} {fuel : Nat} {listed : Array Bool} {a : Act} {w : World} (hi : ops[i]? = some oi) (hok : okTake ops listed i = true)
    (hQ : ∀ c a w, Q (.panic c) (a.put oi.dst v) w → Q (.panic c) a w) (hS : KB h w)
    (hy : (Region.wanted oi (yielded ops a.tmps) = true ∧ ∀ W, KB h W → (execOp a.eval oi).run P W = .ok (.value v) W) ∨ (Region.wanted oi (yielded ops a.tmps) = false ∧ v = undef))
    (hr : wpB P ops Q h fuel (listed.setIfInBounds i true) (a.put oi.dst v) w) : wpB P ops Q h (fuel + 1) listed a w := by
  simp only [okTake, Bool.and_eq_true] at hok
  exact wpAnyH_take hi hok.1.1 hok.1.2 hok.2 hQ hy hS hr
def okOp (ops : Array Oper) (listed : Array Bool) (i : Nat) : Bool := Region.ready .any ops listed == [i]
theorem bop (i : Nat) {o : Oper} {h : Array Obj} {fuel : Nat} {listed : Array Bool} {a : Act} {w : World} (hi : ops[i]? = some o) (hok : okOp ops listed i = true) (hS : KB h w)
    (hw : Region.wanted o (yielded ops a.tmps) = true)
    (hr : ∀ K : Act → World → Prop, Shut (∀ a' w', KB w.heap w' → wpB P ops Q w'.heap fuel (listed.setIfInBounds i true) a' w' → K a' w') → o.wp P a w K Q) : wpB P ops Q h (fuel + 1) listed a w := by
  have hok' : Region.ready .any ops listed = [i] := by simpa [okOp] using hok
  refine wpAnyH_all hok' (by simp) fun j hj => ?_
  obtain rfl : j = i := by simpa using hj
  unfold wpOp
  simp only [hi, hw, if_true]
  exact .inl (hr _ (fun a' w' hk hb => ⟨hS.trans hk, wpAnyH_mono (fun W hW => (hS.trans hk).trans hW) _ _ _ _ hb⟩))
/-- The same two, for a region that turns memory: what is held is some other heap (what stands below a block). -/
theorem bstartH (h : Array Obj) {id : Nat} {a : Act} {w : World} (hm : P.follows .mixedOrders = true) (hh : wpB P ops Q h ops.size (Array.replicate ops.size false) a w.drew) : (Code.region id ops true).wp P Q a w := wp_region_held hm hh
theorem bopH (i : Nat) {o : Oper} {h : Array Obj} {fuel : Nat} {listed : Array Bool} {a : Act} {w : World} (hi : ops[i]? = some o) (hok : okOp ops listed i = true) (_hS : KB h w)
    (hw : Region.wanted o (yielded ops a.tmps) = true)
    (hr : ∀ K : Act → World → Prop, Shut (∀ a' w', KB h w' → wpB P ops Q h fuel (listed.setIfInBounds i true) a' w' → K a' w') → o.wp P a w K Q) : wpB P ops Q h (fuel + 1) listed a w := by
  have hok' : Region.ready .any ops listed = [i] := by simpa [okOp] using hok
  refine wpAnyH_all hok' (by simp) fun j hj => ?_
  obtain rfl : j = i := by simpa using hj
  unfold wpOp
  simp only [hi, hw, if_true]
  exact .inl (hr _ (fun a' w' hk hb => ⟨hk, hb⟩))
theorem bdone {h : Array Obj} {fuel : Nat} {listed : Array Bool} {a : Act} {w : World} (hr : Region.ready .any ops listed = []) (hq : Q .normal a w) : wpB P ops Q h fuel listed a w := wpAnyH_done hr hq fuel
/-! a call that leaves the world as it is may be taken as soon as it may come up -/
def QuietIf (P : Program) (ops : Array Oper) (S : World → Prop) (o : Oper) (v : Value) (a : Act) : Prop :=
  Region.wanted o (yielded ops a.tmps) = true ∧ ∃ f args, ∀ w, S w → (execOp a.eval o).run P w = .ok (.enter f args) w ∧ Calls P f args w (fun e w' => e = .returned v ∧ w = w')
theorem QuietIf.of_same {S : World → Prop} {o : Oper} {v : Value} {a a' : Act} (hy : QuietIf P ops S o v a) (he : execOp a'.eval o = execOp a.eval o)
    (hw : Region.wanted o (yielded ops a'.tmps) = Region.wanted o (yielded ops a.tmps)) : QuietIf P ops S o v a' := by
  unfold QuietIf at *
  rw [he, hw]
  exact hy
theorem QuietIf.wpOp {S : World → Prop} {i : Nat} {o : Oper} {v : Value} {a : Act} (hi : ops[i]? = some o) (hy : QuietIf P ops S o v a)
    {K : Act → World → Prop} {w : World} (hS : S w) (h : K (a.put o.dst v) w) : wpOp P ops Q i K a w := by
  unfold Go.wpOp
  simp only [hi]
  obtain ⟨hw, f, args, hv⟩ := hy
  simp only [hw, if_true, Oper.wp, (hv w hS).1, Oper.upon]
  refine .inl ((hv w hS).2.mono ?_)
  rintro e w' ⟨rfl, rfl⟩
  exact h
theorem wpOp_putQ {S : World → Prop} {j : Nat} {oi oj : Oper} {v : Value} (hj : ops[j]? = some oj) (hap : oi.apart ops oj = true)
    (hsi : ∀ cs b, oi.op ≠ .select cs b) (hsj : ∀ cs b, oj.op ≠ .select cs b)
    (hQ : ∀ c a w, Q (.panic c) (a.put oi.dst v) w → Q (.panic c) a w) {K : Act → World → Prop} {a : Act} {w : World}
    (hy : QuietIf P ops S oi v a) (h : wpOp P ops Q j K (a.put oi.dst v) w) :
    wpOp P ops Q j (fun a' w' => QuietIf P ops S oi v a' ∧ K (a'.put oi.dst v) w') a w := by
  obtain ⟨h1, h2, h3⟩ := Oper.apart_spec hap
  have keep : ∀ (a : Act), QuietIf P ops S oi v a → ∀ u, QuietIf P ops S oi v (a.put oj.dst u) := fun a hy u =>
    hy.of_same (execOp_put oi hsi a oj.dst u h3) (wanted_put oi a oj.dst u h3)
  have keepD : ∀ d, QuietIf P ops S oi v { a with defers := d :: a.defers } := fun d => hy.of_same rfl rfl
  unfold Go.wpOp at *
  simp only [hj] at *
  rw [wanted_put oj a oi.dst v h1] at h
  split
  · rename_i hw
    simp only [hw, if_true] at h
    rcases h with h | ⟨hasks, hlets⟩
    case inr => exact .inr ⟨by unfold Oper.asks at *; rw [execOp_put oj hsj a oi.dst v h1] at hasks; exact hasks, hlets⟩
    refine .inl ?_
    unfold Oper.wp at *
    rw [execOp_put oj hsj a oi.dst v h1] at h
    generalize (execOp a.eval oj).run P w = r at *
    cases r with
    | ok n w' =>
      cases n <;> simp only [Oper.upon] at h ⊢
      case value u => exact ⟨keep a hy u, by rw [← Act.put_comm a v u h2]; exact h⟩
      case skip => exact ⟨keep a hy _, by rw [← Act.put_comm a v undef h2]; exact h⟩
      case defer d =>
        refine ⟨keep _ (keepD d) _, ?_⟩
        rw [← Act.put_comm _ v undef h2, ← Act.put_defers]
        exact h
      case enter f args =>
        refine Calls.mono h fun e w'' he => ?_
        cases e with
        | returned u => exact ⟨keep a hy u, by rw [← Act.put_comm a v u h2]; exact he⟩
        | panicked c => exact hQ _ _ _ he
        | outgrown => exact he
      case row row args => exact Rows.mono h fun u w'' he => ⟨keep a hy u, by rw [← Act.put_comm a v u h2]; exact he⟩
    | halt x w' =>
      cases x <;> simp only [Oper.upon] at h ⊢
      case panic u => exact hQ _ _ _ h
  · rename_i hw
    simp only [hw] at h
    exact ⟨keep a hy _, by rw [← Act.put_comm a v undef h2]; exact h⟩
theorem wpAnyH_firstQ {md : Region.Mode} {S : World → Prop} {i : Nat} {oi : Oper} {v : Value} (hi : ops[i]? = some oi) (hsel : ∀ (j : Nat) (o : Oper) cs b, ops[j]? = some o → o.op ≠ .select cs b)
    (hQ : ∀ c a w, Q (.panic c) (a.put oi.dst v) w → Q (.panic c) a w) :
    ∀ (fuel : Nat) (listed : Array Bool) (a : Act) (w : World),
      (∀ j oj, ops[j]? = some oj → j ≠ i → listed.getD j true = false → (∀ e ∈ oj.after, Region.binds md e = true → e.on ≠ i) → oi.apart ops oj = true) →
      i ∈ Region.ready md ops listed → QuietIf P ops S oi v a → S w →
      wpAnyH P md ops Q S fuel (listed.setIfInBounds i true) (a.put oi.dst v) w → wpAnyH P md ops Q S (fuel + 1) listed a w := by
  intro fuel
  induction fuel with
  | zero =>
    intro listed a w _ hr hy hS H
    refine ⟨fun h => (by rw [h] at hr; cases hr), fun j hj => ?_⟩
    by_cases hji : j = i
    · subst hji; exact hy.wpOp hi hS ⟨hS, H⟩
    · have := ready_mono hj hji
      rw [H.1] at this
      cases this
  | succ fuel ih =>
    intro listed a w hfree hr hy hS H
    refine ⟨fun h => (by rw [h] at hr; cases hr), fun j hj => ?_⟩
    by_cases hji : j = i
    · subst hji; exact hy.wpOp hi hS ⟨hS, H⟩
    · have h1 := H.2 j (ready_mono hj hji)
      obtain ⟨hjun, oj, hoj, hall⟩ := mem_ready.1 hj
      have hnot : ∀ e ∈ oj.after, Region.binds md e = true → e.on ≠ i := fun e he hb heq => by
        have h1 := hall e he hb
        have h0 := (mem_ready.1 hr).1
        rw [heq] at h1
        rcases Nat.lt_or_ge i listed.size with h' | h'
        · simp [h'] at h0 h1; rw [h0] at h1; cases h1
        · simp [Array.getElem?_eq_none h'] at h1
      have h2 := wpOp_putQ hoj (hfree j oj hoj hji hjun hnot) (fun cs b => hsel i oi cs b hi) (fun cs b => hsel j oj cs b hoj) hQ hy h1
      have hfree' : ∀ k ok, ops[k]? = some ok → k ≠ i → (listed.setIfInBounds j true).getD k true = false →
          (∀ e ∈ ok.after, Region.binds md e = true → e.on ≠ i) → oi.apart ops ok = true := fun k ok hk hki hun hno => by
        refine hfree k ok hk hki ?_ hno
        by_cases hjk : j = k
        · subst hjk; exact hjun
        · rw [getD_set_ne true hjk] at hun; exact hun
      refine wpOp_mono (fun a' w' h3 => ⟨h3.2.1, ih (listed.setIfInBounds j true) a' w' hfree' (ready_mono hr (Ne.symm hji)) h3.1 h3.2.1 ?_⟩) h2
      rw [Array.setIfInBounds_comm _ _ hji]
      exact h3.2.2
theorem bquiet (i : Nat) {oi : Oper} (v : Value) {f : FuncId} {args : Array Value} {h : Array Obj} {fuel : Nat} {listed : Array Bool} {a : Act} {w : World} (hi : ops[i]? = some oi) (hok : okTake ops listed i = true)
    (hQ : ∀ c a w, Q (.panic c) (a.put oi.dst v) w → Q (.panic c) a w) (hS : KB h w)
    (hw : Region.wanted oi (yielded ops a.tmps) = true) (hrun : ∀ W, KB h W → (execOp a.eval oi).run P W = .ok (.enter f args) W)
    (hc : ∀ W, KB h W → Calls P f args W (fun e w' => e = .returned v ∧ W = w'))
    (hr : wpB P ops Q h fuel (listed.setIfInBounds i true) (a.put oi.dst v) w) : wpB P ops Q h (fuel + 1) listed a w := by
  simp only [okTake, Bool.and_eq_true] at hok
  exact wpAnyH_firstQ hi (Region.noSelect_spec hok.1.1) hQ fuel listed a w (Region.free_spec hi hok.1.2) (by simpa using hok.2) ⟨hw, f, args, fun W hW => ⟨hrun W hW, hc W hW⟩⟩ hS hr
end
end Go.Proofs.Ythpooogjlmaemaa

