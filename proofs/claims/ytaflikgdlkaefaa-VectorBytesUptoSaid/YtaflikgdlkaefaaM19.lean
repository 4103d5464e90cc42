/- A region that draws its order, with rows of bytes of the call's own that grow where they lie: an operation may take up what another one made, and change its block; whatever else there is stands. -/
import Derived.SizedLaws
import Derived.Deep.CondSized
import Derived.JoinedCond
import Derived.ChangeOld
import Derived.Carry
import Derived.ShutString
import Derived.Test.YtaflikgdlkaefaaM00
import Derived.Test.YtaflikgdlkaefaaM10
import Derived.Test.YtaflikgdlkaefaaM11
import Derived.Test.YtaflikgdlkaefaaM13
import Derived.Test.YtaflikgdlkaefaaM16
import Derived.Test.YtaflikgdlkaefaaM18
namespace Go.Proofs.Ytaflikgdlkaefaa
open Go.RowKit

structure YldV where
  j : Nat
  d : Option Tmp
  cons : Option Nat
  pr : Value → World → Prop
  st : ∀ (v : Value) (w w' : World), pr v w → Below w.heap.size w w' → pr v w'
def YldV.y (s : YldV) : Yld := ⟨s.j, s.d, fun _ _ => True, fun _ _ _ _ _ => trivial⟩
def putv (L : List YldV) (vs : Nat → Value) (a : Act) : Act := puts (L.map YldV.y) vs a
/-- a value that is known -/
def YldV.eq (j : Nat) (d : Option Tmp) (cons : Option Nat) (x : Value) : YldV := ⟨j, d, cons, fun v _ => v = x, fun _ _ _ h _ => h⟩
/-- a block of which the cells are known -/
def YldV.at (j : Nat) (d : Option Tmp) (cons : Option Nat) (us : List Value) : YldV := ⟨j, d, cons, fun v w => ∃ g, v = .pointer (some ⟨g, 0, none⟩) ∧ At w g us, fun _ _ _ ⟨g, e, h⟩ hb => ⟨g, e, h.below hb⟩⟩
/-- whatever is said of a value, where it stands -/
def YldV.sl (j : Nat) (d : Option Tmp) (cons : Option Nat) (pr : Value → World → Prop) (st : ∀ (v : Value) (w w' : World), pr v w → Below w.heap.size w w' → pr v w') : YldV := ⟨j, d, cons, pr, st⟩
def YldV.own (j : Nat) (d : Option Tmp) (cons : Option Nat) (B : Nat) (l : List UInt8) : YldV := ⟨j, d, cons, fun v w => OwnB w B v l, fun _ _ _ h hb => h.below hb⟩
section
variable {P : Program} {ops : Array Oper} {Q : Exit → Act → World → Prop}
def liveV (listed : Array Bool) (t : YldV) : Prop := listed.getD t.j true = true ∧ ∀ c, t.cons = some c → listed.getD c true = false
/-- what a step must bring: its value, the block that it changed, and where its own value lies -/
def StepV (ops : Array Oper) (L : List YldV) (vs : Nat → Value) (s : YldV) (W : World) (v : Value) (w' : World) : Prop :=
  s.pr v w' ∧ (∃ row, W.grownBy w' row ∧ (row = none ∨ ∃ t ∈ L, (waits ops s.j).contains t.j = true ∧ t.cons = some s.j ∧ row = (vs t.j).bk) ∧ row = none) ∧
  (v.bk = none ∨ (∃ t ∈ L, (waits ops s.j).contains t.j = true ∧ t.cons = some s.j ∧ v.bk = (vs t.j).bk) ∨ ∃ g, v.bk = some g ∧ W.heap.size ≤ g ∧ g < w'.heap.size)
theorem putv_upd (L : List YldV) (vs : Nat → Value) (a : Act) (s : YldV) (v : Value) (hn : parNodup (L.map YldV.y)) (hs : s ∈ L) : putv L (upd vs s.j v) a = (putv L vs a).put s.d v :=
  puts_upd (L.map YldV.y) vs a s.y v hn (List.mem_map.2 ⟨s, hs, rfl⟩)
theorem nodupV_eq : ∀ {L : List YldV}, parNodup (L.map YldV.y) → ∀ {s t : YldV}, s ∈ L → t ∈ L → s.j = t.j → s = t
  | [], _, _, _, h, _, _ => by cases h
  | x :: L, hn, s, t, hs, ht, e => by
    rcases List.mem_cons.1 hs with rfl | hs'
    · rcases List.mem_cons.1 ht with rfl | ht'
      · rfl
      · exact absurd e.symm ((hn.1 t.y (List.mem_map.2 ⟨t, ht', rfl⟩)).1)
    · rcases List.mem_cons.1 ht with rfl | ht'
      · exact absurd e ((hn.1 s.y (List.mem_map.2 ⟨s, hs', rfl⟩)).1)
      · exact nodupV_eq hn.2 hs' ht' e
def unlV (L : List YldV) (listed : Array Bool) : Nat := (L.filter (fun t => !listed.getD t.j true)).length
theorem unlV_zero {L : List YldV} {listed : Array Bool} (h : unlV L listed = 0) : ∀ t ∈ L, listed.getD t.j true = true := by
  intro t ht
  have h' : L.filter (fun t => !listed.getD t.j true) = [] := List.eq_nil_of_length_eq_zero h
  have := List.filter_eq_nil_iff.1 h' t ht
  simpa using this
theorem unlV_set : ∀ (L : List YldV) (listed : Array Bool) (s : YldV), parNodup (L.map YldV.y) → s ∈ L → listed.getD s.j true = false → unlV L (listed.setIfInBounds s.j true) + 1 = unlV L listed
  | [], _, _, _, h, _ => by cases h
  | x :: L, listed, s, hn, hs, hu => by
    have hin : s.j < listed.size := by
      have := (List.getElem?_eq_some_iff.1 (getD_false.1 hu)).1
      simpa using this
    have hset : (listed.setIfInBounds s.j true).getD s.j true = true := by simp [Array.getD, hin]
    by_cases hx : x = s
    · subst hx
      have hrest : ∀ t ∈ L, (!(listed.setIfInBounds x.j true).getD t.j true) = !listed.getD t.j true := by
        intro t ht
        have hne : t.j ≠ x.j := (hn.1 t.y (List.mem_map.2 ⟨t, ht, rfl⟩)).1
        rw [getD_set_ne true (Ne.symm hne)]
      unfold unlV
      rw [List.filter_cons_of_neg (by rw [hset]; simp), List.filter_cons_of_pos (by rw [hu]; rfl), List.length_cons, List.filter_congr hrest]
    · have hsL : s ∈ L := by
        rcases List.mem_cons.1 hs with e | h
        · exact absurd e.symm hx
        · exact h
      have hne : x.j ≠ s.j := Ne.symm (hn.1 s.y (List.mem_map.2 ⟨s, hsL, rfl⟩)).1
      have ih := unlV_set L listed s hn.2 hsL hu
      unfold unlV at *
      simp only [List.filter_cons, getD_set_ne true (Ne.symm hne)]
      split
      · simp only [List.length_cons]; omega
      · exact ih
def finV (L : List YldV) (listed : Array Bool) : Array Bool := L.foldl (fun a s => a.setIfInBounds s.j true) listed
theorem finV_size : ∀ (L : List YldV) (listed : Array Bool), (finV L listed).size = listed.size
  | [], _ => rfl
  | x :: L, listed => by
    show (finV L (listed.setIfInBounds x.j true)).size = _
    rw [finV_size L]; simp
theorem finV_get : ∀ (L : List YldV) (listed : Array Bool) (i : Nat), (finV L listed).getD i true = true ∨ ((finV L listed).getD i true = listed.getD i true ∧ ∀ t ∈ L, t.j ≠ i)
  | [], listed, i => .inr ⟨rfl, by simp⟩
  | x :: L, listed, i => by
    show (finV L (listed.setIfInBounds x.j true)).getD i true = true ∨ ((finV L (listed.setIfInBounds x.j true)).getD i true = listed.getD i true ∧ ∀ t ∈ x :: L, t.j ≠ i)
    rcases finV_get L (listed.setIfInBounds x.j true) i with h | ⟨h1, h2⟩
    · exact .inl h
    · by_cases he : x.j = i
      · subst he
        left
        rw [h1]
        by_cases hin : x.j < listed.size
        · simp [Array.getD, hin]
        · simp [Array.getD, hin]
      · rw [getD_set_ne true he] at h1
        refine .inr ⟨h1, fun t ht => ?_⟩
        rcases List.mem_cons.1 ht with rfl | ht
        · exact he
        · exact h2 t ht
theorem boolsV_eq {a b : Array Bool} (hs : a.size = b.size) (h : ∀ i, a.getD i true = b.getD i true) : a = b := by
  apply Array.ext hs
  intro i h1 h2
  have := h i
  simpa [Array.getD, h1, h2] using this
/-- all that a place waits for, near and far -/
def reachV (ops : Array Oper) : Nat → List Nat → List Nat
  | 0, js => js
  | n + 1, js => js ++ reachV ops n (js.flatMap (waits ops))
def shutV (ops : Array Oper) (listed : Array Bool) : Prop := ∀ j, listed.getD j true = true → j < ops.size → ∀ i ∈ waits ops j, listed.getD i true = true
theorem reachV_listed {listed : Array Bool} (hc : shutV ops listed) : ∀ (n : Nat) (js : List Nat), (∀ j ∈ js, j < ops.size ∧ listed.getD j true = true) → (∀ j, j < ops.size → ∀ i ∈ waits ops j, i < ops.size) → ∀ i ∈ reachV ops n js, listed.getD i true = true
  | 0, js, h, _, i, hi => (h i hi).2
  | n + 1, js, h, hb, i, hi => by
    rcases List.mem_append.1 hi with hi | hi
    · exact (h i hi).2
    · refine reachV_listed hc n _ (fun k hk => ?_) hb i hi
      obtain ⟨j, hj, hk⟩ := List.mem_flatMap.1 hk
      exact ⟨hb j (h j hj).1 k hk, hc j (h j hj).2 (h j hj).1 k hk⟩
/-- the closed facts of bparV -/
def okV_ (ops : Array Oper) (L : List YldV) (listed : Array Bool) : Bool :=
  parOk ops (L.map YldV.y) && parNodupB (L.map YldV.y) && listed.size == ops.size && L.all (fun s => !listed.getD s.j true) &&
  (List.range ops.size).all (fun j => (!listed.getD j true || (waits ops j).all (fun i => listed.getD i true)) && (listed.getD j true || L.any (·.j == j) || L.all (fun s => (reachV ops ops.size (waits ops j)).contains s.j)))
theorem waitsV_bd {L : List Yld} (hok : parOk ops L = true) : ∀ j, j < ops.size → ∀ i ∈ waits ops j, i < ops.size := by
  intro j hj i hi
  simp only [parOk, Bool.and_eq_true, List.all_eq_true, List.mem_range, decide_eq_true_eq] at hok
  have := hok.2 j hj i hi
  omega
theorem bparV_aux (L : List YldV) (listed0 : Array Bool) (hokV_ : okV_ ops L listed0 = true) {a0 : Act} {w0 : World} {f0 : Nat}
    (hstep : ∀ s ∈ L, ∀ (vs : Nat → Value) (W : World), Below w0.heap.size w0 W → (∀ t ∈ L, (waits ops s.j).contains t.j = true → (t.cons = none ∨ t.cons = some s.j) → t.pr (vs t.j) W ∧ ∀ g, (vs t.j).bk = some g → w0.heap.size ≤ g ∧ g < W.heap.size) →
      wpOp P ops Q s.j (fun a' w' => ∃ v, a' = (putv L vs a0).put s.d v ∧ StepV ops L vs s W v w') (putv L vs a0) W)
    (hend : ∀ (vs : Nat → Value) (W : World), Below w0.heap.size w0 W → (∀ t ∈ L, t.cons = none → t.pr (vs t.j) W ∧ ∀ g, (vs t.j).bk = some g → w0.heap.size ≤ g ∧ g < W.heap.size) → (∀ t ∈ L, ∀ t' ∈ L, t.cons = none → t'.cons = none → t.j ≠ t'.j → (vs t.j).bk = none ∨ (vs t.j).bk ≠ (vs t'.j).bk) → wpB P ops Q w0.heap f0 (finV L listed0) (putv L vs a0) W) :
    ∀ (m : Nat) (listed : Array Bool) (vs : Nat → Value) (w : World), unlV L listed = m → listed.size = ops.size → (∀ i, (∀ t ∈ L, t.j ≠ i) → listed.getD i true = listed0.getD i true) → shutV ops listed →
      (∀ t ∈ L, liveV listed t → t.pr (vs t.j) w) → (∀ t ∈ L, liveV listed t → ∀ g, (vs t.j).bk = some g → w0.heap.size ≤ g ∧ g < w.heap.size) →
      (∀ t ∈ L, ∀ t' ∈ L, liveV listed t → liveV listed t' → t.j ≠ t'.j → (vs t.j).bk = none ∨ (vs t.j).bk ≠ (vs t'.j).bk) →
      Below w0.heap.size w0 w → wpB P ops Q w0.heap (m + f0) listed (putv L vs a0) w := by
  simp only [okV_, Bool.and_eq_true, beq_iff_eq] at hokV_
  obtain ⟨⟨⟨⟨hok, hnB⟩, hsz0⟩, hun0⟩, hgr⟩ := hokV_
  have hn := parNodup_of hnB
  have hgr' : ∀ j, j < ops.size → listed0.getD j true = false → (∀ t ∈ L, t.j ≠ j) → ∀ t ∈ L, t.j ∈ reachV ops ops.size (waits ops j) := by
    intro j hj hl hno t ht
    have := (List.all_eq_true.1 hgr) j (List.mem_range.2 hj)
    simp only [Bool.and_eq_true, Bool.or_eq_true] at this
    rcases this.2 with (h | h) | h
    · rw [hl] at h; cases h
    · obtain ⟨t', ht', he⟩ := List.any_eq_true.1 h
      exact absurd (by simpa using he) (hno t' ht')
    · simpa using (List.all_eq_true.1 h) t ht
  intro m
  induction m with
  | zero =>
    intro listed vs w hm hs hsame hshut hpr hbl hds hb
    have hall := unlV_zero hm
    have : listed = finV L listed0 := by
      refine boolsV_eq (by rw [finV_size]; omega) fun i => ?_
      rcases finV_get L listed0 i with h | ⟨h1, h2⟩
      · rw [h]
        by_cases hi : ∃ t ∈ L, t.j = i
        · obtain ⟨t, ht, rfl⟩ := hi; exact hall t ht
        · have h2 : ∀ t ∈ L, t.j ≠ i := fun t ht e => hi ⟨t, ht, e⟩
          rw [hsame i h2]
          have : ∀ (M : List YldV) (l : Array Bool), (∀ t ∈ M, t.j ≠ i) → (finV M l).getD i true = l.getD i true := by
            intro M
            induction M with
            | nil => intro l _; rfl
            | cons x M ihM =>
              intro l hM
              show (finV M (l.setIfInBounds x.j true)).getD i true = _
              rw [ihM _ fun t ht => hM t (List.mem_cons_of_mem _ ht), getD_set_ne true (hM x (List.mem_cons_self ..))]
          rw [← this L listed0 h2]; exact h
      · rw [h1, hsame i h2]
    subst this
    rw [Nat.zero_add]
    exact hend vs w hb (fun t ht hc => ⟨hpr t ht ⟨hall t ht, fun c h => by rw [hc] at h; cases h⟩, hbl t ht ⟨hall t ht, fun c h => by rw [hc] at h; cases h⟩⟩) fun t ht t' ht' hc hc' hne => hds t ht t' ht' ⟨hall t ht, fun c h => by rw [hc] at h; cases h⟩ ⟨hall t' ht', fun c h => by rw [hc'] at h; cases h⟩ hne
  | succ m ih =>
    intro listed vs w hm hs hsame hshut hpr hbl hds hb
    have hex : ∃ t ∈ L, listed.getD t.j true = false := by
      have : (L.filter (fun t => !listed.getD t.j true)) ≠ [] := by
        intro e; unfold unlV at hm; rw [e] at hm; simp at hm
      obtain ⟨t, ht⟩ := List.exists_mem_of_ne_nil _ this
      obtain ⟨h1, h2⟩ := List.mem_filter.1 ht
      exact ⟨t, h1, by simpa using h2⟩
    rw [show m + 1 + f0 = (m + f0) + 1 by omega]
    refine ⟨fun hr => ?_, fun j hj => ?_⟩
    · obtain ⟨t, _, hu⟩ := hex
      exact absurd hu (ready_nil hok hs hr t.j)
    obtain ⟨hju, o, ho, hdep⟩ := mem_ready.1 hj
    have hjlt : j < ops.size := (Array.getElem?_eq_some_iff.1 ho).1
    have hdepw : ∀ i ∈ waits ops j, listed.getD i true = true := by
      intro i hw
      unfold waits at hw
      rw [ho] at hw
      simp only [Option.map_some, Option.getD_some, List.mem_filterMap] at hw
      obtain ⟨e, he, heq⟩ := hw
      split at heq
      · rename_i hb
        injection heq with heq
        have := hdep e (by simpa using he) hb
        rw [heq] at this
        by_cases hb' : i < listed.size
        · simp [Array.getD, hb'] at this ⊢; exact this
        · simp [Array.getD, hb'] at this
      · cases heq
    have hsL' : ∃ s ∈ L, s.j = j := by
      refine Classical.byContradiction fun hno => ?_
      have hno' : ∀ t ∈ L, t.j ≠ j := fun t ht e => hno ⟨t, ht, e⟩
      obtain ⟨t, ht, hu⟩ := hex
      have h1 := hgr' j hjlt (by rw [← hsame j hno']; exact hju) hno' t ht
      have h2 := reachV_listed hshut ops.size (waits ops j) (fun i hi => ⟨waitsV_bd hok j hjlt i hi, hdepw i hi⟩) (waitsV_bd hok) t.j h1
      rw [hu] at h2; cases h2
    obtain ⟨s, hsL, rfl⟩ := hsL'
    have hdl : ∀ t : YldV, (waits ops s.j).contains t.j = true → (t.cons = none ∨ t.cons = some s.j) → liveV listed t := by
      intro t hw hcons
      refine ⟨hdepw t.j (by simpa using hw), fun c h => ?_⟩
      rcases hcons with h' | h'
      · rw [h'] at h; cases h
      · rw [h'] at h; injection h with h; subst h; exact hju
    refine wpOp_mono ?_ (hstep s hsL vs w hb fun t ht hw hcons => ⟨hpr t ht (hdl t hw hcons), hbl t ht (hdl t hw hcons)⟩)
    rintro a' w' ⟨v, rfl, hv, ⟨row, hg, hrow, hrn⟩, hvb⟩
    have hrowB : ∀ g, row = some g → w0.heap.size ≤ g := by
      intro g e
      rcases hrow with h | ⟨t, ht, hw, hcons, h⟩
      · rw [h] at e; cases e
      · exact (hbl t ht (hdl t hw (.inr hcons)) g (by rw [← h]; exact e)).1
    have hb' : Below w0.heap.size w0 w' := hb.trans (below_of_grown hg hrowB hb.size)
    refine ⟨KB.of hb', ?_⟩
    rw [← putv_upd L vs a0 s v hn hsL]
    have hlive : ∀ t ∈ L, t.j ≠ s.j → liveV (listed.setIfInBounds s.j true) t → liveV listed t ∧ t.cons ≠ some s.j := by
      intro t ht hne hl
      refine ⟨⟨?_, fun c hcc => ?_⟩, fun hcs => ?_⟩
      · have := hl.1; rwa [getD_set_ne true (Ne.symm hne)] at this
      · have := hl.2 c hcc
        by_cases he : s.j = c
        · subst he; exact hju
        · rwa [getD_set_ne true he] at this
      · have := hl.2 s.j hcs
        have hlt : s.j < listed.size := by
          have := (List.getElem?_eq_some_iff.1 (getD_false.1 hju)).1
          simpa using this
        simp [Array.getD, hlt] at this
    have hsameV : ∀ t : YldV, t.j ≠ s.j → upd vs s.j v t.j = vs t.j := fun t h => if_neg h
    have hself : upd vs s.j v s.j = v := if_pos rfl
    refine ih _ _ _ ?_ (by simpa using hs) ?_ ?_ ?_ ?_ ?_ hb'
    · have := unlV_set L listed s hn hsL hju
      omega
    · intro i hi
      rw [getD_set_ne true (hi s hsL)]
      exact hsame i hi
    · intro i hi hilt k hk
      by_cases he : s.j = i
      · subst he
        have hks : s.j ≠ k := by
          intro e
          subst e
          simp only [parOk, Bool.and_eq_true, List.all_eq_true, List.mem_range, decide_eq_true_eq] at hok
          have := hok.2 s.j hilt s.j hk
          omega
        rw [getD_set_ne true hks]
        exact hdepw k hk
      · rw [getD_set_ne true he] at hi
        have := hshut i hi hilt k hk
        by_cases hks : s.j = k
        · subst hks; rw [hju] at this; cases this
        · rwa [getD_set_ne true hks]
    · intro t ht hl
      by_cases he : t.j = s.j
      · have hts := nodupV_eq hn ht hsL he
        subst hts
        rw [hself]; exact hv
      · rw [hsameV t he]
        exact t.st _ _ _ (hpr t ht (hlive t ht he hl).1) (below_of_grown hg (fun g e => by rw [hrn] at e; cases e) (Nat.le_refl _))
    · intro t ht hl g hgb
      by_cases he : t.j = s.j
      · have hts := nodupV_eq hn ht hsL he
        subst hts
        rw [hself] at hgb
        rcases hvb with h | ⟨t0, ht0, hw0, hc0, h⟩ | ⟨g', h, h1, h2⟩
        · rw [h] at hgb; cases hgb
        · obtain ⟨q1, q2⟩ := hbl t0 ht0 (hdl t0 hw0 (.inr hc0)) g (by rw [← h]; exact hgb)
          exact ⟨q1, Nat.lt_of_lt_of_le q2 hg.size⟩
        · rw [h] at hgb; injection hgb with e; subst e
          exact ⟨Nat.le_trans hb.size h1, h2⟩
      · rw [hsameV t he] at hgb
        obtain ⟨q1, q2⟩ := hbl t ht (hlive t ht he hl).1 g hgb
        exact ⟨q1, Nat.lt_of_lt_of_le q2 hg.size⟩
    · have one : ∀ t ∈ L, t.j ≠ s.j → liveV (listed.setIfInBounds s.j true) t → v.bk = none ∨ v.bk ≠ (vs t.j).bk := by
        intro t ht he hl
        obtain ⟨hl', hcs⟩ := hlive t ht he hl
        rcases hvb with h | ⟨t0, ht0, hw0, hc0, h⟩ | ⟨g', h, h1, h2⟩
        · exact .inl h
        · rw [h]
          exact hds t0 ht0 t ht (hdl t0 hw0 (.inr hc0)) hl' fun e => hcs (by rw [nodupV_eq hn ht ht0 e.symm]; exact hc0)
        · right
          rw [h]
          intro e
          have := (hbl t ht hl' g' e.symm).2
          omega
      intro t ht t' ht' hl hl' hne
      by_cases he : t.j = s.j
      · have hts := nodupV_eq hn ht hsL he
        subst hts
        have he' : t'.j ≠ t.j := Ne.symm hne
        rw [hself, hsameV t' he']
        exact one t' ht' he' hl'
      · by_cases he' : t'.j = s.j
        · have hts := nodupV_eq hn ht' hsL he'
          subst hts
          rw [hself, hsameV t he]
          rcases one t ht he hl with h | h
          · cases hv' : (vs t.j).bk with
            | none => exact .inl rfl
            | some k => right; rw [h]; simp
          · exact .inr (Ne.symm h)
        · rw [hsameV t he, hsameV t' he']
          exact hds t ht t' ht' (hlive t ht he hl).1 (hlive t' ht' he' hl').1 hne
/-- These operations of a region, in whatever order; the others wait for all of them. -/
theorem bparV (L : List YldV) {a0 : Act} (f0 : Nat) {fuel : Nat} {listed : Array Bool} {w : World} {h : Array Obj} (hh : h = w.heap) (hok : okV_ ops L listed = true) (hf : fuel = L.length + f0)
    (hstep : ∀ s ∈ L, ∀ (vs : Nat → Value) (W : World), Below w.heap.size w W → (∀ t ∈ L, (waits ops s.j).contains t.j = true → (t.cons = none ∨ t.cons = some s.j) → t.pr (vs t.j) W ∧ ∀ g, (vs t.j).bk = some g → w.heap.size ≤ g ∧ g < W.heap.size) →
      wpOp P ops Q s.j (fun a' w' => ∃ v, a' = (putv L vs a0).put s.d v ∧ StepV ops L vs s W v w') (putv L vs a0) W)
    (hend : ∀ (vs : Nat → Value) (W : World), Below w.heap.size w W → (∀ t ∈ L, t.cons = none → t.pr (vs t.j) W ∧ ∀ g, (vs t.j).bk = some g → w.heap.size ≤ g ∧ g < W.heap.size) → (∀ t ∈ L, ∀ t' ∈ L, t.cons = none → t'.cons = none → t.j ≠ t'.j → (vs t.j).bk = none ∨ (vs t.j).bk ≠ (vs t'.j).bk) → wpB P ops Q w.heap f0 (finV L listed) (putv L vs a0) W) : wpB P ops Q h fuel listed a0 w := by
  subst hh
  have hok2 := hok
  simp only [okV_, Bool.and_eq_true, beq_iff_eq] at hok2
  obtain ⟨⟨⟨⟨hok', hnB⟩, hsz0⟩, hun0⟩, hgr⟩ := hok2
  obtain ⟨vs, hvs⟩ := puts_self (L.map YldV.y) a0 (parNodup_of hnB)
  have hunl : ∀ t ∈ L, listed.getD t.j true = false := fun t ht => by simpa using (List.all_eq_true.1 hun0) t ht
  have hno : ∀ t ∈ L, ¬ liveV listed t := fun t ht hl => by have h1 := hl.1; rw [hunl t ht] at h1; cases h1
  have hm : unlV L listed = L.length := by
    unfold unlV
    rw [List.filter_eq_self.2 fun t ht => by rw [hunl t ht]; rfl]
  have := bparV_aux (P := P) (Q := Q) L listed hok hstep hend L.length listed vs w hm hsz0 (fun i _ => rfl) (fun j hj hjlt i hi => ?_) (fun t ht hl => absurd hl (hno t ht)) (fun t ht hl => absurd hl (hno t ht)) (fun t ht _ _ hl => absurd hl (hno t ht)) (Below.refl _ _)
  · unfold putv at this; rw [hvs] at this; rw [hf]; exact this
  · have := (List.all_eq_true.1 hgr) j (List.mem_range.2 hjlt)
    simp only [Bool.and_eq_true, Bool.or_eq_true] at this
    rcases this.1 with h | h
    · rw [hj] at h; cases h
    · exact (List.all_eq_true.1 h) i hi
theorem grownBelowV {w w' : World} (h : Below w.heap.size w w') (row : Option Nat) : w.grownBy w' row := ⟨h.os, h.tape, h.output, h.size, fun k hk _ => h.block k hk⟩
theorem StepV.quiet {L : List YldV} {vs : Nat → Value} {s : YldV} {W w' : World} {v : Value} (hpr : s.pr v w') (hb : Below W.heap.size W w') (h0 : v.bk = none) : StepV ops L vs s W v w' :=
  ⟨hpr, ⟨none, grownBelowV hb none, .inl rfl, rfl⟩, .inl h0⟩
theorem StepV.new {L : List YldV} {vs : Nat → Value} {j : Nat} {d : Option Tmp} {cons : Option Nat} {us : List Value} {W w' : World} {g : Nat} (ha : At w' g us) (hb : Below W.heap.size W w') (hg : W.heap.size ≤ g) : StepV ops L vs (YldV.at j d cons us) W (.pointer (some ⟨g, 0, none⟩)) w' :=
  ⟨⟨g, rfl, ha⟩, ⟨none, grownBelowV hb none, .inl rfl, rfl⟩, .inr (.inr ⟨g, rfl, hg, ha.1⟩)⟩
theorem parV_of {j : Nat} {o : Oper} {d : Option Tmp} {R : Value → World → Prop} {a : Act} {w : World} (ho : ops[j]? = some o) (hw : Region.wanted o (yielded ops a.tmps) = true)
    (h : ∀ K : Act → World → Prop, Shut (∀ (a' : Act) (v : Value) (w' : World), a' = a.put d v → R v w' → K a' w') → o.wp P a w K Q) :
    wpOp P ops Q j (fun a' w' => ∃ v, a' = a.put d v ∧ R v w') a w :=
  wpOp_of ho hw (h _ (fun _a' v _w' h1 h2 => ⟨v, h1, h2⟩))
end
end Go.Proofs.Ytaflikgdlkaefaa
/- A box that holds a vector: the vectors that stand do not lie in it. -/
namespace Go.Proofs.Ytaflikgdlkaefaa
open Go.RowKit Go.Proofs.Ytaflikgdlkaefaa.Sp Go.Proofs.Ytaflikgdlkaefaa.Ve
set_option maxRecDepth 20000

/-- a box, known whole -/
def Bx (w : World) (g : Nat) (v : Value) : Prop := w.heap[g]? = some (.cells #[v] 27)
theorem Bx.new (w : World) (v : Value) : Bx (w.alloc (.cells #[v] 27)) w.heap.size v := World.alloc_heap_new w _
theorem Bx.lt {w : World} {g : Nat} {v : Value} (h : Bx w g v) : g < w.heap.size := (Array.getElem?_eq_some_iff.1 h).1
theorem Bx.cell {w : World} {g : Nat} {v : Value} (h : Bx w g v) (o : Nat) : w.cell? ⟨g, o, none⟩ = [v][o]? := by
  unfold Bx at h
  simp [World.cell?, h]
theorem Bx.at_ {w : World} {g : Nat} {v : Value} (h : Bx w g v) : At w g [v] := ⟨h.lt, fun i u hu => ⟨(h.cell i).trans hu, by simp [World.frozen?, show w.heap[g]? = _ from h]⟩⟩
theorem Bx.set {w : World} {g : Nat} {v : Value} (h : Bx w g v) (u : Value) : Bx (w.setCell ⟨g, 0, none⟩ u) g u := by
  obtain ⟨hlt, hk⟩ := Array.getElem?_eq_some_iff.1 h
  show (w.heap.modify g _)[g]? = _
  rw [Array.getElem?_eq_getElem (by rw [Array.size_modify]; exact hlt), Array.getElem_modify_self, hk]
  simp
theorem Bx.grown {w w' : World} {g : Nat} {v : Value} (h : Bx w g v) {row : Option Nat} (hg : w.grownBy w' row) (hne : row ≠ some g) : Bx w' g v := (hg.block g h.lt (fun e => hne e.symm)).trans h
theorem Bx.below {w w' : World} {g : Nat} {v : Value} (h : Bx w g v) (hb : Below w.heap.size w w') : Bx w' g v := (hb.block g h.lt).trans h
theorem Bx.other {w : World} {g g' : Nat} {v : Value} (h : Bx w g v) (hne : g' ≠ g) (u : Value) : Bx (w.setCell ⟨g', 0, none⟩ u) g v := h.grown (grownS w g' 0 u) (fun e => hne (Option.some.inj e))
def BxP (u v : Value) (w : World) : Prop := ∃ g, v = .pointer (some ⟨g, 0, none⟩) ∧ Bx w g u
theorem BxP.st (u v : Value) (w w' : World) (h : BxP u v w) (hb : Below w.heap.size w w') : BxP u v w' := by
  obtain ⟨g, e, h⟩ := h
  exact ⟨g, e, h.below hb⟩
theorem StepV.newB {ops : Array Oper} {L : List YldV} {vs : Nat → Value} {j : Nat} {d : Option Tmp} {cons : Option Nat} {u : Value} {st : ∀ (v : Value) (w w' : World), BxP u v w → Below w.heap.size w w' → BxP u v w'} {W w' : World} {g : Nat} (ha : Bx w' g u) (hb : Below W.heap.size W w') (hg : W.heap.size ≤ g) : StepV ops L vs (YldV.sl j d cons (BxP u) st) W (.pointer (some ⟨g, 0, none⟩)) w' :=
  ⟨⟨g, rfl, ha⟩, ⟨none, grownBelowV hb none, .inl rfl, rfl⟩, .inr (.inr ⟨g, rfl, hg, ha.lt⟩)⟩
/-- values that are no slices do not lie in it -/
theorem Sl.apartB {w : World} {g : Nat} {B : Option Addr} {m k : Nat} (h : Bx w g (.slice B m k)) {A : Option Addr} {u : Value} {us : List Value} (hs : Sl w w.heap.size A (u :: us)) (hu : ∀ B m k, u ≠ .slice B m k) {b o : Nat} {s : Option Nat} (e : A = some ⟨b, o, s⟩) : b ≠ g := by
  intro hb
  subst hb
  rcases hs with h1 | ⟨b', o', e', _, _, h3⟩
  · cases h1
  · rw [e] at e'
    injection e' with e'
    injection e' with e1 e2
    subst e1
    have h4 := h3 0 u rfl
    rw [Nat.add_zero, h.cell] at h4
    cases o' with
    | zero => exact hu _ _ _ (Option.some.inj h4).symm
    | succ n => cases h4
theorem Sl.offB {w w' : World} {row : Option Nat} (hg : w.grownBy w' row) {A : Option Addr} {l : List Value} (h : Sl w w.heap.size A l) (hn : l ≠ [] → ∀ b o s, A = some ⟨b, o, s⟩ → row ≠ some b) : Sl w' w'.heap.size A l := by
  by_cases hl : l = []
  · exact .inl hl
  · rcases h with h1 | ⟨b, o, e, h1, h2, h3⟩
    · exact .inl h1
    · have hne := hn hl b o none e
      exact .inr ⟨b, o, e, Nat.lt_of_lt_of_le h1 hg.size, Nat.lt_of_lt_of_le h2 hg.size, fun j u hu => (World.cell?_of_block (w := w) (hg.block b h2 (fun e' => hne e'.symm))).trans (h3 j u hu)⟩
/-- a box is stored into: the vectors stand -/
theorem VS.box {w : World} {g : Nat} {B : Option Addr} {m k : Nat} (hB : Bx w g (.slice B m k)) (v : Value) {A : Option Addr} {n c : Nat} {R : List RA} {V : VL} (h : VS w A n c R V) : VS (w.setCell ⟨g, 0, none⟩ v) A n c R V := by
  refine ⟨h.hn, h.nc, h.cm, Sl.offB (grownS w g 0 v) h.sl fun hl b o s e => ?_, fun q hq => (h.rs q hq).grown (grownS w g 0 v) fun hl b o s e => ?_, h.v⟩
  · have hs := h.sl
    cases R with
    | nil => exact absurd rfl hl
    | cons q t => exact fun e' => Sl.apartB (u := .int .i64 q.r) (us := .slice q.A q.l.length q.c :: EV.dv t) hB hs (fun _ _ _ e'' => by cases e'') e (Option.some.inj e').symm
  · have hs := (h.rs q hq).1
    obtain ⟨x, t, hx⟩ := List.exists_cons_of_ne_nil hl
    rw [hx] at hs
    exact fun e' => Sl.apartB (u := .int .i64 x.a) (us := .int .i64 x.b :: rv t) hB hs (fun _ _ _ e'' => by cases e'') e (Option.some.inj e').symm
end Go.Proofs.Ytaflikgdlkaefaa
/- Right vectors that are held: what each call on them answers. -/
namespace Go.Proofs.Ytaflikgdlkaefaa
open Go.RowKit Go.Proofs.Ytaflikgdlkaefaa.Sp Go.Proofs.Ytaflikgdlkaefaa.Ve
set_option maxRecDepth 20000

/-- a right vector of few ranges stands -/
def VH (m : Nat) (w : World) (A : Option Addr) (n c : Nat) (V : VL) : Prop := ∃ R, VS w A n c R V ∧ n ≤ 64 ∧ Lim m V ∧ rightV V = true
section
variable {m m' : Nat} {w w' : World} {A A' : Option Addr} {n c n' c' : Nat} {V V' : VL}
theorem VH.of {R : List RA} (h : VS w A n c R V) (hl : Lim m V) (hr : rightV V = true) : VH m w A n c V := ⟨R, h, h.one hr, hl, hr⟩
theorem VH.below (h : VH m w A n c V) (hb : Below w.heap.size w w') : VH m w' A n c V := by
  obtain ⟨R, h, h2⟩ := h
  exact ⟨R, h.below hb, h2⟩
theorem VH.len (h : VH m w A n c V) : V.length = n := by
  obtain ⟨R, h, _⟩ := h
  exact h.len
theorem VH.has (h : VH m w A n c V) (hm : m ≤ 10000) (r q : Int) (hr : i64in r) :
    Calls Try.prog 11 #[.agg #[.slice A n c], .agg #[.int .i64 r, .int .i64 q]] w fun e w' => e = .returned (.bool (hasV V ⟨r, q⟩)) ∧ Below w.heap.size w w' := by
  obtain ⟨R, h, h1, h2, _⟩ := h
  exact Has_any w A n c R V h (by omega) (h2.mono (by omega)) ⟨r, q⟩ hr
theorem VH.count (h : VH m w A n c V) (hm : m ≤ 10000) :
    Calls Try.prog 13 #[.agg #[.slice A n c]] w fun e w' => e = .returned (.int .i64 (countV V)) ∧ Below w.heap.size w w' := by
  obtain ⟨R, h, h1, h2, _⟩ := h
  exact Count_any w A n c R V h (by omega) (h2.mono (by omega))
theorem VH.right (h : VH m w A n c V) (hm : m ≤ 10000) :
    Calls Try.prog 12 #[.agg #[.slice A n c]] w fun e w' => e = .returned (.bool true) ∧ Below w.heap.size w w' := by
  obtain ⟨R, h, h1, h2, h3⟩ := h
  have := VRight_any w A n c R V h (by omega) (h2.mono (by omega))
  rw [h3] at this
  exact this
theorem VH.same (h : VH m w A n c V) (h' : VH m' w A' n' c' V') (hm : m ≤ 10000) (hm' : m' ≤ 10000) (e : V = V') :
    Calls Try.prog 14 #[.agg #[.slice A n c], .agg #[.slice A' n' c']] w fun e w' => e = .returned (.bool true) ∧ Below w.heap.size w w' := by
  obtain ⟨R, h, h1, h2, h3⟩ := h
  obtain ⟨R', h', h1', h2', h3'⟩ := h'
  have := Same_any w A A' n n' c c' R R' V V' h h' (by omega) (by omega) (h2.mono (by omega)) (h2'.mono (by omega))
  rw [show sameV V V' = true by rw [sameV, h3, h3', e]; simp] at this
  exact this
theorem VH.join (h : VH m w A n c V) (h' : VH m' w A' n' c' V') (hm : m + m' ≤ 10000) :
    Calls Try.prog 9 #[.agg #[.slice A n c], .agg #[.slice A' n' c']] w fun e w' => ∃ A4 n4 c4, e = .returned (.agg #[.slice A4 n4 c4]) ∧ VH (m + m') w' A4 n4 c4 (joinV V V') ∧ Below w.heap.size w w' := by
  obtain ⟨R, h, h1, h2, h3⟩ := h
  obtain ⟨R', h', h1', h2', h3'⟩ := h'
  refine (VJoin_own w A A' n n' c c' R R' V V' h h' (by omega) (by omega) (h2.mono (by omega)) (h2'.mono (by omega))).mono fun e w2 ha => ?_
  obtain ⟨A4, n4, c4, R4, e, hv, hb⟩ := ha.ans
  exact ⟨A4, n4, c4, e, VH.of hv (joinV_lim h2 h2') (joinV_right _ _), hb⟩
theorem VH.minus (h : VH m w A n c V) (h' : VH m' w A' n' c' V') (hm : m + m' ≤ 10000) :
    Calls Try.prog 10 #[.agg #[.slice A n c], .agg #[.slice A' n' c']] w fun e w' => ∃ A4 n4 c4, e = .returned (.agg #[.slice A4 n4 c4]) ∧ VH (m + m') w' A4 n4 c4 (minusV V V') ∧ Below w.heap.size w w' := by
  obtain ⟨R, h, h1, h2, h3⟩ := h
  obtain ⟨R', h', h1', h2', h3'⟩ := h'
  refine (VMinus_own w A A' n n' c c' R R' V V' h h' (by omega) (by omega) (h2.mono (by omega)) (h2'.mono (by omega))).mono fun e w2 ha => ?_
  obtain ⟨A4, n4, c4, R4, e, hv, hb⟩ := ha.ans
  exact ⟨A4, n4, c4, e, VH.of hv (minusV_lim h2 h2') (minusV_right _ _), hb⟩
end
end Go.Proofs.Ytaflikgdlkaefaa
/- A law's statement out of its walk: whatever its parameters, where nothing that was there has turned and the answer is true. -/
namespace Go.Proofs.Ytaflikgdlkaefaa
set_option maxRecDepth 20000
open Go.ChangeShapes Go.WideShapes Go.ChangeAt Go.RowKit

theorem own : ownKnob Try.prog.godebug = none := by kernel_rfl
theorem laidOut : laidOutB Try.prog = true := by kernel_rfl

section
variable {H : Type} {enc : TypeId × Value → H}
abbrev Rd (enc : TypeId × Value → H) (W : World) (t : TypeId) (v : Value) (d : DataW H) (p : List MemPlace) : Prop := DataW.Trod enc Try.prog W 0 (fun _ => true) true t v d p
abbrev RdAll (enc : TypeId × Value → H) (W : World) (ts : List TypeId) (vs : List Value) (ds : List (DataW H)) (p : List MemPlace) : Prop := DataW.TrodAll enc Try.prog W 0 (fun _ => true) true ts vs ds p
theorem rdAll_below {W W' : World} (hb : Below W.heap.size W W') : ∀ (ts : List TypeId) (vs : List Value) (ds : List (DataW H)) (p : List MemPlace),
    (∀ t ∈ ts, Try.prog.readableRec t = true ∧ t < Try.prog.types.size) → RdAll enc W ts vs ds p → DataW.TrodAll enc Try.prog W' 0 (fun b => decide (b < W.heap.size)) true ts vs ds p
  | [], vs, ds, p, _, h => by
    obtain ⟨rfl, rfl, rfl⟩ := trodAll_nil h
    exact trodAll_mk0
  | t :: ts, vs, ds, p, ht, h => by
    obtain ⟨v, vs', d, ds', p0, q0, rfl, rfl, rfl, h0, r0⟩ := trodAll_cons h
    have lt0 : ∀ x ∈ p0, x.block < W.heap.size := by obtain ⟨m, hm⟩ := h0; exact DataW.trod_lt m _ _ _ hm
    exact trodAll_cons_mk (Below.trod laidOut (ht t (by simp)).1 (ht t (by simp)).2 h0 hb lt0) (rdAll_below hb ts vs' ds' q0 (fun x hx => ht x (by simp [hx])) r0)
theorem rdAll_len {W : World} : ∀ (ts : List TypeId) (vs : List Value) (ds : List (DataW H)) (p : List MemPlace), RdAll enc W ts vs ds p → ds.length = ts.length
  | [], vs, ds, p, h => by obtain ⟨rfl, rfl, rfl⟩ := trodAll_nil h; rfl
  | t :: ts, vs, ds, p, h => by
    obtain ⟨v, vs', d, ds', p0, q0, rfl, rfl, rfl, h0, r0⟩ := trodAll_cons h
    simp [rdAll_len ts vs' ds' q0 r0]
/-- What is known of the arguments. -/
structure Args (enc : TypeId × Value → H) (fn : Func) (W : World) (args : Array Value) (ds : List (DataW H)) (p : List MemPlace) : Prop where
  ok : ∃ base : Nat, ∀ (j : Nat) t v, fn.params[j]? = some t → args[j]? = some v → Value.okWide Try.prog W .any base t v
  rd : RdAll enc W fn.params.toList args.toList ds p
  fits : ∀ n ∈ DataW.weightsEach Try.prog fn.params.toList ds, n ≤ reachBytes
end

/-- THE FORM's STEP: '..Said'. -/
theorem lifted (f : FuncId) (fn : Func) (s : ChangeSpec) (hfn : Try.prog.funcs[f]? = some fn) (noInit : Try.prog.inits.idxOf? f = none) (hvars : s.vars = []) (hres : fn.resultTypes = #[4])
    (hr : ∀ t ∈ fn.params.toList, Try.prog.readableRec t = true ∧ t < Try.prog.types.size)
    (hs : ∀ (H : Type) (ds : List (DataW H)), ds.length = fn.params.toList.length → s.fn H (ds ++ []) = { results := [.lit (.bool true)], args := ds })
    (os : Os) (started : os.Started) (H : Type) (enc : TypeId × Value → H)
    (witness : ∃ (w : World) (tape : Tape) (i : Input), w.os = os ∧ (w.forCall tape i).Shaped Try.prog ∧ i.vars = [] ∧ Input.okWide Try.prog (w.forCall tape i) .any w.heap.size f i ∧
      s.pre6 enc Try.prog fn [] false (w.forCall tape i).memory i.args ∧ ({} : Assume).holds Try.prog (lone (Frame.enter Try.prog f i.args .normal) [] (w.forCall tape i)))
    (walk : ∀ (W : World) (args : Array Value) (ds : List (DataW H)) (p : List MemPlace), Args enc fn W args ds p → Calls Try.prog f args W fun e W' => e = .returned (.bool true) ∧ Below W.heap.size W W') :
    ReturnsInHanded {} Try.checked os f .any (s.pre6 enc Try.prog fn [] false) (s.post enc Try.prog fn false true false false) := by
  refine returnsInHanded_of_change_sized (C := Try.checked) own started noInit hfn witness ?_
  intro W base args ds gs before hval hW _ hsz0 _
  have hsz : (DataW.weightsEach Try.prog (fn.params.toList ++ s.plain.varTypes Try.prog) (ds ++ gs)).all (· ≤ reachBytes) = true := hsz0
  have hW' := hW
  obtain ⟨p, q, hA0, hV, rfl, hfz, hnd⟩ := hW
  have hA : RdAll enc W fn.params.toList args.toList ds p := hA0
  rw [hvars] at hV
  obtain ⟨rfl, rfl⟩ := trodVars_none hV
  have hvt : s.plain.varTypes Try.prog = [] := by simp [ChangeSpec.plain, DataSpec.varTypes, hvars]
  rw [hvt] at hsz
  simp only [List.append_nil] at hsz
  refine (walk W args ds p ⟨⟨base, hval⟩, hA, fun n hn => by simpa using List.all_eq_true.1 hsz n hn⟩).mono fun e W' ⟨he, bel⟩ => ?_
  subst he
  have e := hs H ds (rdAll_len _ _ _ _ hA)
  refine ⟨_, rfl, ds, [], p ++ [], [], p, [], hW', ?_, ?_, ?_, bel.frame _, fun h => by cases h⟩
  · rw [e, hres]
    exact trodAll_mk1 (shut_bool Try.underlying4 _)
  · rw [e]
    exact rdAll_below bel _ _ _ _ hr hA
  · rw [e, hvars]; rfl

/-- THE SECOND FORM's STEP: '..UptoSaid'. -/
theorem liftedU (f : FuncId) (fn : Func) (s : ChangeSpec) (hfn : Try.prog.funcs[f]? = some fn) (noInit : Try.prog.inits.idxOf? f = none) (hvars : s.vars = []) (hres : fn.resultTypes = #[4])
    (hr : ∀ t ∈ fn.params.toList, Try.prog.readableRec t = true ∧ t < Try.prog.types.size)
    (hs : ∀ (H : Type) (ds : List (DataW H)), ds.length = fn.params.toList.length → s.fn H (ds ++ []) = { results := [.lit (.bool true)], args := ds })
    (os : Os) (started : os.Started) (H : Type) (enc : TypeId × Value → H) (F : Stop.Interp)
    (witness : ∃ (w : World) (tape : Tape) (i : Input), w.os = os ∧ (w.forCall tape i).Shaped Try.prog ∧ i.vars = [] ∧ Input.okWide Try.prog (w.forCall tape i) .any w.heap.size f i ∧
      (Rows.OpenSpec.upto s).pre6 enc Try.prog fn [] false (w.forCall tape i).memory i.args ∧ ({} : Assume).holds Try.prog (lone (Frame.enter Try.prog f i.args .normal) [] (w.forCall tape i)))
    (walk : ∀ (W : World) (args : Array Value) (ds : List (DataW H)) (p : List MemPlace), Args enc fn W args ds p → Rows.uptoBulkAll ds ≤ 1048576 → Calls Try.prog f args W fun e W' => e = .returned (.bool true) ∧ Below W.heap.size W W') :
    ReturnsInHanded {} Try.checked os f .any ((Rows.OpenSpec.upto s).pre6 enc Try.prog fn [] false) (((Rows.OpenSpec.upto s).at F).post enc Try.prog fn false true false false) := by
  refine returnsInHanded_of_cond_sized (C := Try.checked) (s := Rows.OpenSpec.upto s) (k := Rows.uptoSmall) rfl own started noInit hfn witness ?_
  intro W base args ds gs before hval hW _ hk hsz0 _
  have hW' : DataW.Whole enc Try.prog fn.params.toList s.vars false W args.toList ds gs before := hW
  have hsz : (DataW.weightsEach Try.prog (fn.params.toList ++ s.plain.varTypes Try.prog) (ds ++ gs)).all (· ≤ reachBytes) = true := hsz0
  obtain ⟨p, q, hA, hV, rfl, hfz, hnd⟩ := hW'
  rw [hvars] at hV
  obtain ⟨rfl, rfl⟩ := trodVars_none hV
  have hvt : s.plain.varTypes Try.prog = [] := by simp [ChangeSpec.plain, DataSpec.varTypes, hvars]
  rw [hvt] at hsz
  simp only [List.append_nil] at hsz hk
  have hb : Rows.uptoBulkAll ds ≤ 1048576 := of_decide_eq_true hk
  refine (walk W args ds p ⟨⟨base, hval⟩, hA, fun n hn => by simpa using List.all_eq_true.1 hsz n hn⟩ hb).mono fun e W' ⟨he, bel⟩ => ?_
  subst he
  have e := hs H ds (rdAll_len _ _ _ _ hA)
  have hpost : s.post enc Try.prog fn false true false false W args (.bool true) W' := by
    refine ⟨ds, [], p ++ [], [], p, [], hW, ?_, ?_, ?_, bel.frame _, fun h => by cases h⟩
    · rw [e, hres]
      exact trodAll_mk1 (shut_bool Try.underlying4 _)
    · rw [e]
      exact rdAll_below bel _ _ _ _ hr hA
    · rw [e, hvars]; rfl
  exact ⟨_, rfl, hpost⟩

/-! ### the arguments, one by one -/
section
variable {H : Type} {enc : TypeId × Value → H}
structure One (enc : TypeId × Value → H) (W : World) (base : Nat) (t : TypeId) (v : Value) (d : DataW H) (p : List MemPlace) : Prop where
  ok : Value.okWide Try.prog W .any base t v
  rd : Rd enc W t v d p
  fits : ∀ n ∈ d.weights Try.prog t, n ≤ reachBytes
structure Many (enc : TypeId × Value → H) (W : World) (base : Nat) (ts : List TypeId) (vs : List Value) (ds : List (DataW H)) (p : List MemPlace) : Prop where
  ok : ∀ (j : Nat) t v, ts[j]? = some t → vs[j]? = some v → Value.okWide Try.prog W .any base t v
  rd : RdAll enc W ts vs ds p
  fits : ∀ n ∈ DataW.weightsEach Try.prog ts ds, n ≤ reachBytes
theorem Args.many {fn : Func} {W : World} {args : Array Value} {ds : List (DataW H)} {p : List MemPlace} (h : Args enc fn W args ds p) {ts : List TypeId} (ht : fn.params.toList = ts) : ∃ base vs, args = vs.toArray ∧ Many enc W base ts vs ds p := by
  obtain ⟨⟨base, ok⟩, rd, fits⟩ := h
  subst ht
  exact ⟨base, args.toList, by simp, fun j t v h1 h2 => ok j t v (by simpa using h1) (by simpa using h2), rd, fits⟩
theorem Many.cons {W : World} {base : Nat} {t : TypeId} {ts : List TypeId} {vs : List Value} {ds : List (DataW H)} {p : List MemPlace} (h : Many enc W base (t :: ts) vs ds p) :
    ∃ v vs' d ds' p' q, vs = v :: vs' ∧ ds = d :: ds' ∧ One enc W base t v d p' ∧ Many enc W base ts vs' ds' q := by
  obtain ⟨ok, rd, fits⟩ := h
  obtain ⟨v, vs', d, ds', p0, q0, rfl, rfl, rfl, h0, r0⟩ := trodAll_cons rd
  exact ⟨v, vs', d, ds', p0, q0, rfl, rfl, ⟨ok 0 t v rfl rfl, h0, fun n hn => fits n (by simp only [DataW.weightsEach, List.mem_append]; exact .inl hn)⟩,
    ⟨fun j t v h1 h2 => ok (j + 1) t v (by simpa using h1) (by simpa using h2), r0, fun n hn => fits n (by simp only [DataW.weightsEach, List.mem_append]; exact .inr hn)⟩⟩
theorem Many.nil {W : World} {base : Nat} {vs : List Value} {ds : List (DataW H)} {p : List MemPlace} (h : Many enc W base [] vs ds p) : vs = [] ∧ ds = [] := by
  obtain ⟨rfl, rfl, _⟩ := trodAll_nil h.rd
  exact ⟨rfl, rfl⟩

variable {W : World} {base : Nat} {t e : TypeId} {v : Value} {d : DataW H} {p : List MemPlace}
theorem One.int {k : IntKind} (h : One enc W base t v d p) (ht : Try.prog.underlying t = some (.int k)) : ∃ a : Int, v = .int k a ∧ (Lit.int k a).wf = true ∧ d = .lit (.int k a) := by
  obtain ⟨a, rfl, rfl, rfl, w⟩ := open_int ht h.ok h.rd
  exact ⟨a, rfl, w, rfl⟩
theorem One.bool (h : One enc W base t v d p) (ht : Try.prog.underlying t = some .bool) : ∃ b : Bool, v = .bool b := by
  obtain ⟨b, rfl, _⟩ := open_bool ht h.ok h.rd
  exact ⟨b, rfl⟩
theorem One.u8 (h : One enc W base t v d p) (ht : Try.prog.underlying t = some (.int .u8)) : ∃ n : Nat, v = .int .u8 (n : Int) ∧ n < 256 := by
  obtain ⟨a, rfl, w, _⟩ := h.int ht
  have hx : 0 ≤ a ∧ a ≤ 255 := by simpa [Lit.wf, IntKind.min, IntKind.max, IntKind.signed, IntKind.bits] using w
  exact ⟨a.toNat, by rw [Int.toNat_of_nonneg hx.1], by omega⟩
theorem One.u16 (h : One enc W base t v d p) (ht : Try.prog.underlying t = some (.int .u16)) : ∃ n : Nat, v = .int .u16 (n : Int) ∧ n < 65536 := by
  obtain ⟨a, rfl, w, _⟩ := h.int ht
  have hx : 0 ≤ a ∧ a ≤ 65535 := by simpa [Lit.wf, IntKind.min, IntKind.max, IntKind.signed, IntKind.bits] using w
  exact ⟨a.toNat, by rw [Int.toNat_of_nonneg hx.1], by omega⟩
theorem One.u32 (h : One enc W base t v d p) (ht : Try.prog.underlying t = some (.int .u32)) : ∃ n : Nat, v = .int .u32 (n : Int) ∧ n < 4294967296 := by
  obtain ⟨a, rfl, w, _⟩ := h.int ht
  have hx : 0 ≤ a ∧ a ≤ 4294967295 := by simpa [Lit.wf, IntKind.min, IntKind.max, IntKind.signed, IntKind.bits] using w
  exact ⟨a.toNat, by rw [Int.toNat_of_nonneg hx.1], by omega⟩
theorem One.u64 (h : One enc W base t v d p) (ht : Try.prog.underlying t = some (.int .u64)) : ∃ n : Nat, v = .int .u64 (n : Int) ∧ U64 n := by
  obtain ⟨a, rfl, w, _⟩ := h.int ht
  have hx : 0 ≤ a ∧ a ≤ 18446744073709551615 := by simpa [Lit.wf, IntKind.min, IntKind.max, IntKind.signed, IntKind.bits] using w
  exact ⟨a.toNat, by rw [Int.toNat_of_nonneg hx.1], U64.mk (by omega)⟩
theorem One.i64 (h : One enc W base t v d p) (ht : Try.prog.underlying t = some (.int .i64)) : ∃ a : Int, v = .int .i64 a ∧ -9223372036854775808 ≤ a ∧ a ≤ 9223372036854775807 := by
  obtain ⟨a, rfl, w, _⟩ := h.int ht
  have hx : -9223372036854775808 ≤ a ∧ a ≤ 9223372036854775807 := by simpa [Lit.wf, IntKind.min, IntKind.max, IntKind.signed, IntKind.bits] using w
  exact ⟨a, rfl, hx⟩
theorem bulkAll_lits (k : IntKind) : ∀ zs : List Int, Rows.uptoBulkAll (H := H) (lits k zs) = zs.length
  | [] => rfl
  | z :: t => by
    have := bulkAll_lits k t
    simp only [lits, List.map_cons, Rows.uptoBulkAll, Rows.uptoBulk, List.length_cons] at this ⊢
    omega
/-- A slice of integers. -/
theorem One.ints {k : IntKind} {m : Nat} (h : One enc W base t v d p) (ht : Try.prog.underlying t = some (.slice e)) (he : Try.prog.underlying e = some (.int k)) (hc : Try.prog.cellsOf e = 1) (hm : Try.prog.bytesOf e = m) :
    ∃ (A : Option Addr) (c : Nat) (zs : List Int), v = .slice A zs.length c ∧ Sl W W.heap.size A (zs.map (Value.int k)) ∧ zs.length ≤ c ∧ c ≤ maxLen ∧ c * m ≤ reachBytes ∧ (∀ z ∈ zs, (Lit.int k z).wf = true) ∧ c < Rows.uptoBulk d := by
  obtain ⟨ok, rd, fits⟩ := h
  obtain ⟨A, len, cap, rfl⟩ := okWide_slice ht ok
  obtain ⟨fuel, hf⟩ := rd
  rcases open_ints ht he hc hf with ⟨hcs, hx⟩ | ⟨x, l, c, zs, hcs, _, hl, hm', hz, hx, hcell, hwz⟩
  · simp [Value.cells] at hcs
    obtain ⟨rfl, rfl, rfl⟩ := hcs
    simp only [Prod.mk.injEq] at hx
    obtain ⟨rfl, _⟩ := hx
    exact ⟨none, 0, [], rfl, Sl.nil, by simp, by simp [maxLen], by simp, by simp, by simp [Rows.uptoBulk]⟩
  · simp [Value.cells] at hcs
    obtain ⟨rfl, rfl, rfl⟩ := hcs
    simp only [Prod.mk.injEq] at hx
    obtain ⟨rfl, _⟩ := hx
    simp only [if_true] at hz
    have hlen : (zs.take len).length = len := by rw [List.length_take]; omega
    refine ⟨some x, cap, zs.take len, by rw [hlen], ?_, by omega, hm', ?_, fun z hz' => hwz z (List.mem_of_mem_take hz'), ?_⟩
    · by_cases h0 : len = 0
      · subst h0; simp [Sl]
      · obtain ⟨b, o, spot⟩ := x
        have hc0 := hcell 0 (by omega)
        have hspot : spot = none := by simpa [Addr.add] using World.cell?_spot hc0
        subst hspot
        have hbl : b < W.heap.size := by
          have := World.block_lt_of_cell? W _ hc0
          simpa [Addr.add] using this
        refine .inr ⟨b, o, rfl, hbl, hbl, fun j u hu => ?_⟩
        have hj : j < len := by
          have := (List.getElem?_eq_some_iff.1 hu).1
          rw [List.length_map, hlen] at this; exact this
        have := hcell j (by omega)
        have e1 : (⟨b, o, none⟩ : Addr).add j = ⟨b, o + j, none⟩ := by
          unfold Addr.add
          split
          · rename_i h0; subst h0; rfl
          · rfl
        rw [e1] at this
        rw [this]
        rw [List.getElem?_map, List.getElem?_take, if_pos hj] at hu
        rw [← hu]
        simp [List.getD, List.getElem?_eq_getElem (show j < zs.length by omega)]
    · have := fits ((lits (H := H) k (zs.take len)).length + (lits (H := H) k (zs.drop len)).length |> (· * Try.prog.bytesOf e)) (by simp [DataW.weights, ht])
      simp only [lits, List.length_map, List.length_take, List.length_drop] at this
      rw [hm] at this
      rw [show min len zs.length + (zs.length - len) = cap by omega] at this
      exact this
    · simp only [Rows.uptoBulk, bulkAll_lits, List.length_take, List.length_drop]
      omega
theorem nats_of {k : IntKind} {M : Nat} {zs : List Int} (hw : ∀ z ∈ zs, (Lit.int k z).wf = true) (hk : ∀ z : Int, (Lit.int k z).wf = true → 0 ≤ z ∧ z < M) :
    zs.map (Value.int k) = (zs.map Int.toNat).map (fun (n : Nat) => Value.int k (n : Int)) ∧ ∀ n ∈ zs.map Int.toNat, n < M := by
  constructor
  · rw [List.map_map]
    refine List.map_congr_left fun z hz => ?_
    have := hk z (hw z hz)
    simp only [Function.comp]
    rw [Int.toNat_of_nonneg this.1]
  · intro n hn
    obtain ⟨z, hz, rfl⟩ := List.mem_map.1 hn
    have := hk z (hw z hz)
    omega
/-- A slice of unsigned numbers. -/
theorem One.nats {k : IntKind} {m M : Nat} (h : One enc W base t v d p) (ht : Try.prog.underlying t = some (.slice e)) (he : Try.prog.underlying e = some (.int k)) (hc : Try.prog.cellsOf e = 1) (hm : Try.prog.bytesOf e = m)
    (hk : ∀ z : Int, (Lit.int k z).wf = true → 0 ≤ z ∧ z < M) :
    ∃ (A : Option Addr) (c : Nat) (l : List Nat), v = .slice A l.length c ∧ Sl W W.heap.size A (l.map (fun (n : Nat) => Value.int k (n : Int))) ∧ l.length ≤ c ∧ c * m ≤ 140737488351232 ∧ (∀ n ∈ l, n < M) ∧ c < Rows.uptoBulk d := by
  obtain ⟨A, c, zs, rfl, hs, h1, h2, h3, h4, h5⟩ := h.ints ht he hc hm
  obtain ⟨e1, e2⟩ := nats_of h4 hk
  exact ⟨A, c, zs.map Int.toNat, by simp, e1 ▸ hs, by simpa using h1, h3, e2, h5⟩
theorem wf_u64' (z : Int) (h : (Lit.int .u64 z).wf = true) : 0 ≤ z ∧ z < (18446744073709551616 : Nat) := by
  have hx : 0 ≤ z ∧ z ≤ 18446744073709551615 := by simpa [Lit.wf, IntKind.min, IntKind.max, IntKind.signed, IntKind.bits] using h
  omega
theorem wf_u32' (z : Int) (h : (Lit.int .u32 z).wf = true) : 0 ≤ z ∧ z < (4294967296 : Nat) := by
  have hx : 0 ≤ z ∧ z ≤ 4294967295 := by simpa [Lit.wf, IntKind.min, IntKind.max, IntKind.signed, IntKind.bits] using h
  omega
theorem wf_u16' (z : Int) (h : (Lit.int .u16 z).wf = true) : 0 ≤ z ∧ z < (65536 : Nat) := by
  have hx : 0 ≤ z ∧ z ≤ 65535 := by simpa [Lit.wf, IntKind.min, IntKind.max, IntKind.signed, IntKind.bits] using h
  omega
theorem One.u64s (h : One enc W base 72 v d p) : ∃ (A : Option Addr) (c : Nat) (l : List Nat), v = .slice A l.length c ∧ Sl W W.heap.size A (l.map (fun (n : Nat) => Value.int .u64 (n : Int))) ∧ l.length ≤ c ∧ c * 8 ≤ 140737488351232 ∧ (∀ n ∈ l, U64 n) ∧ c < Rows.uptoBulk d :=
  h.nats (m := 8) Try.underlying72 Try.underlying71 (by kernel_rfl) (by kernel_rfl) wf_u64'
theorem One.u16s (h : One enc W base 22 v d p) : ∃ (A : Option Addr) (c : Nat) (l : List Nat), v = .slice A l.length c ∧ Sl W W.heap.size A (l.map (fun (n : Nat) => Value.int .u16 (n : Int))) ∧ l.length ≤ c ∧ c * 2 ≤ 140737488351232 ∧ (∀ n ∈ l, n < 65536) ∧ c < Rows.uptoBulk d :=
  h.nats (m := 2) Try.underlying22 Try.underlying23 (by kernel_rfl) (by kernel_rfl) wf_u16'
/-- A slice of bytes. -/
theorem One.bytes (h : One enc W base 46 v d p) : ∃ (A : Option Addr) (c : Nat) (l : List UInt8), v = .slice A l.length c ∧ Sl W W.heap.size A (bv l) ∧ l.length ≤ c ∧ c ≤ 140737488351232 ∧ c < Rows.uptoBulk d := by
  obtain ⟨A, c, zs, rfl, hs, h1, h2, h3, h4, h5⟩ := h.ints (m := 1) Try.underlying46 Try.underlying5 (by kernel_rfl) (by kernel_rfl)
  refine ⟨A, c, zs.map (fun z => UInt8.ofNat z.toNat), by simp, ?_, by simpa using h1, by simp only [reachBytes] at h3; omega, h5⟩
  have e : bv (zs.map (fun z => UInt8.ofNat z.toNat)) = zs.map (Value.int .u8) := by
    simp only [bv, List.map_map]
    refine List.map_congr_left fun z hz => ?_
    have hx : 0 ≤ z ∧ z ≤ 255 := by simpa [Lit.wf, IntKind.min, IntKind.max, IntKind.signed, IntKind.bits] using h4 z hz
    simp only [Function.comp, u8v, UInt8.toNat_ofNat']
    congr 1
    omega
  rw [e]
  exact hs
end
end Go.Proofs.Ytaflikgdlkaefaa
