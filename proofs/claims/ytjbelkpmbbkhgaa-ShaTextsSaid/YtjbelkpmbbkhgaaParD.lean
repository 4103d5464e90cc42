/- A region that draws its order, with rows of bytes of the call's own that grow where they lie: an operation may take up what another one made, and change its block; whatever else there is stands. -/
import Derived.Test.YtjbelkpmbbkhgaaPar
import Derived.Test.YtjbelkpmbbkhgaaAt
namespace Go.Proofs.Ytjbelkpmbbkhgaa
open Go.RowKit

def _root_.Go.Value.bk : Value → Option Nat
  | .pointer (some a) => some a.block
  | v => v.ownBlock
structure YldD where
  j : Nat
  d : Option Tmp
  cons : Option Nat
  pr : Value → World → Prop
  st : ∀ (v : Value) (w w' : World) (row : Option Nat), pr v w → w.grownBy w' row → (v.bk = none ∨ v.bk ≠ row) → pr v w'
def YldD.y (s : YldD) : Yld := ⟨s.j, s.d, fun _ _ => True, fun _ _ _ _ _ => trivial⟩
def putd (L : List YldD) (vs : Nat → Value) (a : Act) : Act := puts (L.map YldD.y) vs a
/-- a value that is known -/
def YldD.eq (j : Nat) (d : Option Tmp) (cons : Option Nat) (x : Value) : YldD := ⟨j, d, cons, fun v _ => v = x, fun _ _ _ _ h _ _ => h⟩
/-- a block of which the cells are known -/
def YldD.at (j : Nat) (d : Option Tmp) (cons : Option Nat) (us : List Value) : YldD := ⟨j, d, cons, fun v w => ∃ g, v = .pointer (some ⟨g, 0, none⟩) ∧ At w g us, fun v w w' row ⟨g, e, h⟩ hg hne => by
  subst e
  refine ⟨g, rfl, h.grown hg fun e => ?_⟩
  rcases hne with h' | h'
  · simp [Value.bk] at h'
  · exact h' (by rw [e]; rfl)⟩
theorem own_bk {w : World} {B : Nat} {v : Value} {l : List UInt8} (h : OwnB w B v l) : v.bk = v.ownBlock := by
  obtain ⟨A, c, rfl, _⟩ := h.form
  rfl
theorem sl_grownD {w w' : World} {row : Option Nat} {A : Option Addr} {xs : List Value} {n c : Nat} (h : Sl w w.heap.size A xs) (hg : w.grownBy w' row) (hne : (Value.slice A n c).bk = none ∨ (Value.slice A n c).bk ≠ row) : Sl w' w'.heap.size A xs := by
  rcases h with h | ⟨b, o, e, hb, hb', hc⟩
  · exact .inl h
  · subst e
    have hr : some b ≠ row := by
      rcases hne with h | h
      · simp [Value.bk, Value.ownBlock] at h
      · simpa [Value.bk, Value.ownBlock] using h
    refine .inr ⟨b, o, rfl, Nat.lt_of_lt_of_le hb hg.size, Nat.lt_of_lt_of_le hb hg.size, fun j u hu => ?_⟩
    rw [World.cell?_of_block (w := w) (hg.block b hb hr)]
    exact hc j u hu
/-- a slice that reads as these bytes -/
def YldD.sl (j : Nat) (d : Option Tmp) (cons : Option Nat) (l : List UInt8) : YldD := ⟨j, d, cons, fun v w => SlcIs w v l, fun v w w' row ⟨A, c, e, h1, h2, h3⟩ hg hne => by
  subst e
  exact ⟨A, c, rfl, sl_grownD h1 hg hne, h2, h3⟩⟩
/-- a row of the call's own -/
def YldD.own (j : Nat) (d : Option Tmp) (cons : Option Nat) (B : Nat) (l : List UInt8) : YldD := ⟨j, d, cons, fun v w => OwnB w B v l, fun v w w' row h hg hne => OwnB.keep h hg (by rw [own_bk h] at hne; exact hne)⟩
section
variable {P : Program} {ops : Array Oper} {Q : Exit → Act → World → Prop}
def liveD (listed : Array Bool) (t : YldD) : Prop := listed.getD t.j true = true ∧ ∀ c, t.cons = some c → listed.getD c true = false
/-- what a step must bring: its value, the block that it changed, and where its own value lies -/
def StepD (ops : Array Oper) (L : List YldD) (vs : Nat → Value) (s : YldD) (W : World) (v : Value) (w' : World) : Prop :=
  s.pr v w' ∧ (∃ row, W.grownBy w' row ∧ (row = none ∨ ∃ t ∈ L, (waits ops s.j).contains t.j = true ∧ t.cons = some s.j ∧ row = (vs t.j).bk)) ∧
  (v.bk = none ∨ (∃ t ∈ L, (waits ops s.j).contains t.j = true ∧ t.cons = some s.j ∧ v.bk = (vs t.j).bk) ∨ ∃ g, v.bk = some g ∧ W.heap.size ≤ g ∧ g < w'.heap.size)
theorem putd_upd (L : List YldD) (vs : Nat → Value) (a : Act) (s : YldD) (v : Value) (hn : parNodup (L.map YldD.y)) (hs : s ∈ L) : putd L (upd vs s.j v) a = (putd L vs a).put s.d v :=
  puts_upd (L.map YldD.y) vs a s.y v hn (List.mem_map.2 ⟨s, hs, rfl⟩)
theorem nodupD_eq : ∀ {L : List YldD}, parNodup (L.map YldD.y) → ∀ {s t : YldD}, s ∈ L → t ∈ L → s.j = t.j → s = t
  | [], _, _, _, h, _, _ => by cases h
  | x :: L, hn, s, t, hs, ht, e => by
    rcases List.mem_cons.1 hs with rfl | hs'
    · rcases List.mem_cons.1 ht with rfl | ht'
      · rfl
      · exact absurd e.symm ((hn.1 t.y (List.mem_map.2 ⟨t, ht', rfl⟩)).1)
    · rcases List.mem_cons.1 ht with rfl | ht'
      · exact absurd e ((hn.1 s.y (List.mem_map.2 ⟨s, hs', rfl⟩)).1)
      · exact nodupD_eq hn.2 hs' ht' e
def unlD (L : List YldD) (listed : Array Bool) : Nat := (L.filter (fun t => !listed.getD t.j true)).length
theorem unlD_zero {L : List YldD} {listed : Array Bool} (h : unlD L listed = 0) : ∀ t ∈ L, listed.getD t.j true = true := by
  intro t ht
  have h' : L.filter (fun t => !listed.getD t.j true) = [] := List.eq_nil_of_length_eq_zero h
  have := List.filter_eq_nil_iff.1 h' t ht
  simpa using this
theorem unlD_set : ∀ (L : List YldD) (listed : Array Bool) (s : YldD), parNodup (L.map YldD.y) → s ∈ L → listed.getD s.j true = false → unlD L (listed.setIfInBounds s.j true) + 1 = unlD L listed
  | [], _, _, _, h, _ => by cases h
  | x :: L, listed, s, hn, hs, hu => by
    have hin : s.j < listed.size := by
      have := (List.getElem?_eq_some_iff.1 (getD_false.1 hu)).1
      simpa using this
    have hset : (listed.setIfInBounds s.j true).getD s.j true = true := by simp [Array.getD, hin]
    by_cases hx : x = s
    · subst hx
      have hrest : ∀ t ∈ L, (!(listed.setIfInBounds x.j true).getD t.j true) = !listed.getD t.j true := by
        intro t ht
        have hne : t.j ≠ x.j := (hn.1 t.y (List.mem_map.2 ⟨t, ht, rfl⟩)).1
        rw [getD_set_ne true (Ne.symm hne)]
      unfold unlD
      rw [List.filter_cons_of_neg (by rw [hset]; simp), List.filter_cons_of_pos (by rw [hu]; rfl), List.length_cons, List.filter_congr hrest]
    · have hsL : s ∈ L := by
        rcases List.mem_cons.1 hs with e | h
        · exact absurd e.symm hx
        · exact h
      have hne : x.j ≠ s.j := Ne.symm (hn.1 s.y (List.mem_map.2 ⟨s, hsL, rfl⟩)).1
      have ih := unlD_set L listed s hn.2 hsL hu
      unfold unlD at *
      simp only [List.filter_cons, getD_set_ne true (Ne.symm hne)]
      split
      · simp only [List.length_cons]; omega
      · exact ih
def finD (L : List YldD) (listed : Array Bool) : Array Bool := L.foldl (fun a s => a.setIfInBounds s.j true) listed
theorem finD_size : ∀ (L : List YldD) (listed : Array Bool), (finD L listed).size = listed.size
  | [], _ => rfl
  | x :: L, listed => by
    show (finD L (listed.setIfInBounds x.j true)).size = _
    rw [finD_size L]; simp
theorem finD_get : ∀ (L : List YldD) (listed : Array Bool) (i : Nat), (finD L listed).getD i true = true ∨ ((finD L listed).getD i true = listed.getD i true ∧ ∀ t ∈ L, t.j ≠ i)
  | [], listed, i => .inr ⟨rfl, by simp⟩
  | x :: L, listed, i => by
    show (finD L (listed.setIfInBounds x.j true)).getD i true = true ∨ ((finD L (listed.setIfInBounds x.j true)).getD i true = listed.getD i true ∧ ∀ t ∈ x :: L, t.j ≠ i)
    rcases finD_get L (listed.setIfInBounds x.j true) i with h | ⟨h1, h2⟩
    · exact .inl h
    · by_cases he : x.j = i
      · subst he
        left
        rw [h1]
        by_cases hin : x.j < listed.size
        · simp [Array.getD, hin]
        · simp [Array.getD, hin]
      · rw [getD_set_ne true he] at h1
        refine .inr ⟨h1, fun t ht => ?_⟩
        rcases List.mem_cons.1 ht with rfl | ht
        · exact he
        · exact h2 t ht
theorem boolsD_eq {a b : Array Bool} (hs : a.size = b.size) (h : ∀ i, a.getD i true = b.getD i true) : a = b := by
  apply Array.ext hs
  intro i h1 h2
  have := h i
  simpa [Array.getD, h1, h2] using this
/-- all that a place waits for, near and far -/
def reachD (ops : Array Oper) : Nat → List Nat → List Nat
  | 0, js => js
  | n + 1, js => js ++ reachD ops n (js.flatMap (waits ops))
def shutD (ops : Array Oper) (listed : Array Bool) : Prop := ∀ j, listed.getD j true = true → j < ops.size → ∀ i ∈ waits ops j, listed.getD i true = true
theorem reachD_listed {listed : Array Bool} (hc : shutD ops listed) : ∀ (n : Nat) (js : List Nat), (∀ j ∈ js, j < ops.size ∧ listed.getD j true = true) → (∀ j, j < ops.size → ∀ i ∈ waits ops j, i < ops.size) → ∀ i ∈ reachD ops n js, listed.getD i true = true
  | 0, js, h, _, i, hi => (h i hi).2
  | n + 1, js, h, hb, i, hi => by
    rcases List.mem_append.1 hi with hi | hi
    · exact (h i hi).2
    · refine reachD_listed hc n _ (fun k hk => ?_) hb i hi
      obtain ⟨j, hj, hk⟩ := List.mem_flatMap.1 hk
      exact ⟨hb j (h j hj).1 k hk, hc j (h j hj).2 (h j hj).1 k hk⟩
/-- the closed facts of bparD -/
def okD (ops : Array Oper) (L : List YldD) (listed : Array Bool) : Bool :=
  parOk ops (L.map YldD.y) && parNodupB (L.map YldD.y) && listed.size == ops.size && L.all (fun s => !listed.getD s.j true) &&
  (List.range ops.size).all (fun j => (!listed.getD j true || (waits ops j).all (fun i => listed.getD i true)) && (listed.getD j true || L.any (·.j == j) || L.all (fun s => (reachD ops ops.size (waits ops j)).contains s.j)))
theorem waitsD_bd {L : List Yld} (hok : parOk ops L = true) : ∀ j, j < ops.size → ∀ i ∈ waits ops j, i < ops.size := by
  intro j hj i hi
  simp only [parOk, Bool.and_eq_true, List.all_eq_true, List.mem_range, decide_eq_true_eq] at hok
  have := hok.2 j hj i hi
  omega
theorem bparD_aux (L : List YldD) (listed0 : Array Bool) (hokD : okD ops L listed0 = true) {a0 : Act} {w0 : World} {f0 : Nat}
    (hstep : ∀ s ∈ L, ∀ (vs : Nat → Value) (W : World), Below w0.heap.size w0 W → (∀ t ∈ L, (waits ops s.j).contains t.j = true → (t.cons = none ∨ t.cons = some s.j) → t.pr (vs t.j) W ∧ ∀ g, (vs t.j).bk = some g → w0.heap.size ≤ g ∧ g < W.heap.size) →
      wpOp P ops Q s.j (fun a' w' => ∃ v, a' = (putd L vs a0).put s.d v ∧ StepD ops L vs s W v w') (putd L vs a0) W)
    (hend : ∀ (vs : Nat → Value) (W : World), Below w0.heap.size w0 W → (∀ t ∈ L, t.cons = none → t.pr (vs t.j) W ∧ ∀ g, (vs t.j).bk = some g → w0.heap.size ≤ g ∧ g < W.heap.size) → (∀ t ∈ L, ∀ t' ∈ L, t.cons = none → t'.cons = none → t.j ≠ t'.j → (vs t.j).bk = none ∨ (vs t.j).bk ≠ (vs t'.j).bk) → wpB P ops Q w0.heap f0 (finD L listed0) (putd L vs a0) W) :
    ∀ (m : Nat) (listed : Array Bool) (vs : Nat → Value) (w : World), unlD L listed = m → listed.size = ops.size → (∀ i, (∀ t ∈ L, t.j ≠ i) → listed.getD i true = listed0.getD i true) → shutD ops listed →
      (∀ t ∈ L, liveD listed t → t.pr (vs t.j) w) → (∀ t ∈ L, liveD listed t → ∀ g, (vs t.j).bk = some g → w0.heap.size ≤ g ∧ g < w.heap.size) →
      (∀ t ∈ L, ∀ t' ∈ L, liveD listed t → liveD listed t' → t.j ≠ t'.j → (vs t.j).bk = none ∨ (vs t.j).bk ≠ (vs t'.j).bk) →
      Below w0.heap.size w0 w → wpB P ops Q w0.heap (m + f0) listed (putd L vs a0) w := by
  simp only [okD, Bool.and_eq_true, beq_iff_eq] at hokD
  obtain ⟨⟨⟨⟨hok, hnB⟩, hsz0⟩, hun0⟩, hgr⟩ := hokD
  have hn := parNodup_of hnB
  have hgr' : ∀ j, j < ops.size → listed0.getD j true = false → (∀ t ∈ L, t.j ≠ j) → ∀ t ∈ L, t.j ∈ reachD ops ops.size (waits ops j) := by
    intro j hj hl hno t ht
    have := (List.all_eq_true.1 hgr) j (List.mem_range.2 hj)
    simp only [Bool.and_eq_true, Bool.or_eq_true] at this
    rcases this.2 with (h | h) | h
    · rw [hl] at h; cases h
    · obtain ⟨t', ht', he⟩ := List.any_eq_true.1 h
      exact absurd (by simpa using he) (hno t' ht')
    · simpa using (List.all_eq_true.1 h) t ht
  intro m
  induction m with
  | zero =>
    intro listed vs w hm hs hsame hshut hpr hbl hds hb
    have hall := unlD_zero hm
    have : listed = finD L listed0 := by
      refine boolsD_eq (by rw [finD_size]; omega) fun i => ?_
      rcases finD_get L listed0 i with h | ⟨h1, h2⟩
      · rw [h]
        by_cases hi : ∃ t ∈ L, t.j = i
        · obtain ⟨t, ht, rfl⟩ := hi; exact hall t ht
        · have h2 : ∀ t ∈ L, t.j ≠ i := fun t ht e => hi ⟨t, ht, e⟩
          rw [hsame i h2]
          have : ∀ (M : List YldD) (l : Array Bool), (∀ t ∈ M, t.j ≠ i) → (finD M l).getD i true = l.getD i true := by
            intro M
            induction M with
            | nil => intro l _; rfl
            | cons x M ihM =>
              intro l hM
              show (finD M (l.setIfInBounds x.j true)).getD i true = _
              rw [ihM _ fun t ht => hM t (List.mem_cons_of_mem _ ht), getD_set_ne true (hM x (List.mem_cons_self ..))]
          rw [← this L listed0 h2]; exact h
      · rw [h1, hsame i h2]
    subst this
    rw [Nat.zero_add]
    exact hend vs w hb (fun t ht hc => ⟨hpr t ht ⟨hall t ht, fun c h => by rw [hc] at h; cases h⟩, hbl t ht ⟨hall t ht, fun c h => by rw [hc] at h; cases h⟩⟩) fun t ht t' ht' hc hc' hne => hds t ht t' ht' ⟨hall t ht, fun c h => by rw [hc] at h; cases h⟩ ⟨hall t' ht', fun c h => by rw [hc'] at h; cases h⟩ hne
  | succ m ih =>
    intro listed vs w hm hs hsame hshut hpr hbl hds hb
    have hex : ∃ t ∈ L, listed.getD t.j true = false := by
      have : (L.filter (fun t => !listed.getD t.j true)) ≠ [] := by
        intro e; unfold unlD at hm; rw [e] at hm; simp at hm
      obtain ⟨t, ht⟩ := List.exists_mem_of_ne_nil _ this
      obtain ⟨h1, h2⟩ := List.mem_filter.1 ht
      exact ⟨t, h1, by simpa using h2⟩
    rw [show m + 1 + f0 = (m + f0) + 1 by omega]
    refine ⟨fun hr => ?_, fun j hj => ?_⟩
    · obtain ⟨t, _, hu⟩ := hex
      exact absurd hu (ready_nil hok hs hr t.j)
    obtain ⟨hju, o, ho, hdep⟩ := mem_ready.1 hj
    have hjlt : j < ops.size := (Array.getElem?_eq_some_iff.1 ho).1
    have hdepw : ∀ i ∈ waits ops j, listed.getD i true = true := by
      intro i hw
      unfold waits at hw
      rw [ho] at hw
      simp only [Option.map_some, Option.getD_some, List.mem_filterMap] at hw
      obtain ⟨e, he, heq⟩ := hw
      split at heq
      · rename_i hb
        injection heq with heq
        have := hdep e (by simpa using he) hb
        rw [heq] at this
        by_cases hb' : i < listed.size
        · simp [Array.getD, hb'] at this ⊢; exact this
        · simp [Array.getD, hb'] at this
      · cases heq
    have hsL' : ∃ s ∈ L, s.j = j := by
      refine Classical.byContradiction fun hno => ?_
      have hno' : ∀ t ∈ L, t.j ≠ j := fun t ht e => hno ⟨t, ht, e⟩
      obtain ⟨t, ht, hu⟩ := hex
      have h1 := hgr' j hjlt (by rw [← hsame j hno']; exact hju) hno' t ht
      have h2 := reachD_listed hshut ops.size (waits ops j) (fun i hi => ⟨waitsD_bd hok j hjlt i hi, hdepw i hi⟩) (waitsD_bd hok) t.j h1
      rw [hu] at h2; cases h2
    obtain ⟨s, hsL, rfl⟩ := hsL'
    have hdl : ∀ t : YldD, (waits ops s.j).contains t.j = true → (t.cons = none ∨ t.cons = some s.j) → liveD listed t := by
      intro t hw hcons
      refine ⟨hdepw t.j (by simpa using hw), fun c h => ?_⟩
      rcases hcons with h' | h'
      · rw [h'] at h; cases h
      · rw [h'] at h; injection h with h; subst h; exact hju
    refine wpOp_mono ?_ (hstep s hsL vs w hb fun t ht hw hcons => ⟨hpr t ht (hdl t hw hcons), hbl t ht (hdl t hw hcons)⟩)
    rintro a' w' ⟨v, rfl, hv, ⟨row, hg, hrow⟩, hvb⟩
    have hrowB : ∀ g, row = some g → w0.heap.size ≤ g := by
      intro g e
      rcases hrow with h | ⟨t, ht, hw, hcons, h⟩
      · rw [h] at e; cases e
      · exact (hbl t ht (hdl t hw (.inr hcons)) g (by rw [← h]; exact e)).1
    have hb' : Below w0.heap.size w0 w' := hb.trans (below_of_grown hg hrowB hb.size)
    refine ⟨KB.of hb', ?_⟩
    rw [← putd_upd L vs a0 s v hn hsL]
    have hlive : ∀ t ∈ L, t.j ≠ s.j → liveD (listed.setIfInBounds s.j true) t → liveD listed t ∧ t.cons ≠ some s.j := by
      intro t ht hne hl
      refine ⟨⟨?_, fun c hcc => ?_⟩, fun hcs => ?_⟩
      · have := hl.1; rwa [getD_set_ne true (Ne.symm hne)] at this
      · have := hl.2 c hcc
        by_cases he : s.j = c
        · subst he; exact hju
        · rwa [getD_set_ne true he] at this
      · have := hl.2 s.j hcs
        have hlt : s.j < listed.size := by
          have := (List.getElem?_eq_some_iff.1 (getD_false.1 hju)).1
          simpa using this
        simp [Array.getD, hlt] at this
    have hsameV : ∀ t : YldD, t.j ≠ s.j → upd vs s.j v t.j = vs t.j := fun t h => if_neg h
    have hself : upd vs s.j v s.j = v := if_pos rfl
    have hapart : ∀ t ∈ L, t.j ≠ s.j → liveD (listed.setIfInBounds s.j true) t → (vs t.j).bk = none ∨ (vs t.j).bk ≠ row := by
      intro t ht hne hl
      obtain ⟨hl', hcs⟩ := hlive t ht hne hl
      rcases hrow with h | ⟨t0, ht0, hw0, hc0, h⟩
      · cases hv' : (vs t.j).bk with
        | none => exact .inl rfl
        | some k => right; rw [h]; simp
      · rw [h]
        refine hds t ht t0 ht0 hl' (hdl t0 hw0 (.inr hc0)) fun e => hcs ?_
        have := nodupD_eq hn ht ht0 e
        rw [this]; exact hc0
    refine ih _ _ _ ?_ (by simpa using hs) ?_ ?_ ?_ ?_ ?_ hb'
    · have := unlD_set L listed s hn hsL hju
      omega
    · intro i hi
      rw [getD_set_ne true (hi s hsL)]
      exact hsame i hi
    · intro i hi hilt k hk
      by_cases he : s.j = i
      · subst he
        have hks : s.j ≠ k := by
          intro e
          subst e
          simp only [parOk, Bool.and_eq_true, List.all_eq_true, List.mem_range, decide_eq_true_eq] at hok
          have := hok.2 s.j hilt s.j hk
          omega
        rw [getD_set_ne true hks]
        exact hdepw k hk
      · rw [getD_set_ne true he] at hi
        have := hshut i hi hilt k hk
        by_cases hks : s.j = k
        · subst hks; rw [hju] at this; cases this
        · rwa [getD_set_ne true hks]
    · intro t ht hl
      by_cases he : t.j = s.j
      · have hts := nodupD_eq hn ht hsL he
        subst hts
        rw [hself]; exact hv
      · rw [hsameV t he]
        exact t.st _ _ _ row (hpr t ht (hlive t ht he hl).1) hg (hapart t ht he hl)
    · intro t ht hl g hgb
      by_cases he : t.j = s.j
      · have hts := nodupD_eq hn ht hsL he
        subst hts
        rw [hself] at hgb
        rcases hvb with h | ⟨t0, ht0, hw0, hc0, h⟩ | ⟨g', h, h1, h2⟩
        · rw [h] at hgb; cases hgb
        · obtain ⟨q1, q2⟩ := hbl t0 ht0 (hdl t0 hw0 (.inr hc0)) g (by rw [← h]; exact hgb)
          exact ⟨q1, Nat.lt_of_lt_of_le q2 hg.size⟩
        · rw [h] at hgb; injection hgb with e; subst e
          exact ⟨Nat.le_trans hb.size h1, h2⟩
      · rw [hsameV t he] at hgb
        obtain ⟨q1, q2⟩ := hbl t ht (hlive t ht he hl).1 g hgb
        exact ⟨q1, Nat.lt_of_lt_of_le q2 hg.size⟩
    · have one : ∀ t ∈ L, t.j ≠ s.j → liveD (listed.setIfInBounds s.j true) t → v.bk = none ∨ v.bk ≠ (vs t.j).bk := by
        intro t ht he hl
        obtain ⟨hl', hcs⟩ := hlive t ht he hl
        rcases hvb with h | ⟨t0, ht0, hw0, hc0, h⟩ | ⟨g', h, h1, h2⟩
        · exact .inl h
        · rw [h]
          exact hds t0 ht0 t ht (hdl t0 hw0 (.inr hc0)) hl' fun e => hcs (by rw [nodupD_eq hn ht ht0 e.symm]; exact hc0)
        · right
          rw [h]
          intro e
          have := (hbl t ht hl' g' e.symm).2
          omega
      intro t ht t' ht' hl hl' hne
      by_cases he : t.j = s.j
      · have hts := nodupD_eq hn ht hsL he
        subst hts
        have he' : t'.j ≠ t.j := Ne.symm hne
        rw [hself, hsameV t' he']
        exact one t' ht' he' hl'
      · by_cases he' : t'.j = s.j
        · have hts := nodupD_eq hn ht' hsL he'
          subst hts
          rw [hself, hsameV t he]
          rcases one t ht he hl with h | h
          · cases hv' : (vs t.j).bk with
            | none => exact .inl rfl
            | some k => right; rw [h]; simp
          · exact .inr (Ne.symm h)
        · rw [hsameV t he, hsameV t' he']
          exact hds t ht t' ht' (hlive t ht he hl).1 (hlive t' ht' he' hl').1 hne
/-- These operations of a region, in whatever order; the others wait for all of them. -/
theorem bparD (L : List YldD) {a0 : Act} (f0 : Nat) {fuel : Nat} {listed : Array Bool} {w : World} {h : Array Obj} (hh : h = w.heap) (hok : okD ops L listed = true) (hf : fuel = L.length + f0)
    (hstep : ∀ s ∈ L, ∀ (vs : Nat → Value) (W : World), Below w.heap.size w W → (∀ t ∈ L, (waits ops s.j).contains t.j = true → (t.cons = none ∨ t.cons = some s.j) → t.pr (vs t.j) W ∧ ∀ g, (vs t.j).bk = some g → w.heap.size ≤ g ∧ g < W.heap.size) →
      wpOp P ops Q s.j (fun a' w' => ∃ v, a' = (putd L vs a0).put s.d v ∧ StepD ops L vs s W v w') (putd L vs a0) W)
    (hend : ∀ (vs : Nat → Value) (W : World), Below w.heap.size w W → (∀ t ∈ L, t.cons = none → t.pr (vs t.j) W ∧ ∀ g, (vs t.j).bk = some g → w.heap.size ≤ g ∧ g < W.heap.size) → (∀ t ∈ L, ∀ t' ∈ L, t.cons = none → t'.cons = none → t.j ≠ t'.j → (vs t.j).bk = none ∨ (vs t.j).bk ≠ (vs t'.j).bk) → wpB P ops Q w.heap f0 (finD L listed) (putd L vs a0) W) : wpB P ops Q h fuel listed a0 w := by
  subst hh
  have hok2 := hok
  simp only [okD, Bool.and_eq_true, beq_iff_eq] at hok2
  obtain ⟨⟨⟨⟨hok', hnB⟩, hsz0⟩, hun0⟩, hgr⟩ := hok2
  obtain ⟨vs, hvs⟩ := puts_self (L.map YldD.y) a0 (parNodup_of hnB)
  have hunl : ∀ t ∈ L, listed.getD t.j true = false := fun t ht => by simpa using (List.all_eq_true.1 hun0) t ht
  have hno : ∀ t ∈ L, ¬ liveD listed t := fun t ht hl => by have h1 := hl.1; rw [hunl t ht] at h1; cases h1
  have hm : unlD L listed = L.length := by
    unfold unlD
    rw [List.filter_eq_self.2 fun t ht => by rw [hunl t ht]; rfl]
  have := bparD_aux (P := P) (Q := Q) L listed hok hstep hend L.length listed vs w hm hsz0 (fun i _ => rfl) (fun j hj hjlt i hi => ?_) (fun t ht hl => absurd hl (hno t ht)) (fun t ht hl => absurd hl (hno t ht)) (fun t ht _ _ hl => absurd hl (hno t ht)) (Below.refl _ _)
  · unfold putd at this; rw [hvs] at this; rw [hf]; exact this
  · have := (List.all_eq_true.1 hgr) j (List.mem_range.2 hjlt)
    simp only [Bool.and_eq_true, Bool.or_eq_true] at this
    rcases this.1 with h | h
    · rw [hj] at h; cases h
    · exact (List.all_eq_true.1 h) i hi
theorem grownBelowD {w w' : World} (h : Below w.heap.size w w') (row : Option Nat) : w.grownBy w' row := ⟨h.os, h.tape, h.output, h.size, fun k hk _ => h.block k hk⟩
theorem StepD.quiet {L : List YldD} {vs : Nat → Value} {s : YldD} {W w' : World} {v : Value} (hpr : s.pr v w') (hb : Below W.heap.size W w') (h0 : v.bk = none) : StepD ops L vs s W v w' :=
  ⟨hpr, ⟨none, grownBelowD hb none, .inl rfl⟩, .inl h0⟩
theorem StepD.fresh {L : List YldD} {vs : Nat → Value} {s : YldD} {W w' : World} {v : Value} {l : List UInt8} (hpr : s.pr v w') (hb : Below W.heap.size W w') (hown : OwnB w' W.heap.size v l) : StepD ops L vs s W v w' := by
  refine ⟨hpr, ⟨none, grownBelowD hb none, .inl rfl⟩, ?_⟩
  rw [own_bk hown]
  cases hv : v.ownBlock with
  | none => exact .inl rfl
  | some g => exact .inr (.inr ⟨g, rfl, (hown.lt g hv).1, (hown.lt g hv).2⟩)
theorem StepD.app {L : List YldD} {vs : Nat → Value} {s t : YldD} (ht : t ∈ L) (hw : (waits ops s.j).contains t.j = true) (hc : t.cons = some s.j) {v v' : Value} (hv : vs t.j = v) {W w' : World} {B B' : Nat} {l l' : List UInt8}
    (hold : OwnB W B' v l') (hpr : s.pr v' w') (hown : OwnB w' B v' l) (hg : W.grownBy w' v.ownBlock) (hat : v'.ownBlock = v.ownBlock ∨ v'.ownBlock = some W.heap.size) : StepD ops L vs s W v' w' := by
  subst hv
  refine ⟨hpr, ⟨_, hg, .inr ⟨t, ht, hw, hc, (own_bk hold).symm⟩⟩, ?_⟩
  rw [own_bk hown]
  rcases hat with h | h
  · exact .inr (.inl ⟨t, ht, hw, hc, h.trans (own_bk hold).symm⟩)
  · exact .inr (.inr ⟨_, h, Nat.le_refl _, (hown.lt _ h).2⟩)
theorem StepD.new {L : List YldD} {vs : Nat → Value} {j : Nat} {d : Option Tmp} {cons : Option Nat} {us : List Value} {W w' : World} {g : Nat} (ha : At w' g us) (hb : Below W.heap.size W w') (hg : W.heap.size ≤ g) : StepD ops L vs (YldD.at j d cons us) W (.pointer (some ⟨g, 0, none⟩)) w' :=
  ⟨⟨g, rfl, ha⟩, ⟨none, grownBelowD hb none, .inl rfl⟩, .inr (.inr ⟨g, rfl, hg, ha.1⟩)⟩
theorem parD_of {j : Nat} {o : Oper} {d : Option Tmp} {R : Value → World → Prop} {a : Act} {w : World} (ho : ops[j]? = some o) (hw : Region.wanted o (yielded ops a.tmps) = true)
    (h : ∀ K : Act → World → Prop, Shut (∀ (a' : Act) (v : Value) (w' : World), a' = a.put d v → R v w' → K a' w') → o.wp P a w K Q) :
    wpOp P ops Q j (fun a' w' => ∃ v, a' = a.put d v ∧ R v w') a w :=
  wpOp_of ho hw (h _ (fun _a' v _w' h1 h2 => ⟨v, h1, h2⟩))
end
end Go.Proofs.Ytjbelkpmbbkhgaa

