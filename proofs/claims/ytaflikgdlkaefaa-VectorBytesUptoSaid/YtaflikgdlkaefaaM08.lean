/- Vectors: plain mathematics. -/
import Derived.Maps.AppendAt
import Derived.Lib.SliceRun
import Derived.Laws.IdiomCopy
import Derived.ArgAppend
import Derived.Deep.Upon
import Derived.Laws.Tables
import Derived.Great.BuildSlice
import Derived.Maps.Keyed
import Derived.Test.YtaflikgdlkaefaaM02
import Derived.Test.YtaflikgdlkaefaaM03
import Derived.Test.YtaflikgdlkaefaaM07
namespace Go.Proofs.Ytaflikgdlkaefaa.Ve
open Go.Proofs.Ytaflikgdlkaefaa.Sp Go.Proofs.Ytaflikgdlkaefaa.Dt

/-- a vector: its rows -/
abbrev VL := List (Int × List Rg)
def okV (last : Int) : VL → Bool
  | [] => true
  | p :: t => decide (last < p.1) && decide (p.1 < 64) && !p.2.isEmpty && right p.2 && okV p.1 t
def rightV (V : VL) : Bool := okV (-1) V
/-- a replica's ranges -/
def partV (V : VL) (r : Int) : List Rg := (look V r).getD []
def hasV (V : VL) (d : D2) : Bool := rightV V && d.right && hasS (partV V d.r) d.q
def sumV : VL → Int
  | [] => 0
  | p :: t => countS p.2 + sumV t
def countV (V : VL) : Int := if rightV V = true then sumV V else 0
def baseV (V : VL) (r : Int) : Int := if rightV V = true then firstS (partV V r) else 0
/-- the ranges behind the one that begins with 1 -/
def extraS (l : List Rg) : List Rg := if 0 < firstS l then l.drop 1 else l
def extraV (V : VL) (r : Int) : List Rg := if rightV V = true then extraS (partV V r) else []
/-- the vector of each replica's ranges, from lo on, n of them -/
def rowsF (f : Int → List Rg) (lo : Int) : Nat → VL
  | 0 => []
  | n + 1 => if f lo = [] then rowsF f (lo + 1) n else (lo, f lo) :: rowsF f (lo + 1) n
def vecOf (f : Int → List Rg) : VL := rowsF f 0 64
def joinV (a b : VL) : VL := if rightV a = true ∧ rightV b = true then vecOf fun i => joinS (partV a i) (partV b i) else []
def minusV (a b : VL) : VL := if rightV a = true ∧ rightV b = true then vecOf fun i => minusS (partV a i) (partV b i) else []
def seqsOf (l : List D2) (r : Int) : List Int := (l.filter fun d => d.right && decide (d.r = r)).map (·.q)
def ofV (l : List D2) : VL := vecOf fun i => ofS (seqsOf l i)
def addV (V : VL) (d : D2) : VL := if d.right = true then joinV V (ofV [d]) else []
/-- rows rise, none is empty -/
structure Up (V : VL) : Prop where
  rise : V.Pairwise fun p q => p.1 < q.1
  some : ∀ p ∈ V, p.2 ≠ []
theorem okV_cons {last : Int} {p : Int × List Rg} {t : VL} : okV last (p :: t) = true ↔ last < p.1 ∧ p.1 < 64 ∧ p.2 ≠ [] ∧ right p.2 = true ∧ okV p.1 t = true := by
  simp only [okV, Bool.and_eq_true, decide_eq_true_eq, Bool.not_eq_true', List.isEmpty_eq_false_iff, and_assoc]
theorem okV_lt : ∀ {V : VL} {last : Int}, okV last V = true → ∀ p ∈ V, last < p.1 ∧ p.1 < 64 ∧ p.2 ≠ [] ∧ right p.2 = true
  | [], _, _, p, hp => by simp at hp
  | q :: t, last, h, p, hp => by
    obtain ⟨h1, h2, h3, h4, h5⟩ := okV_cons.1 h
    rcases List.mem_cons.1 hp with rfl | hp
    · exact ⟨h1, h2, h3, h4⟩
    · have := okV_lt h5 p hp
      exact ⟨by omega, this.2⟩
theorem okV_up : ∀ {V : VL} {last : Int}, okV last V = true → Up V
  | [], _, _ => ⟨.nil, by simp⟩
  | q :: t, last, h => by
    obtain ⟨h1, h2, h3, h4, h5⟩ := okV_cons.1 h
    obtain ⟨k1, k2⟩ := okV_up h5
    refine ⟨.cons (fun p hp => (okV_lt h5 p hp).1) k1, fun p hp => ?_⟩
    rcases List.mem_cons.1 hp with rfl | hp
    · exact h3
    · exact k2 p hp
theorem look_cons (p : Int × List Rg) (V : VL) (r : Int) : look (p :: V) r = if p.1 = r then Option.some p.2 else look V r := by
  unfold look
  rw [List.find?_cons]
  by_cases e : p.1 = r <;> simp [e]
theorem look_low {V : VL} {r : Int} (h : ∀ p ∈ V, r < p.1) : look V r = none := by
  induction V with
  | nil => rfl
  | cons p V ih =>
    have h1 := h p (by simp)
    rw [look_cons, if_neg (by omega)]
    exact ih fun q hq => h q (by simp [hq])
/-- a rising vector is told by its parts -/
theorem up_one : ∀ {V W : VL}, Up V → Up W → (∀ r, partV V r = partV W r) → V = W
  | [], [], _, _, _ => rfl
  | [], q :: W, _, h, hp => by
    have := hp q.1
    rw [partV, partV, look_cons, if_pos rfl] at this
    exact absurd this.symm (h.some q (by simp))
  | p :: V, [], h, _, hp => by
    have := hp p.1
    rw [partV, partV, look_cons, if_pos rfl] at this
    exact absurd this (h.some p (by simp))
  | p :: V, q :: W, h, k, hp => by
    obtain ⟨h1, h2⟩ := List.pairwise_cons.1 h.rise
    obtain ⟨k1, k2⟩ := List.pairwise_cons.1 k.rise
    have e : p.1 = q.1 := by
      rcases Int.lt_trichotomy p.1 q.1 with hlt | he | hlt
      · have := hp p.1
        rw [partV, partV, look_cons, if_pos rfl, look_low (V := q :: W) (fun x hx => by rcases List.mem_cons.1 hx with rfl | hx; exact hlt; exact Int.lt_trans hlt (k1 x hx))] at this
        exact absurd this (h.some p (by simp))
      · exact he
      · have := hp q.1
        rw [partV, partV, look_cons (p := q), if_pos rfl, look_low (V := p :: V) (fun x hx => by rcases List.mem_cons.1 hx with rfl | hx; exact hlt; exact Int.lt_trans hlt (h1 x hx))] at this
        exact absurd this.symm (k.some q (by simp))
    have e2 : p.2 = q.2 := by
      have := hp p.1
      rw [partV, partV, look_cons, if_pos rfl, look_cons, if_pos e.symm] at this
      exact this
    have e3 : V = W := up_one ⟨h2, fun x hx => h.some x (by simp [hx])⟩ ⟨k2, fun x hx => k.some x (by simp [hx])⟩ fun r => by
      by_cases hr : p.1 = r
      · rw [partV, partV, look_low (fun x hx => hr ▸ h1 x hx), look_low (fun x hx => (hr.symm.trans e) ▸ k1 x hx)]
      · have := hp r
        rw [partV, partV, look_cons, if_neg hr, look_cons, if_neg (fun h => hr (e.trans h))] at this
        exact this
    obtain ⟨p1, p2⟩ := p
    obtain ⟨q1, q2⟩ := q
    simp only at e e2
    rw [e, e2, e3]
theorem rowsF_mem {f : Int → List Rg} : ∀ {n : Nat} {lo : Int} {p : Int × List Rg}, p ∈ rowsF f lo n → lo ≤ p.1 ∧ p.1 < lo + n ∧ p.2 = f p.1 ∧ p.2 ≠ []
  | 0, lo, p, h => by simp [rowsF] at h
  | n + 1, lo, p, h => by
    unfold rowsF at h
    split at h
    · have := rowsF_mem h
      exact ⟨by omega, by omega, this.2.2⟩
    · rename_i hne
      rcases List.mem_cons.1 h with rfl | h
      · exact ⟨by dsimp only; omega, by dsimp only; omega, rfl, hne⟩
      · have := rowsF_mem h
        exact ⟨by omega, by omega, this.2.2⟩
theorem rowsF_up (f : Int → List Rg) : ∀ (n : Nat) (lo : Int), Up (rowsF f lo n)
  | 0, lo => ⟨.nil, by simp [rowsF]⟩
  | n + 1, lo => by
    obtain ⟨h1, h2⟩ := rowsF_up f n (lo + 1)
    unfold rowsF
    split
    · exact ⟨h1, h2⟩
    · rename_i hne
      refine ⟨.cons (fun p hp => by have := (rowsF_mem hp).1; dsimp only; omega) h1, fun p hp => ?_⟩
      rcases List.mem_cons.1 hp with rfl | hp
      · exact hne
      · exact h2 p hp
theorem rowsF_part {f : Int → List Rg} : ∀ {n : Nat} {lo r : Int}, partV (rowsF f lo n) r = if lo ≤ r ∧ r < lo + n then f r else []
  | 0, lo, r => by rw [if_neg (by omega)]; rfl
  | n + 1, lo, r => by
    have ih := rowsF_part (f := f) (n := n) (lo := lo + 1) (r := r)
    unfold rowsF
    split
    · rename_i he
      rw [ih]
      by_cases h : lo = r
      · subst h; rw [if_neg (by omega), if_pos (by omega), he]
      · by_cases h2 : lo + 1 ≤ r ∧ r < lo + 1 + (n : Int)
        · rw [if_pos h2, if_pos (by omega)]
        · rw [if_neg h2, if_neg (by omega)]
    · rw [partV, look_cons]
      by_cases h : lo = r
      · subst h; rw [if_pos rfl, if_pos (by omega)]; rfl
      · rw [if_neg h]
        change partV (rowsF f (lo + 1) n) r = _
        rw [ih]
        by_cases h2 : lo + 1 ≤ r ∧ r < lo + 1 + (n : Int)
        · rw [if_pos h2, if_pos (by omega)]
        · rw [if_neg h2, if_neg (by omega)]
theorem vecOf_part (f : Int → List Rg) (r : Int) : partV (vecOf f) r = if 0 ≤ r ∧ r < 64 then f r else [] := by
  rw [vecOf, rowsF_part]
  by_cases h : 0 ≤ r ∧ r < 64
  · rw [if_pos (by omega), if_pos h]
  · rw [if_neg (by omega), if_neg h]
theorem up_ok {V : VL} (h : Up V) {last : Int} (hl : ∀ p ∈ V, last < p.1 ∧ p.1 < 64 ∧ right p.2 = true) : okV last V = true := by
  induction V generalizing last with
  | nil => rfl
  | cons p V ih =>
    obtain ⟨h1, h2⟩ := List.pairwise_cons.1 h.rise
    have hp := hl p (by simp)
    exact okV_cons.2 ⟨hp.1, hp.2.1, h.some p (by simp), hp.2.2, ih ⟨h2, fun x hx => h.some x (by simp [hx])⟩ fun q hq => ⟨h1 q hq, (hl q (by simp [hq])).2⟩⟩
theorem vecOf_right {f : Int → List Rg} (h : ∀ r, 0 ≤ r → r < 64 → right (f r) = true) : rightV (vecOf f) = true :=
  up_ok (rowsF_up f 64 0) fun p hp => by
    obtain ⟨h1, h2, h3, _⟩ := rowsF_mem hp
    exact ⟨by omega, by omega, by rw [h3]; exact h _ h1 (by omega)⟩
theorem part_right {V : VL} (h : rightV V = true) (r : Int) : right (partV V r) = true := by
  unfold partV
  cases hl : look V r with
  | none => rfl
  | some l => exact (okV_lt h _ (look_mem hl)).2.2.2
theorem part_out {V : VL} (h : rightV V = true) {r : Int} (hr : ¬ (0 ≤ r ∧ r < 64)) : partV V r = [] := by
  unfold partV
  cases hl : look V r with
  | none => rfl
  | some l =>
    have := okV_lt h _ (look_mem hl)
    dsimp only at this
    omega
theorem joinS_nil : joinS [] [] = [] := rfl
theorem minusS_nil : minusS [] [] = [] := rfl
theorem joinV_part {a b : VL} (ha : rightV a = true) (hb : rightV b = true) (r : Int) : partV (joinV a b) r = joinS (partV a r) (partV b r) := by
  rw [joinV, if_pos ⟨ha, hb⟩, vecOf_part]
  split
  · rfl
  · rename_i h; rw [part_out ha h, part_out hb h]; rfl
theorem minusV_part {a b : VL} (ha : rightV a = true) (hb : rightV b = true) (r : Int) : partV (minusV a b) r = minusS (partV a r) (partV b r) := by
  rw [minusV, if_pos ⟨ha, hb⟩, vecOf_part]
  split
  · rfl
  · rename_i h; rw [part_out ha h, part_out hb h]; rfl
theorem joinV_right (a b : VL) : rightV (joinV a b) = true := by
  unfold joinV
  split
  · exact vecOf_right fun r _ _ => joinS_right _ _
  · rfl
theorem minusV_right (a b : VL) : rightV (minusV a b) = true := by
  unfold minusV
  split
  · exact vecOf_right fun r _ _ => minusS_right _ _
  · rfl
theorem ofV_right (l : List D2) : rightV (ofV l) = true := vecOf_right fun _r _ _ => ofS_right _
theorem ofV_part (l : List D2) (r : Int) : partV (ofV l) r = ofS (seqsOf l r) := by
  rw [ofV, vecOf_part]
  split
  · rfl
  · rename_i h
    have : seqsOf l r = [] := by
      unfold seqsOf
      rw [List.map_eq_nil_iff, List.filter_eq_nil_iff]
      intro d _ hd
      simp only [Bool.and_eq_true, decide_eq_true_eq] at hd
      have := right_iff.1 hd.1
      omega
    rw [this]; rfl
theorem right_one_V {V W : VL} (hV : rightV V = true) (hW : rightV W = true) (h : ∀ r, 0 ≤ r → r < 64 → partV V r = partV W r) : V = W :=
  up_one (okV_up hV) (okV_up hW) fun r => by
    by_cases hr : 0 ≤ r ∧ r < 64
    · exact h r hr.1 hr.2
    · rw [part_out hV hr, part_out hW hr]
end Go.Proofs.Ytaflikgdlkaefaa.Ve
/- Rows of elements of whatever cells (plain ones): rows of the call's own, append, rows turned where they lie. -/
namespace Go.Proofs.Ytaflikgdlkaefaa
open Go.RowKit

/-- an element's type: its cells -/
structure ET (P : Program) (t e : TypeId) (α : Type) where
  n : Nat
  bytes : Nat
  cells : α → List Value
  zero : α
  z : Value
  ty : P.underlying t = some (.slice e)
  info : (P.info? e).map (fun i => (i.zero, i.size, i.bytes)) = some (some z, n, bytes)
  zc : z.cells.size = n
  pos : 0 < n
  len : ∀ x, (cells x).length = n
  one : ∀ x, ∀ u ∈ cells x, u.oneCell' = true
  small : bytes ≤ 1000
  ncap : n ≤ 1000 := by omega
section
variable {P : Program} {t e : TypeId} {α : Type}
def ET.dv (E : ET P t e α) (l : List α) : List Value := l.flatMap E.cells
def ET.Own (E : ET P t e α) (w : World) (base : Nat) (v : Value) (l : List α) : Prop := w.ownsRow base e E.n v l.length (E.dv l)
variable {E : ET P t e α}
theorem ET.dv_len (l : List α) : (E.dv l).length = l.length * E.n := by
  induction l with
  | nil => simp [ET.dv]
  | cons x l ih =>
    have : E.dv (x :: l) = E.cells x ++ E.dv l := by simp [ET.dv]
    rw [this, List.length_append, ih, E.len, List.length_cons, Nat.add_mul]
    omega
theorem ET.dv_append (l k : List α) : E.dv (l ++ k) = E.dv l ++ E.dv k := by simp [ET.dv]
theorem ET.dv_cons (x : α) (l : List α) : E.dv (x :: l) = E.cells x ++ E.dv l := by simp [ET.dv]
theorem ET.dv_one (l : List α) : ∀ u ∈ E.dv l, u.oneCell' = true := by
  intro u hu
  obtain ⟨d, _, h⟩ := List.mem_flatMap.1 hu
  exact E.one d u h
theorem ET.dv_get : ∀ (l : List α) (k j : Nat) (s : α), l[k]? = some s → j < E.n → (E.dv l)[k * E.n + j]? = (E.cells s)[j]?
  | [], k, j, s, h, _ => by simp at h
  | x :: l, 0, j, s, h, hj => by
    obtain rfl : x = s := by simpa using h
    rw [ET.dv_cons, Nat.zero_mul, Nat.zero_add, List.getElem?_append_left (by rw [E.len]; exact hj)]
  | x :: l, k + 1, j, s, h, hj => by
    have h' : l[k]? = some s := by simpa using h
    rw [ET.dv_cons, List.getElem?_append_right (by rw [E.len, Nat.add_mul]; omega), E.len]
    rw [show (k + 1) * E.n + j - E.n = k * E.n + j by rw [Nat.add_mul]; omega]
    exact ET.dv_get l k j s h' hj
theorem ET.dv_take (l : List α) (k : Nat) : (E.dv l).take (k * E.n) = E.dv (l.take k) := by
  induction l generalizing k with
  | nil => simp [ET.dv]
  | cons x l ih =>
    cases k with
    | zero => simp [ET.dv]
    | succ k =>
      rw [List.take_succ_cons, ET.dv_cons, ET.dv_cons, ← ih, List.take_append, E.len]
      rw [List.take_of_length_le (by rw [E.len, Nat.add_mul]; omega)]
      congr 2
      rw [Nat.add_mul]; omega
theorem ET.dv_drop (l : List α) (k : Nat) : (E.dv l).drop (k * E.n) = E.dv (l.drop k) := by
  induction l generalizing k with
  | nil => simp [ET.dv]
  | cons x l ih =>
    cases k with
    | zero => simp [ET.dv]
    | succ k =>
      rw [List.drop_succ_cons, ET.dv_cons, ← ih, List.drop_append, E.len]
      rw [List.drop_of_length_le (by rw [E.len, Nat.add_mul]; omega), List.nil_append]
      congr 1
      rw [Nat.add_mul]; omega
theorem ET.dv_nil_of {l : List α} (h : E.dv l = []) : l = [] := by
  have h1 := E.dv_len l
  rw [h] at h1
  have h2 := E.pos
  cases l with
  | nil => rfl
  | cons x l => rw [List.length_cons, Nat.add_mul] at h1; simp at h1; omega
variable {w w' : World} {base : Nat} {v : Value} {l : List α}
theorem ET.Own.nil (w : World) (base : Nat) : E.Own w base (.slice none 0 0) [] := World.ownsRow_nil w base _ E.n
theorem ET.Own.form (h : E.Own w base v l) : ∃ A c, v = .slice A l.length c ∧ l.length ≤ c ∧ c ≤ maxLen ∧ Sl w w.heap.size A (E.dv l) ∧ (A = none → l = [] ∧ c = 0) ∧ (∀ a, A = some a → base ≤ a.block ∧ a.off = 0 ∧ a.spot = none) := by
  rcases h.2 with ⟨rfl, hn⟩ | ⟨g, cap, cur, rfl, hb, hg, hn, hm, hcs, ht⟩
  · have := List.eq_nil_of_length_eq_zero hn
    subst this
    exact ⟨none, 0, rfl, by simp, by simp [maxLen], .inl rfl, (fun _ => ⟨rfl, rfl⟩), (fun a h => (by cases h))⟩
  · have hlt : g < w.heap.size := (Array.getElem?_eq_some_iff.1 hg).1
    refine ⟨_, cap, rfl, hn, hm, .inr ⟨g, 0, rfl, hlt, hlt, fun j u hu => ?_⟩, (fun h => (by cases h)), (fun a h => by cases h; exact ⟨hb, rfl, rfl⟩)⟩
    have := h.cells (g := g) rfl j u hu
    rw [Nat.zero_add]
    rw [addr0] at this
    exact this
theorem ET.Own.below (h : E.Own w base v l) (hb : Below w.heap.size w w') : E.Own w' base v l :=
  World.ownsRow.kept h (row := none) ⟨hb.os, hb.tape, hb.output, hb.size, fun k hk _ => hb.block k hk⟩ (by cases hv : v.ownBlock <;> simp)
theorem ET.Own.keep (h : E.Own w base v l) {row : Option Nat} (hg : w.grownBy w' row) (hne : v.ownBlock = none ∨ v.ownBlock ≠ row) : E.Own w' base v l := World.ownsRow.kept h hg hne
theorem ET.Own.head (h : E.Own w base v l) (hn : 0 < l.length) : ∃ g cap, v = .slice (some ⟨g, 0, none⟩) l.length cap ∧ base ≤ g ∧ g < w.heap.size ∧ l.length ≤ cap ∧ cap ≤ maxLen := by
  rcases h.2 with ⟨_, h0⟩ | ⟨g, cap, cur, rfl, hb, hg, h1, h2, _⟩
  · omega
  · exact ⟨g, cap, rfl, hb, (Array.getElem?_eq_some_iff.1 hg).1, h1, h2⟩
theorem ET.Own.lt' (h : E.Own w base v l) : ∀ g, v.ownBlock = some g → base ≤ g ∧ g < w.heap.size := fun g hg => World.ownsRow.lt h g hg
theorem ET.Own.below_of {wr w1 : World} {x : Value} {B : Nat} {l : List α} (hown : E.Own wr B x l) (hb : Below B w wr) (hB : B ≤ wr.heap.size) (hg : wr.grownBy w1 x.ownBlock) : Below B w w1 :=
  hb.trans (below_of_grown hg (fun g e => (hown.lt' g e).1) hB)
theorem ET.Own.lower {base' : Nat} (h : E.Own w base v l) (hb : base' ≤ base) : E.Own w base' v l := by
  refine ⟨h.1, ?_⟩
  rcases h.2 with h' | ⟨g, cap, cur, e, hg, h'⟩
  · exact .inl h'
  · exact .inr ⟨g, cap, cur, e, Nat.le_trans hb hg, h'⟩
theorem ET.Own.lit (w : World) (l : List α) (hm : l.length ≤ maxLen) {us : Array Value} (hu : us.toList = E.dv l) : E.Own (w.alloc (.cells us e)) w.heap.size (.slice (some ⟨w.heap.size, 0, none⟩) l.length l.length) l := by
  have h1 : us.size = l.length * E.n := by rw [← Array.length_toList, hu, E.dv_len]
  have := World.ownsRow_lit (base := w.heap.size) (e := e) (size := E.n) w us l.length (Nat.le_refl _) hm h1
  rw [hu] at this
  exact this
theorem run_appE (w : World) (ty : TypeId) (hown : E.Own w base v l) {B : Nat} {A : Option Addr} {m c : Nat} {k : List α} (hr : Sl w B A (E.dv k)) (hm : m = k.length)
    (hl : l.length + k.length ≤ 100000000000) (hbase : base ≤ w.heap.size) :
    ∃ v' w', (Builtin.append_ #[t, t] ty #[v, .slice A m c]).run P w = .ok v' w' ∧ E.Own w' base v' (l ++ k) ∧ w.grownBy w' v.ownBlock ∧ (v' = .slice none 0 0 ↔ v = .slice none 0 0 ∧ m = 0) ∧ (v'.ownBlock = v.ownBlock ∨ v'.ownBlock = some w.heap.size) := by
  subst hm
  obtain ⟨i, hi, hz, hz1, hz2⟩ := info_parts E.info
  rcases A with _ | ad
  · have hk : k = [] := by
      rcases hr with h | ⟨b, o, h, _⟩
      · exact E.dv_nil_of h
      · cases h
    subst hk
    refine ⟨v, w, ?_, by simpa using hown, World.grownBy.refl w _, by simp, .inl rfl⟩
    rcases hown.2 with ⟨e, h0⟩ | ⟨g, cap', cur, e, hb0, hg0, hnc0, _⟩
    · subst e
      simp [Builtin.append_, run_underlying E.ty, sizeOf, typeInfo, hi, Builtin.lenOf, Builtin.firstCells]
    · subst e
      simp [Builtin.append_, run_underlying E.ty, sizeOf, typeInfo, hi, Builtin.lenOf, Builtin.firstCells, loadCells, hnc0, storeCells]
  · have hsm := E.small
    obtain ⟨v', w', hrun, h2, h3, h4, h5⟩ := run_append_own_at (P := P) w base t ty e i E.z E.n E.bytes E.ty hi hz hz1 hz2 E.zc E.pos v l.length (E.dv l) hown ad k.length c (E.dv k)
      (E.dv_len k) (fun j u hu => by
        rcases hr with h | ⟨b, o, h, _, _, hc⟩
        · rw [h] at hu; simp at hu
        · injection h with h
          subst h
          have : (⟨b, o, none⟩ : Addr).add j = ⟨b, o + j, none⟩ := by
            unfold Addr.add
            split
            · rename_i h0; subst h0; rfl
            · rfl
          rw [this]; exact hc j u hu) (E.dv_one k) (by simp only [maxLen]; omega) (Nat.le_trans (Nat.mul_le_mul_left _ hsm) (by omega)) hbase
    exact ⟨v', w', hrun, by rw [ET.Own, ET.dv_append, List.length_append]; exact h2, h3, h4, h5⟩
theorem run_appFE (w : World) (ty : TypeId) {B B' : Nat} {A A' : Option Addr} {n m c cap : Nat} {l k : List α} (hs : Sl w B A (E.dv l)) (hn : n = l.length) (hr : Sl w B' A' (E.dv k)) (hm : m = k.length)
    (hfull : cap < n + m) (hnil : A = none → n = 0 ∧ cap = 0) (hle : n ≤ cap) (hbytes : l.length + k.length ≤ 100000000000) :
    ∃ v' w', (Builtin.append_ #[t, t] ty #[.slice A n cap, .slice A' m c]).run P w = .ok v' w' ∧ E.Own w' w.heap.size v' (l ++ k) ∧ w.grownBy w' none := by
  subst hn hm
  obtain ⟨i, hi, hz, hz1, hz2⟩ := info_parts E.info
  have hkpos : 0 < k.length := by omega
  have hsm := E.small
  have hp := E.pos
  obtain ⟨b', o', e', _, _, hc'⟩ := hr.at_ (k := 0) (by rw [E.dv_len]; exact Nat.mul_pos hkpos hp)
  subst e'
  have hadd : ∀ (b o j : Nat), (⟨b, o, none⟩ : Addr).add j = ⟨b, o + j, none⟩ := by
    intro b o j
    unfold Addr.add
    split
    · rename_i h0; subst h0; rfl
    · rfl
  cases A with
  | none =>
    obtain ⟨h0, rfl⟩ := hnil rfl
    have hl : l = [] := List.eq_nil_of_length_eq_zero h0
    subst hl
    obtain ⟨v', w', h1, h2, h3, _⟩ := run_appE w ty (ET.Own.nil (E := E) w w.heap.size) hr (c := c) rfl hbytes (Nat.le_refl _)
    exact ⟨v', w', h1, h2, h3⟩
  | some a =>
    have holds : ∀ j u, (E.dv l)[j]? = some u → w.cell? (a.add j) = some u := by
      intro j u hu
      rcases hs with h | ⟨b, o, e, _, _, hc⟩
      · rw [h] at hu; cases hu
      · cases e
        rw [hadd]
        exact hc j u hu
    obtain ⟨v', w', hrun, h2, h3⟩ := run_append_arg_grows (P := P) w t ty e i E.z E.n E.bytes E.ty hi hz hz1 hz2 E.zc E.pos a l.length cap (E.dv l) (E.dv_len l) holds
      ⟨b', o', none⟩ k.length c (E.dv k) (E.dv_len k) (fun j u hu => by rw [hadd]; exact hc' j u hu) hfull (by simp only [maxLen]; omega) (Nat.le_trans (Nat.mul_le_mul_left _ hsm) (by omega))
    exact ⟨v', w', hrun, by rw [ET.Own, ET.dv_append, List.length_append]; exact h2, h3⟩
section
variable {ops : Array Oper} {rest : List Oper} {o : Oper} {a : Act} {Q : Exit → Act → World → Prop} {w : World} {s x : Operand}
theorem wp_appE {K : Act → World → Prop} (ho : o.op = .call { callee := .builtin .append, args := #[s, x], argTypes := #[t, t] })
    {base : Nat} {v : Value} {l : List α} (hown : E.Own w base v l) {B : Nat} {A : Option Addr} {m c : Nat} {k : List α} (hr : Sl w B A (E.dv k)) (hm : m = k.length)
    (hs : a.eval s = v) (hx : a.eval x = .slice A m c) (hl : l.length + k.length ≤ 100000000000) (hbase : base ≤ w.heap.size)
    (h : ∀ v' w', E.Own w' base v' (l ++ k) → w.grownBy w' v.ownBlock → (v'.ownBlock = v.ownBlock ∨ v'.ownBlock = some w.heap.size) → K (a.put o.dst v') w') : o.wp P a w K Q := by
  obtain ⟨v', w', hrun, h2, h3, _, h4⟩ := run_appE w o.type hown hr hm hl hbase (c := c)
  unfold Oper.wp execOp
  simp only [ho, resolve, invoke, builtin, Sem.run_bind, Sem.run_pure, Result.andThen_ok, List.map_toArray, List.map_cons, List.map_nil, hs, hx, hrun]
  exact h v' w' h2 h3 h4
theorem appE (hgd : o.guard = none) (ho : o.op = .call { callee := .builtin .append, args := #[s, x], argTypes := #[t, t] })
    {base : Nat} {v : Value} {l : List α} (hown : E.Own w base v l) {B : Nat} {A : Option Addr} {m c : Nat} {k : List α} (hr : Sl w B A (E.dv k)) (hm : m = k.length)
    (hs : a.eval s = v) (hx : a.eval x = .slice A m c) (hl : l.length + k.length ≤ 100000000000) (hbase : base ≤ w.heap.size)
    (h : ∀ v' w', E.Own w' base v' (l ++ k) → w.grownBy w' v.ownBlock → (v'.ownBlock = v.ownBlock ∨ v'.ownBlock = some w.heap.size) → wpList P ops Q rest (a.put o.dst v') w') : wpList P ops Q (o :: rest) a w :=
  wpList_plain hgd fun _ hK => wp_appE ho hown hr hm hs hx hl hbase fun v' w' h2 h3 h4 => hK _ _ (h v' w' h2 h3 h4)
theorem appEG (hgd : Region.wanted o (yielded ops a.tmps) = true) (ho : o.op = .call { callee := .builtin .append, args := #[s, x], argTypes := #[t, t] })
    {base : Nat} {v : Value} {l : List α} (hown : E.Own w base v l) {B : Nat} {A : Option Addr} {m c : Nat} {k : List α} (hr : Sl w B A (E.dv k)) (hm : m = k.length)
    (hs : a.eval s = v) (hx : a.eval x = .slice A m c) (hl : l.length + k.length ≤ 100000000000) (hbase : base ≤ w.heap.size)
    (h : ∀ v' w', E.Own w' base v' (l ++ k) → w.grownBy w' v.ownBlock → (v'.ownBlock = v.ownBlock ∨ v'.ownBlock = some w.heap.size) → wpList P ops Q rest (a.put o.dst v') w') : wpList P ops Q (o :: rest) a w :=
  BigFrame.wpList_want hgd fun _ hK => wp_appE ho hown hr hm hs hx hl hbase fun v' w' h2 h3 h4 => hK _ _ (h v' w' h2 h3 h4)
theorem wp_appFE {K : Act → World → Prop} (ho : o.op = .call { callee := .builtin .append, args := #[s, x], argTypes := #[t, t] })
    {B B' : Nat} {A A' : Option Addr} {n m c cap : Nat} {l k : List α} (hsl : Sl w B A (E.dv l)) (hn : n = l.length) (hr : Sl w B' A' (E.dv k)) (hm : m = k.length)
    (hs : a.eval s = .slice A n cap) (hx : a.eval x = .slice A' m c) (hfull : cap < n + m) (hnil : A = none → n = 0 ∧ cap = 0) (hle : n ≤ cap) (hbytes : l.length + k.length ≤ 100000000000)
    (h : ∀ v' w', E.Own w' w.heap.size v' (l ++ k) → w.grownBy w' none → K (a.put o.dst v') w') : o.wp P a w K Q := by
  obtain ⟨v', w', hrun, h2, h3⟩ := run_appFE w o.type hsl hn hr (c := c) hm hfull hnil hle hbytes
  unfold Oper.wp execOp
  simp only [ho, resolve, invoke, builtin, Sem.run_bind, Sem.run_pure, Result.andThen_ok, List.map_toArray, List.map_cons, List.map_nil, hs, hx, hrun]
  exact h v' w' h2 h3
theorem appFE (hgd : o.guard = none) (ho : o.op = .call { callee := .builtin .append, args := #[s, x], argTypes := #[t, t] })
    {B B' : Nat} {A A' : Option Addr} {n m c cap : Nat} {l k : List α} (hsl : Sl w B A (E.dv l)) (hn : n = l.length) (hr : Sl w B' A' (E.dv k)) (hm : m = k.length)
    (hs : a.eval s = .slice A n cap) (hx : a.eval x = .slice A' m c) (hfull : cap < n + m) (hnil : A = none → n = 0 ∧ cap = 0) (hle : n ≤ cap) (hbytes : l.length + k.length ≤ 100000000000)
    (h : ∀ v' w', E.Own w' w.heap.size v' (l ++ k) → w.grownBy w' none → wpList P ops Q rest (a.put o.dst v') w') : wpList P ops Q (o :: rest) a w :=
  wpList_plain hgd fun _ hK => wp_appFE ho hsl hn hr hm hs hx hfull hnil hle hbytes fun v' w' h2 h3 => hK _ _ (h v' w' h2 h3)
theorem appFEG (hgd : Region.wanted o (yielded ops a.tmps) = true) (ho : o.op = .call { callee := .builtin .append, args := #[s, x], argTypes := #[t, t] })
    {B B' : Nat} {A A' : Option Addr} {n m c cap : Nat} {l k : List α} (hsl : Sl w B A (E.dv l)) (hn : n = l.length) (hr : Sl w B' A' (E.dv k)) (hm : m = k.length)
    (hs : a.eval s = .slice A n cap) (hx : a.eval x = .slice A' m c) (hfull : cap < n + m) (hnil : A = none → n = 0 ∧ cap = 0) (hle : n ≤ cap) (hbytes : l.length + k.length ≤ 100000000000)
    (h : ∀ v' w', E.Own w' w.heap.size v' (l ++ k) → w.grownBy w' none → wpList P ops Q rest (a.put o.dst v') w') : wpList P ops Q (o :: rest) a w :=
  BigFrame.wpList_want hgd fun _ hK => wp_appFE ho hsl hn hr hm hs hx hfull hnil hle hbytes fun v' w' h2 h3 => hK _ _ (h v' w' h2 h3)
end
/-! ### a row that may be turned where it lies -/
def ET.Row (E : ET P t e α) (w : World) (g : Nat) (l : List α) : Prop := g < w.heap.size ∧ ∀ j u, (E.dv l)[j]? = some u → w.cell? ⟨g, j, none⟩ = some u ∧ w.frozen? ⟨g, j, none⟩ = false
theorem ET.Row.below {g : Nat} (h : E.Row w g l) (hb : Below w.heap.size w w') : E.Row w' g l :=
  ⟨Nat.lt_of_lt_of_le h.1 hb.size, fun j u hj => by
    obtain ⟨h1, h2⟩ := h.2 j u hj
    exact ⟨(hb.cell h.1).trans h1, (hb.frozen h.1).trans h2⟩⟩
theorem ET.Row.at_ {g : Nat} (h : E.Row w g l) : At w g (E.dv l) := h
theorem ET.Row.sl {g : Nat} (h : E.Row w g l) : Sl w w.heap.size (some ⟨g, 0, none⟩) (E.dv l) := At.sl h
theorem ET.Row.take {g : Nat} (h : E.Row w g l) (n : Nat) : E.Row w g (l.take n) := by
  refine ⟨h.1, fun j u hj => h.2 j u ?_⟩
  rw [← ET.dv_take, List.getElem?_take] at hj
  split at hj
  · exact hj
  · cases hj
theorem ET.Own.row {g c : Nat} (h : E.Own w base (.slice (some ⟨g, 0, none⟩) l.length c) l) : E.Row w g l := by
  refine ⟨(h.lt' g rfl).2, fun j u hj => ?_⟩
  have hlt : j < (E.dv l).length := (List.getElem?_eq_some_iff.1 hj).1
  rw [E.dv_len] at hlt
  have c0 := World.ownsRow.cellAt h j hlt
  exact ⟨c0.trans hj, World.ownsRow.frozenAt h _⟩
/-- an element's cells in a slice -/
theorem ET.cell_at {B : Nat} {A : Option Addr} (h : Sl w B A (E.dv l)) {k : Nat} {s : α} (hs : l[k]? = some s) : ∃ b o, A = some ⟨b, o, none⟩ ∧ b < w.heap.size ∧ b < B ∧ ∀ j u, (E.cells s)[j]? = some u → w.cell? ⟨b, o + (k * E.n + j), none⟩ = some u := by
  have hk : k < l.length := (List.getElem?_eq_some_iff.1 hs).1
  obtain ⟨b, o, e, h1, h2, hc⟩ := h.at_ (k := 0) (by rw [E.dv_len]; exact Nat.mul_pos (by omega) E.pos)
  refine ⟨b, o, e, h2, h1, fun j u hu => hc _ _ ?_⟩
  have hj : j < E.n := by rw [← E.len s]; exact (List.getElem?_eq_some_iff.1 hu).1
  rw [E.dv_get l k j s hs hj, hu]
theorem ET.dv_set {l : List α} {k : Nat} (hk : k < l.length) (s : α) (j : Nat) : (E.dv (l.set k s))[j]? = if k * E.n ≤ j ∧ j < k * E.n + E.n then (E.cells s)[j - k * E.n]? else (E.dv l)[j]? := by
  have hp := E.pos
  have hlen : (l.set k s).length = l.length := List.length_set
  by_cases hj : j < l.length * E.n
  · have hq : j / E.n < l.length := by rw [Nat.div_lt_iff_lt_mul hp]; exact hj
    have hm := Nat.mod_lt j hp
    have e : j / E.n * E.n + j % E.n = j := by rw [Nat.mul_comm]; exact Nat.div_add_mod j E.n
    by_cases h : j / E.n = k
    · have h1 : (l.set k s)[j / E.n]? = some s := by rw [h, List.getElem?_set_self hk]
      have h2 := E.dv_get (l.set k s) (j / E.n) (j % E.n) s h1 hm
      rw [e] at h2
      rw [h] at e
      rw [if_pos (by omega), h2]
      congr 1
      omega
    · have h1 : (l.set k s)[j / E.n]? = l[j / E.n]? := by rw [List.getElem?_set_ne (fun h' => h h'.symm)]
      obtain ⟨y, hy⟩ : ∃ y, l[j / E.n]? = some y := ⟨_, List.getElem?_eq_getElem hq⟩
      have h2 := E.dv_get (l.set k s) (j / E.n) (j % E.n) y (h1.trans hy) hm
      have h3 := E.dv_get l (j / E.n) (j % E.n) y hy hm
      rw [e] at h2 h3
      rw [if_neg ?_, h2, h3]
      rintro ⟨h4, h5⟩
      apply h
      have h6 : k * E.n < (j / E.n + 1) * E.n := by rw [Nat.add_mul]; omega
      have h7 : j / E.n * E.n < (k + 1) * E.n := by rw [Nat.add_mul]; omega
      have h8 := Nat.lt_of_mul_lt_mul_right h6
      have h9 := Nat.lt_of_mul_lt_mul_right h7
      omega
  · have h1 : (k + 1) * E.n ≤ l.length * E.n := Nat.mul_le_mul_right _ (by omega)
    rw [Nat.add_mul] at h1
    rw [if_neg (by omega), List.getElem?_eq_none (by rw [E.dv_len, hlen]; omega), List.getElem?_eq_none (by rw [E.dv_len]; omega)]
theorem ET.Row.put {g : Nat} (h : E.Row w g l) {k : Nat} (hk : k < l.length) (s : α) : E.Row (w.setCells g (k * E.n) (E.cells s)) g (l.set k s) := by
  have hsz : ∀ (vs : List Value) (o : Nat) (w : World), (w.setCells g o vs).heap.size = w.heap.size := by
    intro vs
    induction vs with
    | nil => intro o w; rfl
    | cons v vs ih => intro o w; rw [World.setCells, ih]; simp
  have hk1 : (k + 1) * E.n ≤ l.length * E.n := Nat.mul_le_mul_right _ (by omega)
  rw [Nat.add_mul] at hk1
  have hcell : ∀ j, j < l.length * E.n → ∃ u, (E.dv l)[j]? = some u ∧ w.cell? ⟨g, j, none⟩ = some u := fun j hj => by
    have hj' : j < (E.dv l).length := by rw [E.dv_len]; exact hj
    exact ⟨_, List.getElem?_eq_getElem hj', (h.2 j _ (List.getElem?_eq_getElem hj')).1⟩
  refine ⟨by rw [hsz]; exact h.1, fun j u hj => ?_⟩
  have hjl : j < (E.dv (l.set k s)).length := (List.getElem?_eq_some_iff.1 hj).1
  rw [E.dv_len, List.length_set] at hjl
  obtain ⟨u0, hu0, hc0⟩ := hcell j hjl
  refine ⟨?_, by rw [World.frozen?_setCells]; exact (h.2 j u0 hu0).2⟩
  rw [E.dv_set hk] at hj
  by_cases hin : k * E.n ≤ j ∧ j < k * E.n + E.n
  · rw [if_pos hin] at hj
    have hjs : j - k * E.n < (E.cells s).length := (List.getElem?_eq_some_iff.1 hj).1
    have := World.cell?_setCells_in g (E.cells s) (k * E.n) w (fun i hi => by
      obtain ⟨u1, _, h1⟩ := hcell (k * E.n + i) (by rw [E.len] at hi; omega)
      rw [h1]; rfl) (j - k * E.n) hjs
    rw [show k * E.n + (j - k * E.n) = j by omega] at this
    rw [this, ← hj, List.getElem?_eq_getElem hjs]
  · rw [if_neg hin] at hj
    rw [World.cell?_setCells_out g (E.cells s) (k * E.n) w _ (fun _ _ => ?_)]
    · rw [hc0]; rw [hu0] at hj; exact hj
    · rw [E.len]
      show j < k * E.n ∨ k * E.n + E.n ≤ j
      omega
end
end Go.Proofs.Ytaflikgdlkaefaa
/- What is built of parts: slices of one element, structs. -/
namespace Go.Proofs.Ytaflikgdlkaefaa
open Go.RowKit

theorem fold_set (off : Nat) : ∀ (us : List Value) (k : Nat) (pre old rest : List Value), old.length = us.length → pre.length = off + k →
    (us.zipIdx k).foldl (fun (cs : Array Value) (p : Value × Nat) => cs.setIfInBounds (off + p.2) p.1) (pre ++ old ++ rest).toArray = (pre ++ us ++ rest).toArray
  | [], k, pre, old, rest, hl, hp => by
    have : old = [] := List.eq_nil_of_length_eq_zero (by simpa using hl)
    subst this
    rfl
  | u :: us, k, pre, [], rest, hl, hp => by simp at hl
  | u :: us, k, pre, o :: old, rest, hl, hp => by
    rw [List.zipIdx_cons, List.foldl_cons]
    have e : (pre ++ o :: old ++ rest).toArray.setIfInBounds (off + k) u = ((pre ++ [u]) ++ old ++ rest).toArray := by
      rw [List.setIfInBounds_toArray, ← hp]
      simp
    simp only [e]
    rw [fold_set off us (k + 1) (pre ++ [u]) old rest (by simpa using hl) (by simp; omega)]
    simp
def numbered : Nat → List (List Value) → List (Nat × Value)
  | _, [] => []
  | k, u :: us => (k, .agg u.toArray) :: numbered (k + 1) us
theorem fill_many (n : Nat) : ∀ (us : List (List Value)) (k : Nat) (pre rest : List Value), pre.length = k * n → rest.length = us.length * n → (∀ u ∈ us, u.length = n) →
    Instr.fill (fun i => some (i * n, n)) (pre ++ rest).toArray (numbered k us) = some (pre ++ us.flatten).toArray
  | [], k, pre, rest, hp, hr, hu => by
    have : rest = [] := List.eq_nil_of_length_eq_zero (by simpa using hr)
    subst this
    rfl
  | u :: us, k, pre, rest, hp, hr, hu => by
    have hun := hu u (by simp)
    have hrl : n ≤ rest.length := by rw [hr, List.length_cons, Nat.add_mul]; omega
    rw [numbered, Instr.fill]
    simp only
    have hc : (Value.agg u.toArray).cells = u.toArray := rfl
    rw [hc, if_neg (by simp [hun]; omega)]
    have e : Array.foldl (fun (cs : Array Value) (x : Value × Nat) => match x with | (c, j) => cs.setIfInBounds (k * n + j) c) (pre ++ rest).toArray u.toArray.zipIdx = ((pre ++ u) ++ rest.drop n).toArray := by
      have h := fold_set (k * n) u 0 pre (rest.take n) (rest.drop n) (by rw [List.length_take]; omega) (by omega)
      rw [List.append_assoc, List.take_append_drop] at h
      rw [← Array.foldl_toList, Array.toList_zipIdx]
      exact h
    rw [e, fill_many n us (k + 1) (pre ++ u) (rest.drop n) (by rw [List.length_append, hp, hun, Nat.add_mul]; omega) (by rw [List.length_drop, hr, List.length_cons, Nat.add_mul]; omega) (fun v hv => hu v (by simp [hv]))]
    simp
/-- a part laid where it belongs -/
theorem fill_part (place : Nat → Option (Nat × Nat)) (i : Nat) (v : Value) (us pre old rest : List Value) (parts : List (Nat × Value)) (hp : place i = some (pre.length, us.length)) (hv : v.cells = us.toArray) (ho : old.length = us.length) :
    Instr.fill place (pre ++ old ++ rest).toArray ((i, v) :: parts) = Instr.fill place (pre ++ us ++ rest).toArray parts := by
  rw [Instr.fill, hp]
  simp only
  rw [hv, if_neg (by simp; omega)]
  congr 1
  have h := fold_set pre.length us 0 pre old rest ho rfl
  rw [← Array.foldl_toList, Array.toList_zipIdx]
  exact h
section
variable {P : Program} {t e : TypeId} {α : Type}
theorem ET.run_bs1 (E : ET P t e α) (w : World) (x : α) {v : Value} (hv : v.cells = (E.cells x).toArray) :
    (Instr.buildSlice t 1 #[(0, v)]).run P w = .ok (.slice (some ⟨w.heap.size, 0, none⟩) 1 1) (w.alloc (.cells (E.cells x).toArray e)) := by
  obtain ⟨i, hi, hz, hz1, hz2⟩ := info_parts E.info
  have hp := E.pos
  have hs := E.small
  by_cases hbig : 1 * i.size > 2 ^ 24
  · exact absurd hbig (by rw [hz1]; have := E.ncap; omega)
  refine run_buildSlice w t e 1 _ _ i E.z E.ty hi hz hbig (by rw [hz1]; omega) ?_
  obtain ⟨Z, hZ⟩ : ∃ Z : List Value, Z.toArray = Array.map (fun (k : Nat) => E.z.cells[k % E.z.cells.size]!) (Array.range (1 * i.size)) := ⟨(Array.map (fun (k : Nat) => E.z.cells[k % E.z.cells.size]!) (Array.range (1 * i.size))).toList, Array.toArray_toList⟩
  have hZl : Z.length = i.size := by
    have := congrArg Array.size hZ
    simpa using this
  rw [← hZ]
  have h := fill_part (fun k => some (k * i.size, i.size)) 0 v (E.cells x) [] Z [] [] (by simp [hz1, E.len]) hv (by rw [hZl, hz1, E.len])
  simp only [List.nil_append, List.append_nil] at h
  rw [h]
  rfl
variable {o : Oper} {a : Act} {w : World} {x : Operand}
theorem ET.ex_bs1 (E : ET P t e α) (ho : o.op = .buildSlice t 1 #[(0, x)]) (c : α) (hx : (a.eval x).cells = (E.cells c).toArray) :
    (execOp a.eval o).run P w = .ok (.value (.slice (some ⟨w.heap.size, 0, none⟩) 1 1)) (w.alloc (.cells (E.cells c).toArray e)) := by
  have := E.run_bs1 w c hx
  simp [execOp, ho, this]
theorem ET.own1 (E : ET P t e α) (w : World) (c : α) : E.Own (w.alloc (.cells (E.cells c).toArray e)) w.heap.size (.slice (some ⟨w.heap.size, 0, none⟩) 1 1) [c] :=
  ET.Own.lit w [c] (by simp [maxLen]) (by simp [ET.dv])
theorem ex_bldT {parts : Array (Nat × Operand)} {cs : List Value} (ho : o.op = .build t parts) {ps : List (Nat × Value)} (hps : (parts.map fun (i, x) => (i, a.eval x)).toList = ps) (hb : P.built t ps = some cs.toArray) : (execOp a.eval o).run P w = .ok (.value (.agg cs.toArray)) w := by
  subst hps
  have := run_build w t _ _ hb
  simp [execOp, ho, this]
end
end Go.Proofs.Ytaflikgdlkaefaa
/- Rows of elements: slices of slices (s[:j:j], s[j:]), stores of an element. -/
namespace Go.Proofs.Ytaflikgdlkaefaa
open Go.RowKit

theorem addr_zero (a : Addr) : a.add 0 = a := by
  unfold Addr.add
  split
  · rfl
  · rename_i h; exact absurd rfl h
section
variable {P : Program} {t e : TypeId} {α : Type}
theorem ET.size (E : ET P t e α) : ∃ i, P.info? e = some i ∧ i.size = E.n := by
  obtain ⟨i, hi, hz, hz1, hz2⟩ := info_parts E.info
  exact ⟨i, hi, hz1⟩
theorem ET.sizeOf (E : ET P t e α) (w : World) : (sizeOf e).run P w = .ok E.n w := by
  obtain ⟨i, hi, hs⟩ := E.size
  simp [Go.sizeOf, typeInfo, hi, hs]
/-- s[:j:j] -/
theorem ET.sl_pre (E : ET P t e α) (A : Option Addr) (m c j : Nat) (hj : j ≤ c) (w : World) :
    (Instr.sliceAt t (.slice A m c) none (some (.int .i64 (j : Int))) (some (.int .i64 (j : Int)))).run P w = .ok (.slice A j j) w := by
  obtain ⟨i, hi, hs⟩ := E.size
  have e : A.map (fun x => x.add 0) = A := by cases A <;> simp [addr_zero]
  simp [Instr.sliceAt, Instr.slice, run_underlying E.ty, Instr.sliceBounds, Instr.sliceBound, asIntOf, Go.sizeOf, typeInfo, hi]
  rw [if_pos hj, e]
  simp
/-- s[:j] -/
theorem ET.sl_pre1 (E : ET P t e α) (A : Option Addr) (m c j : Nat) (hj : j ≤ c) (w : World) :
    (Instr.sliceAt t (.slice A m c) none (some (.int .i64 (j : Int))) none).run P w = .ok (.slice A j c) w := by
  obtain ⟨i, hi, hs⟩ := E.size
  have e : A.map (fun x => x.add 0) = A := by cases A <;> simp [addr_zero]
  simp [Instr.sliceAt, Instr.slice, run_underlying E.ty, Instr.sliceBounds, Instr.sliceBound, asIntOf, Go.sizeOf, typeInfo, hi]
  rw [if_pos hj, e]
  simp
/-- s[j:] -/
theorem ET.sl_post (E : ET P t e α) (A : Option Addr) (m c j : Nat) (hj : j ≤ m) (hc : m ≤ c) :
    ∃ A2, (∀ w, (Instr.sliceAt t (.slice A m c) (some (.int .i64 (j : Int))) none none).run P w = .ok (.slice A2 (m - j) (c - j)) w) ∧ ∀ (w : World) (B : Nat) (o : List α), o.length = m → Sl w B A (E.dv o) → Sl w B A2 (E.dv (o.drop j)) := by
  obtain ⟨i, hi, hs⟩ := E.size
  refine ⟨if c = j then A else A.map (fun x => x.add (j * i.size)), fun w => ?_, fun w B o ho hS => ?_⟩
  · simp [Instr.sliceAt, Instr.slice, run_underlying E.ty, Instr.sliceBounds, Instr.sliceBound, asIntOf, Go.sizeOf, typeInfo, hi]
    intro h; omega
  · have hmul : j * E.n ≤ o.length * E.n := Nat.mul_le_mul_right _ (by omega)
    have hmul2 : o.length * E.n ≤ c * E.n := Nat.mul_le_mul_right _ (by omega)
    have h := hS.cut (j * E.n) (c * E.n) (by rw [E.dv_len]; omega)
    rw [E.dv_drop] at h
    rw [hs]
    by_cases e : c = j
    · rw [if_pos e]; rw [if_pos (by rw [e])] at h; exact h
    · have hne : ¬ c * E.n = j * E.n := fun h' => e (Nat.eq_of_mul_eq_mul_right E.pos h')
      rw [if_neg e]; rw [if_neg hne] at h; exact h
variable {a : Act} {o : Oper} {x y z : Operand}
theorem ET.exec_pre (E : ET P t e α) (ho : o.op = .slice t x none (some y) (some z)) {A : Option Addr} {m c j : Nat} (hx : a.eval x = .slice A m c) (hy : a.eval y = .int .i64 (j : Int)) (hz : a.eval z = .int .i64 (j : Int)) (hj : j ≤ c) (w : World) :
    (execOp a.eval o).run P w = .ok (.value (.slice A j j)) w := by
  have h := E.sl_pre A m c j hj w
  simp [execOp, ho, hx, hy, hz, h]
theorem ET.exec_post (_E : ET P t e α) (ho : o.op = .slice t x (some y) none none) {A A2 : Option Addr} {m c j : Nat} (hx : a.eval x = .slice A m c) (hy : a.eval y = .int .i64 (j : Int))
    (h : ∀ w, (Instr.sliceAt t (.slice A m c) (some (.int .i64 (j : Int))) none none).run P w = .ok (.slice A2 (m - j) (c - j)) w) (w : World) :
    (execOp a.eval o).run P w = .ok (.value (.slice A2 (m - j) (c - j))) w := by
  simp [execOp, ho, hx, hy, h]
theorem run_storeO (w : World) (t : TypeId) {n g o : Nat} {us : List Value} (hsz : ∀ w, (sizeOf t).run P w = .ok n w) (hc : ∀ j, j < us.length → (w.cell? ⟨g, o + j, none⟩).isSome = true) (hf : ∀ j, j < us.length → w.frozen? ⟨g, o + j, none⟩ = false) (hn : us.length = n) (h1 : ∀ u ∈ us, u.oneCell' = true) :
    (Instr.storeAt t (.pointer (some ⟨g, o, none⟩)) (.agg us.toArray)).run P w = .ok () (w.setCells g o us) := by
  have hst := run_storeCells_cells (P := P) g o us 0 w (fun j hj => by rw [Nat.add_zero]; exact hc j hj) (fun j hj => by rw [Nat.add_zero]; exact hf j hj) h1
  simp only [Nat.add_zero] at hst
  subst hn
  simp [Instr.storeAt, Instr.sureAddr, storeVar, hsz, Value.cells, hst]
/-- an element is laid into a row -/
theorem ET.ex_set (E : ET P t e α) {w : World} {g k : Nat} {l : List α} (ho : o.op = .store e x y) (h : E.Row w g l) (hk : k < l.length) (s : α) (hx : a.eval x = .pointer (some ⟨g, k * E.n, none⟩)) (hy : a.eval y = .agg (E.cells s).toArray) :
    (execOp a.eval o).run P w = .ok .skip (w.setCells g (k * E.n) (E.cells s)) := by
  have hk1 : (k + 1) * E.n ≤ l.length * E.n := Nat.mul_le_mul_right _ (by omega)
  rw [Nat.add_mul] at hk1
  have hcell : ∀ j, j < (E.cells s).length → ∃ u, w.cell? ⟨g, k * E.n + j, none⟩ = some u ∧ w.frozen? ⟨g, k * E.n + j, none⟩ = false := fun j hj => by
    rw [E.len] at hj
    have hj' : k * E.n + j < (E.dv l).length := by rw [E.dv_len]; omega
    exact ⟨_, h.2 _ _ (List.getElem?_eq_getElem hj')⟩
  have hst := run_storeO (P := P) w e (n := E.n) (g := g) (o := k * E.n) (us := E.cells s) E.sizeOf (fun j hj => by obtain ⟨u, hu, _⟩ := hcell j hj; rw [hu]; rfl) (fun j hj => by obtain ⟨u, _, hu⟩ := hcell j hj; exact hu) (E.len s) (E.one s)
  simp [execOp, ho, hx, hy, hst]
end
theorem setCells_size : ∀ (us : List Value) (o : Nat) (w : World) (g : Nat), (w.setCells g o us).heap.size = w.heap.size
  | [], _, _, _ => rfl
  | u :: us, o, w, g => by simp [World.setCells, setCells_size us]
theorem At.setCells_other : ∀ (us : List Value) (o : Nat) {w : World} {g g' : Nat} {vs : List Value}, At w g vs → g' ≠ g → At (w.setCells g' o us) g vs
  | [], _, _, _, _, _, h, _ => h
  | u :: us, o, _, _, _, _, h, hne => At.setCells_other us (o + 1) (h.set_other o u hne) hne
end Go.Proofs.Ytaflikgdlkaefaa
/- Vectors in memory. -/
namespace Go.Proofs.Ytaflikgdlkaefaa
open Go.RowKit Go.Proofs.Ytaflikgdlkaefaa.Sp Go.Proofs.Ytaflikgdlkaefaa.Ve
set_option maxRecDepth 20000

/-- a row as it lies -/
structure RA where
  r : Int
  A : Option Addr
  c : Nat
  l : List Rg
def RA.cells (q : RA) : List Value := [.int .i64 q.r, .slice q.A q.l.length q.c]
def RA.p (q : RA) : Int × List Rg := (q.r, q.l)
theorem rowinfo : (Try.prog.info? 61).map (fun i => (i.zero, i.size, i.bytes)) = some (some (.agg #[.int .i64 0, .slice none 0 0]), 2, 32) := by kernel_rfl
def z0RA : RA := ⟨0, none, 0, []⟩
def EV : ET Try.prog 25 61 RA := {
  n := 2
  bytes := 32
  cells := RA.cells
  zero := z0RA
  z := .agg #[.int .i64 0, .slice none 0 0]
  ty := Try.underlying25
  info := rowinfo
  zc := rfl
  pos := by omega
  len := fun _ => rfl
  one := fun x u hu => by
    simp only [RA.cells, List.mem_cons, List.not_mem_nil, or_false] at hu
    rcases hu with rfl | rfl <;> rfl
  small := by omega }
/-- a row's ranges stand -/
def RSt (w : World) (q : RA) : Prop := Sl w w.heap.size q.A (rv q.l) ∧ q.l.length ≤ q.c ∧ q.c ≤ maxLen
/-- a vector stands -/
structure VS (w : World) (A : Option Addr) (n c : Nat) (R : List RA) (V : VL) : Prop where
  hn : n = R.length
  nc : n ≤ c
  cm : c ≤ maxLen
  sl : Sl w w.heap.size A (EV.dv R)
  rs : ∀ q ∈ R, RSt w q
  v : R.map RA.p = V
/-- a vector is answered -/
def VAns (w : World) (V : VL) (e : Ending) (w' : World) : Prop := ∃ A n c R, e = .returned (.agg #[.slice A n c]) ∧ VS w' A n c R V ∧ Below w.heap.size w w'
/-- each row has at most m ranges -/
def Lim (m : Nat) (V : VL) : Prop := ∀ p ∈ V, p.2.length ≤ m
theorem Lim.mono {m m' : Nat} {V : VL} (h : Lim m V) (hm : m ≤ m') : Lim m' V := fun p hp => Nat.le_trans (h p hp) hm
theorem Lim.part {m : Nat} {V : VL} (h : Lim m V) (r : Int) : (partV V r).length ≤ m := by
  unfold partV look
  cases hf : V.find? fun p => decide (p.1 = r) with
  | none => simp
  | some p => simpa using h p (List.mem_of_find?_eq_some hf)
theorem rowsF_lim {f : Int → List Rg} {m : Nat} (h : ∀ i, (f i).length ≤ m) (lo : Int) (n : Nat) : Lim m (rowsF f lo n) := fun p hp => by rw [(rowsF_mem hp).2.2.1]; exact h _
theorem rowsF_length (f : Int → List Rg) : ∀ (n : Nat) (lo : Int), (rowsF f lo n).length ≤ n
  | 0, lo => by simp [rowsF]
  | n + 1, lo => by
    have := rowsF_length f n (lo + 1)
    unfold rowsF
    split
    · omega
    · simp only [List.length_cons]; omega
theorem joinV_lim {m m' : Nat} {a b : VL} (ha : Lim m a) (hb : Lim m' b) : Lim (m + m') (joinV a b) := by
  unfold joinV
  split
  · exact rowsF_lim (fun i => Nat.le_trans (joinS_len _ _) (Nat.add_le_add (ha.part i) (hb.part i))) 0 64
  · intro p hp; simp at hp
theorem minusV_lim {m m' : Nat} {a b : VL} (ha : Lim m a) (hb : Lim m' b) : Lim (m + m') (minusV a b) := by
  unfold minusV
  split
  · exact rowsF_lim (fun i => Nat.le_trans (minusS_len _ _) (Nat.add_le_add (ha.part i) (hb.part i))) 0 64
  · intro p hp; simp at hp
theorem ofV_lim {l : List Dt.D2} : Lim l.length (ofV l) := rowsF_lim (fun i => Nat.le_trans (ofS_len _) (by unfold seqsOf; rw [List.length_map]; exact List.length_filter_le _ _)) 0 64
theorem joinV_length (a b : VL) : (joinV a b).length ≤ 64 := by
  unfold joinV
  split
  · exact rowsF_length _ _ _
  · simp
theorem minusV_length (a b : VL) : (minusV a b).length ≤ 64 := by
  unfold minusV
  split
  · exact rowsF_length _ _ _
  · simp
theorem ofV_length (l : List Dt.D2) : (ofV l).length ≤ 64 := rowsF_length _ _ _
/-- a right vector has at most 64 rows -/
theorem okV_length : ∀ {V : VL} {last : Int}, okV last V = true → last < 64 → (V.length : Int) ≤ 63 - last
  | [], last, _, hl => by simp only [List.length_nil]; omega
  | q :: t, last, h, hl => by
    obtain ⟨h1, h2, h3, h4, h5⟩ := okV_cons.1 h
    have := okV_length h5 h2
    simp only [List.length_cons]
    omega
theorem right_length {V : VL} (h : rightV V = true) : V.length ≤ 64 := by
  have := okV_length h (by omega)
  omega
theorem okV_drop {V : VL} {k : Nat} (hk : k < V.length) (lo : Int) : okV lo (V.drop k) = (decide (lo < (V[k]?.getD (0, [])).1) && decide ((V[k]?.getD (0, [])).1 < 64) && !(V[k]?.getD (0, [])).2.isEmpty && right (V[k]?.getD (0, [])).2 && okV (V[k]?.getD (0, [])).1 (V.drop (k + 1))) := by
  rw [List.drop_eq_getElem_cons hk, List.getElem?_eq_getElem hk, Option.getD_some, okV]
section
variable {w w' : World} {A : Option Addr} {n c : Nat} {R : List RA} {V : VL}
theorem RSt.below {q : RA} (h : RSt w q) (hb : Below w.heap.size w w') : RSt w' q := ⟨(h.1.below hb).more hb.size, h.2⟩
theorem VS.below (h : VS w A n c R V) (hb : Below w.heap.size w w') : VS w' A n c R V :=
  ⟨h.hn, h.nc, h.cm, (h.sl.below hb).more hb.size, fun q hq => (h.rs q hq).below hb, h.v⟩
theorem VS.drew (h : VS w A n c R V) : VS w.drew A n c R V := ⟨h.hn, h.nc, h.cm, h.sl, h.rs, h.v⟩
theorem VS.len (h : VS w A n c R V) : V.length = n := by rw [h.hn, ← h.v, List.length_map]
theorem VS.at_ (h : VS w A n c R V) {k : Nat} (hk : k < n) : ∃ (q : RA) (b o : Nat), R[k]? = some q ∧ V[k]? = some (q.r, q.l) ∧ RSt w q ∧ A = some ⟨b, o, none⟩ ∧ b < w.heap.size ∧
    w.cell? ⟨b, o + k * 2, none⟩ = some (.int .i64 q.r) ∧ w.cell? ⟨b, o + k * 2 + 1, none⟩ = some (.slice q.A q.l.length q.c) := by
  have hk' : k < R.length := by rw [← h.hn]; exact hk
  obtain ⟨q, hq⟩ : ∃ q, R[k]? = some q := ⟨_, List.getElem?_eq_getElem hk'⟩
  obtain ⟨g, o, h1, h2, _, h4⟩ := EV.cell_at h.sl hq
  have h5 : ∀ (j : Nat) (u : Value), (RA.cells q)[j]? = some u → w.cell? ⟨g, o + k * 2 + j, none⟩ = some u := fun j u hu => by
    have := h4 j u hu
    rw [← Nat.add_assoc] at this
    exact this
  refine ⟨q, g, o, hq, ?_, h.rs q (List.mem_of_getElem? hq), h1, h2, h5 0 _ rfl, h5 1 _ rfl⟩
  rw [← h.v, List.getElem?_map, hq]
  rfl
theorem VAns.nil (hb : Below w.heap.size w w') : VAns w [] (.returned (.agg #[.slice none 0 0])) w' :=
  ⟨none, 0, 0, [], rfl, ⟨rfl, Nat.le_refl _, by simp [maxLen], .inl rfl, by simp, rfl⟩, hb⟩
theorem VAns.mono {w0 : World} {V : VL} {e : Ending} (h : VAns w V e w') (hb : Below w0.heap.size w0 w) : VAns w0 V e w' := by
  obtain ⟨A, n, c, R, e, h1, h2⟩ := h
  exact ⟨A, n, c, R, e, h1, hb.trans (h2.mono hb.size)⟩
end
end Go.Proofs.Ytaflikgdlkaefaa
/- Vectors: maps from replicas to ranges. -/
namespace Go.Proofs.Ytaflikgdlkaefaa
open Go.RowKit Go.Maps Go.Proofs.Ytaflikgdlkaefaa.Sp Go.Proofs.Ytaflikgdlkaefaa.Ve
set_option maxRecDepth 20000

/-- a slice as a map's element -/
structure RSl where
  A : Option Addr
  n : Nat
  c : Nat
def RSl.v (r : RSl) : Value := .slice r.A r.n r.c
def encN (n : Nat) : DataW Unit := .lit (.int .i64 (n : Int))
def encA : Option Addr → List (DataW Unit)
  | none => []
  | some ⟨b, o, none⟩ => [encN b, encN o]
  | some ⟨b, o, some s⟩ => [encN b, encN o, encN s]
def RSl.enc (r : RSl) : DataW Unit := .agg (encN r.n :: encN r.c :: encA r.A)
theorem encN_inj {a b : Nat} (h : encN a = encN b) : a = b := by
  simp only [encN, DataW.lit.injEq, Lit.int.injEq, true_and] at h
  exact Int.ofNat.inj h
theorem encA_inj : ∀ {a b : Option Addr}, encA a = encA b → a = b
  | none, none, _ => rfl
  | none, some ⟨_, _, none⟩, h => by simp [encA] at h
  | none, some ⟨_, _, some _⟩, h => by simp [encA] at h
  | some ⟨_, _, none⟩, none, h => by simp [encA] at h
  | some ⟨_, _, some _⟩, none, h => by simp [encA] at h
  | some ⟨b, o, none⟩, some ⟨b', o', none⟩, h => by
    simp only [encA, List.cons.injEq, and_true] at h
    rw [encN_inj h.1, encN_inj h.2]
  | some ⟨_, _, none⟩, some ⟨_, _, some _⟩, h => by simp [encA] at h
  | some ⟨_, _, some _⟩, some ⟨_, _, none⟩, h => by simp [encA] at h
  | some ⟨b, o, some s⟩, some ⟨b', o', some s'⟩, h => by
    simp only [encA, List.cons.injEq, and_true] at h
    rw [encN_inj h.1, encN_inj h.2.1, encN_inj h.2.2]
theorem RSl.v_inj (a b : RSl) (h : a.v = b.v) : a = b := by
  obtain ⟨A, n, c⟩ := a
  obtain ⟨A', n', c'⟩ := b
  simp only [RSl.v, Value.slice.injEq] at h
  obtain ⟨rfl, rfl, rfl⟩ := h
  rfl
theorem RSl.enc_inj (a b : RSl) (h : a.enc = b.enc) : a = b := by
  obtain ⟨A, n, c⟩ := a
  obtain ⟨A', n', c'⟩ := b
  simp only [RSl.enc, DataW.agg.injEq, List.cons.injEq] at h
  obtain ⟨h1, h2, h3⟩ := h
  have h1 := encN_inj h1
  have h2 := encN_inj h2
  have h3 := encA_inj h3
  subst h1; subst h2; subst h3
  rfl
def zeroS : RSl := ⟨none, 0, 0⟩
theorem wf_int {x : Int} : (Lit.int .i64 x).wf = true ↔ i64in x := by
  have e1 : IntKind.i64.min = -9223372036854775808 := by rfl
  have e2 : IntKind.i64.max = 9223372036854775807 := by rfl
  simp only [Lit.wf, Bool.and_eq_true, decide_eq_true_eq, e1, e2, i64in]
theorem key_intV (x : Int) (hx : i64in x) : keyOf Try.prog 3 (.int .i64 x) = some (.int .i64 x) := by
  simp [keyOf, mapKey, Try.underlying3, wf_int.2 hx]
theorem int_invV (v : Value) (l : Lit) (h : keyOf Try.prog 3 v = some l) : ∃ x : Int, i64in x ∧ v = .int .i64 x := by
  simp only [keyOf, mapKey, Try.underlying3] at h
  cases v with
  | int k x =>
    simp only at h
    split at h
    · rename_i hs
      obtain ⟨rfl, h2⟩ := hs
      exact ⟨x, wf_int.1 h2, rfl⟩
    · cases h
  | _ => cases h
theorem rgsInfo : (Try.prog.info? 40).bind (·.zero) = some (.slice none 0 0) := by kernel_rfl
theorem rgsZero (w : World) : (zeroValue 40).run Try.prog w = .ok zeroS.v w := by
  have h := rgsInfo
  cases hi : Try.prog.info? 40 with
  | none => rw [hi] at h; cases h
  | some i => rw [hi] at h; simp only [Option.bind_some] at h; simp [zeroValue, typeInfo, hi, h, RSl.v, zeroS]
noncomputable def MV : MT Try.prog 58 3 40 Int RSl := {
  mkK := fun x => .int .i64 x
  okK := i64in
  litK := fun x => .int .i64 x
  mkV := RSl.v
  enc := RSl.enc
  dec := decOf RSl.v
  zero := zeroS
  ty := Try.underlying58
  keyed := int_keyed Try.underlying3
  key := key_intV
  keyInv := int_invV
  litInj := fun x y _ _ h => by injection h
  decMk := decOf_mk RSl.v_inj
  mkDec := fun _ _ h => mk_decOf h
  encInj := RSl.enc_inj
  zeroV := rgsZero }
def RA.raw (q : RA) : Int × RSl := (q.r, ⟨q.A, q.l.length, q.c⟩)
def findR (R : List RA) (r : Int) : Option RA := R.find? fun q => decide (q.r = r)
def putR (R : List RA) (q : RA) : List RA := q :: R.filter fun p => p.r ≠ q.r
theorem look_raw (R : List RA) (r : Int) : look (R.map RA.raw) r = (findR R r).map fun q => ⟨q.A, q.l.length, q.c⟩ := by
  unfold look findR
  rw [List.find?_map, Option.map_map]
  rfl
theorem part_map (R : List RA) (r : Int) : partV (R.map RA.p) r = ((findR R r).map (·.l)).getD [] := by
  unfold partV look findR
  rw [List.find?_map, Option.map_map]
  rfl
theorem putA_raw (R : List RA) (q : RA) : putA (R.map RA.raw) q.r ⟨q.A, q.l.length, q.c⟩ = (putR R q).map RA.raw := by
  unfold putA putR
  rw [List.map_cons, List.filter_map]
  rfl
theorem find_put (R : List RA) (q : RA) (r : Int) : findR (putR R q) r = if r = q.r then some q else findR R r := by
  unfold findR putR
  rw [List.find?_cons]
  by_cases h : r = q.r
  · subst h; simp
  · rw [if_neg h]
    have h' : decide (q.r = r) = false := by rw [decide_eq_false_iff_not]; exact fun e => h e.symm
    rw [h', List.find?_filter]
    dsimp only
    congr 1
    funext p
    by_cases e : p.r = r
    · subst e; simp [h]
    · simp [e]
theorem part_put (R : List RA) (q : RA) (r : Int) : partV ((putR R q).map RA.p) r = if r = q.r then q.l else partV (R.map RA.p) r := by
  rw [part_map, part_map, find_put]
  by_cases h : r = q.r
  · rw [if_pos h, if_pos h]; rfl
  · rw [if_neg h, if_neg h]
theorem find_mem_R {R : List RA} {r : Int} {q : RA} (h : findR R r = some q) : q ∈ R ∧ q.r = r := by
  unfold findR at h
  exact ⟨List.mem_of_find?_eq_some h, by simpa using List.find?_some h⟩
theorem put_mem {R : List RA} {q p : RA} (h : p ∈ putR R q) : p = q ∨ p ∈ R := by
  unfold putR at h
  rcases List.mem_cons.1 h with h | h
  · exact .inl h
  · exact .inr (List.mem_filter.1 h).1
theorem RSt.nil (w : World) (r : Int) : RSt w ⟨r, none, 0, []⟩ := ⟨.inl rfl, Nat.le_refl _, by simp [maxLen]⟩
/-- a map from replicas to ranges, in whatever order; its keys are replicas -/
structure MS (w : World) (b : Nat) (R : List RA) : Prop where
  m : MapIs MV w b (R.map RA.raw)
  rs : ∀ q ∈ R, RSt w q
  ks : ∀ q ∈ R, 0 ≤ q.r ∧ q.r < 64
section
variable {w w' : World} {b : Nat} {R : List RA}
theorem MS.below (h : MS w b R) (hb : Below w.heap.size w w') : MS w' b R := ⟨h.m.below hb, fun q hq => (h.rs q hq).below hb, h.ks⟩
theorem MS.drew (h : MS w b R) : MS w.drew b R := ⟨h.m, h.rs, h.ks⟩
theorem MS.made (w : World) : MS (w.alloc (.map #[] 0)) w.heap.size [] := ⟨MapIs.made MV w, by simp, by simp⟩
/-- what a lookup finds -/
theorem MS.look (h : MS w b R) (r : Int) : ∃ A c, ((look (R.map RA.raw) r).getD zeroS).v = .slice A (partV (R.map RA.p) r).length c ∧ RSt w ⟨r, A, c, partV (R.map RA.p) r⟩ := by
  rw [look_raw, part_map]
  cases hf : findR R r with
  | none => exact ⟨none, 0, rfl, RSt.nil w r⟩
  | some q => exact ⟨q.A, q.c, rfl, h.rs q (find_mem_R hf).1⟩
theorem Sl.turned {B : Nat} {A : Option Addr} {xs : List Value} (h : Sl w B A xs) {L : List (Int × RSl)} (hm : MapIs MV w b L) (ht : w.mapTurned w' b) : Sl w' B A xs := by
  rcases h with h | ⟨g, o, e, h1, h2, h3⟩
  · exact .inl h
  · by_cases hx : xs = []
    · exact .inl hx
    · have hne : g ≠ b := fun e' => by
        subst e'
        obtain ⟨x, t, rfl⟩ := List.exists_cons_of_ne_nil hx
        have := h3 0 x rfl
        unfold World.cell? at this
        cases hb : w.heap[g]? with
        | none => simp [hb] at this
        | some ob =>
          cases ob with
          | cells cs ty fr => exact hm.notCells hb
          | _ => simp [hb] at this
      exact .inr ⟨g, o, e, h1, Nat.lt_of_lt_of_le h2 ht.grown.size, fun j u hu => (World.cell?_of_block (w := w) (ht.grown.block g h2 (fun e' => hne (Option.some.inj e')))).trans (h3 j u hu)⟩
theorem RSt.turned {q : RA} (h : RSt w q) {L : List (Int × RSl)} (hm : MapIs MV w b L) (ht : w.mapTurned w' b) : RSt w' q := ⟨(h.1.turned hm ht).more ht.grown.size, h.2⟩
/-- m[r] = l -/
theorem MS.put (h : MS w b R) (q : RA) (hq : RSt w q) (hk : 0 ≤ q.r ∧ q.r < 64) (h1 : MapIs MV w' b (putA (R.map RA.raw) q.r ⟨q.A, q.l.length, q.c⟩)) (h2 : w.mapTurned w' b) : MS w' b (putR R q) := by
  rw [putA_raw] at h1
  refine ⟨h1, fun p hp => ?_, fun p hp => ?_⟩
  · rcases put_mem hp with rfl | hp
    · exact hq.turned h.m h2
    · exact (h.rs p hp).turned h.m h2
  · rcases put_mem hp with rfl | hp
    · exact hk
    · exact h.ks p hp
theorem apart_len : ∀ (n : Nat) (L : List (Int × RSl)) (lo : Int), (L.Pairwise fun p q => p.1 ≠ q.1) → (∀ p ∈ L, lo ≤ p.1 ∧ p.1 < lo + n) → L.length ≤ n
  | 0, L, lo, _, h => by
    cases L with
    | nil => simp
    | cons p L => have := h p (by simp); omega
  | n + 1, L, lo, hap, h => by
    have h1 := apart_len n (L.filter fun p => p.1 ≠ lo) (lo + 1) (hap.filter _) fun p hp => by
      obtain ⟨h2, h3⟩ := List.mem_filter.1 hp
      have := h p h2
      have h4 : p.1 ≠ lo := by simpa using h3
      omega
    have h2 : L.length ≤ (L.filter fun p => p.1 ≠ lo).length + 1 := by
      clear h1 h
      induction L with
      | nil => simp
      | cons p L ih =>
        obtain ⟨a1, a2⟩ := List.pairwise_cons.1 hap
        by_cases e : p.1 = lo
        · have : L.filter (fun p => p.1 ≠ lo) = L := List.filter_eq_self.2 fun x hx => by
            have := a1 x hx
            rw [e] at this
            simpa using fun e' => this e'.symm
          rw [List.filter_cons_of_neg (by simp [e]), this]
          simp
        · rw [List.filter_cons_of_pos (by simpa using e)]
          have := ih a2
          simp only [List.length_cons]
          omega
    omega
theorem MS.len (h : MS w b R) : R.length ≤ 64 := by
  have := apart_len 64 (R.map RA.raw) 0 h.m.apart fun p hp => by
    obtain ⟨q, hq, rfl⟩ := List.mem_map.1 hp
    have := h.ks q hq
    exact ⟨this.1, by change q.r < 0 + ((64 : Nat) : Int); omega⟩
  simpa using this
end
end Go.Proofs.Ytaflikgdlkaefaa
/- Vectors: a map from replicas to rows of numbers, each in a block of its own. -/
namespace Go.Proofs.Ytaflikgdlkaefaa
open Go.RowKit Go.Maps Go.Proofs.Ytaflikgdlkaefaa.Sp Go.Proofs.Ytaflikgdlkaefaa.Ve
set_option maxRecDepth 20000

theorem zsInfo : (Try.prog.info? 81).bind (·.zero) = some (.slice none 0 0) := by kernel_rfl
theorem zsZero (w : World) : (zeroValue 81).run Try.prog w = .ok zeroS.v w := by
  have h := zsInfo
  cases hi : Try.prog.info? 81 with
  | none => rw [hi] at h; cases h
  | some i => rw [hi] at h; simp only [Option.bind_some] at h; simp [zeroValue, typeInfo, hi, h, RSl.v, zeroS]
noncomputable def MZ : MT Try.prog 80 3 81 Int RSl := {
  mkK := fun x => .int .i64 x
  okK := i64in
  litK := fun x => .int .i64 x
  mkV := RSl.v
  enc := RSl.enc
  dec := decOf RSl.v
  zero := zeroS
  ty := Try.underlying80
  keyed := int_keyed Try.underlying3
  key := key_intV
  keyInv := int_invV
  litInj := fun x y _ _ h => by injection h
  decMk := decOf_mk RSl.v_inj
  mkDec := fun _ _ h => mk_decOf h
  encInj := RSl.enc_inj
  zeroV := zsZero }
structure RZ where
  r : Int
  A : Option Addr
  c : Nat
  l : List Int
def RZ.v (q : RZ) : Value := .slice q.A q.l.length q.c
def RZ.raw (q : RZ) : Int × RSl := (q.r, ⟨q.A, q.l.length, q.c⟩)
def findZ (Z : List RZ) (r : Int) : Option RZ := Z.find? fun q => decide (q.r = r)
def putZ (Z : List RZ) (q : RZ) : List RZ := q :: Z.filter fun p => p.r ≠ q.r
def seqZ (Z : List RZ) (r : Int) : List Int := ((findZ Z r).map (·.l)).getD []
theorem look_rawZ (Z : List RZ) (r : Int) : look (Z.map RZ.raw) r = (findZ Z r).map fun q => ⟨q.A, q.l.length, q.c⟩ := by
  unfold look findZ
  rw [List.find?_map, Option.map_map]
  rfl
theorem putA_rawZ (Z : List RZ) (q : RZ) : putA (Z.map RZ.raw) q.r ⟨q.A, q.l.length, q.c⟩ = (putZ Z q).map RZ.raw := by
  unfold putA putZ
  rw [List.map_cons, List.filter_map]
  rfl
theorem find_putZ (Z : List RZ) (q : RZ) (r : Int) : findZ (putZ Z q) r = if r = q.r then some q else findZ Z r := by
  unfold findZ putZ
  rw [List.find?_cons]
  by_cases h : r = q.r
  · subst h; simp
  · rw [if_neg h]
    have h' : decide (q.r = r) = false := by rw [decide_eq_false_iff_not]; exact fun e => h e.symm
    rw [h', List.find?_filter]
    dsimp only
    congr 1
    funext p
    by_cases e : p.r = r
    · subst e; simp [h]
    · simp [e]
theorem seq_putZ (Z : List RZ) (q : RZ) (r : Int) : seqZ (putZ Z q) r = if r = q.r then q.l else seqZ Z r := by
  unfold seqZ
  rw [find_putZ]
  by_cases h : r = q.r
  · rw [if_pos h, if_pos h]; rfl
  · rw [if_neg h, if_neg h]
theorem find_memZ {Z : List RZ} {r : Int} {q : RZ} (h : findZ Z r = some q) : q ∈ Z ∧ q.r = r := by
  unfold findZ at h
  exact ⟨List.mem_of_find?_eq_some h, by simpa using List.find?_some h⟩
theorem put_memZ {Z : List RZ} {q p : RZ} (h : p ∈ putZ Z q) : p = q ∨ p ∈ Z ∧ p.r ≠ q.r := by
  unfold putZ at h
  rcases List.mem_cons.1 h with h | h
  · exact .inl h
  · obtain ⟨h1, h2⟩ := List.mem_filter.1 h
    exact .inr ⟨h1, by simpa using h2⟩
structure OZ (w : World) (base b : Nat) (Z : List RZ) : Prop where
  m : MapIs MZ w b (Z.map RZ.raw)
  own : ∀ q ∈ Z, OwnZ w base q.v q.l
  ap : ∀ p ∈ Z, ∀ q ∈ Z, p.r ≠ q.r → p.v.ownBlock = none ∨ p.v.ownBlock ≠ q.v.ownBlock
  ks : ∀ q ∈ Z, 0 ≤ q.r ∧ q.r < 64
  bb : b < base
section
variable {w w' w1 w2 w3 : World} {base b : Nat} {Z : List RZ}
theorem OZ.below (h : OZ w base b Z) (hb : Below w.heap.size w w') : OZ w' base b Z := ⟨h.m.below hb, fun q hq => (h.own q hq).below hb, h.ap, h.ks, h.bb⟩
theorem OZ.made (w : World) {base : Nat} (hb : w.heap.size < base) : OZ (w.alloc (.map #[] 0)) base w.heap.size [] := ⟨MapIs.made MZ w, by simp, by simp, by simp, hb⟩
theorem OZ.lk (h : OZ w base b Z) (r : Int) : ∃ A c, ((look (Z.map RZ.raw) r).getD zeroS).v = .slice A (seqZ Z r).length c ∧ OwnZ w base (.slice A (seqZ Z r).length c) (seqZ Z r) ∧ (∀ p ∈ Z, p.r ≠ r → p.v.ownBlock = none ∨ p.v.ownBlock ≠ (Value.slice A (seqZ Z r).length c).ownBlock) := by
  rw [look_rawZ]
  unfold seqZ
  cases hf : findZ Z r with
  | none =>
    refine ⟨none, 0, rfl, OwnZ.nil _ _, fun p _ _ => ?_⟩
    cases hp : p.v.ownBlock with
    | none => exact .inl rfl
    | some x => exact .inr (by simp [Value.ownBlock])
  | some q =>
    obtain ⟨h1, h2⟩ := find_memZ hf
    exact ⟨q.A, q.c, rfl, h.own q h1, fun p hp hr => h.ap p hp q h1 (by rw [h2]; exact hr)⟩
/-- the map stands while a row of its own turns -/
theorem OZ.mapAt (h : OZ w1 base b Z) {row : Option Nat} (hg : w1.grownBy w2 row) (hr : ∀ x, row = some x → base ≤ x) : MapIs MZ w2 b (Z.map RZ.raw) := h.m.kept hg (fun e => by have := hr b e.symm; have := h.bb; omega)
/-- m[r] = append(m[r], ..) -/
theorem OZ.put (h : OZ w1 base b Z) {r : Int} (hr : 0 ≤ r ∧ r < 64) {A A' : Option Addr} {c c' : Nat} {l : List Int}
    (_h0 : ((look (Z.map RZ.raw) r).getD zeroS).v = .slice A (seqZ Z r).length c) (hap : ∀ p ∈ Z, p.r ≠ r → p.v.ownBlock = none ∨ p.v.ownBlock ≠ (Value.slice A (seqZ Z r).length c).ownBlock)
    (hown : OwnZ w2 base (.slice A' l.length c') l) (hg : w1.grownBy w2 (Value.slice A (seqZ Z r).length c).ownBlock)
    (hat : (Value.slice A' l.length c').ownBlock = (Value.slice A (seqZ Z r).length c).ownBlock ∨ (Value.slice A' l.length c').ownBlock = some w1.heap.size)
    (h1 : MapIs MZ w3 b (putA (Z.map RZ.raw) r ⟨A', l.length, c'⟩)) (h2 : w2.mapTurned w3 b) : OZ w3 base b (putZ Z ⟨r, A', c', l⟩) := by
  have hne : ∀ (v : Value) (k : List Int), OwnZ w2 base v k → v.ownBlock = none ∨ v.ownBlock ≠ some b := fun v k hv => by
    cases hb : v.ownBlock with
    | none => exact .inl rfl
    | some x =>
      refine .inr fun e => ?_
      have := (World.ownsRow.lt hv x hb).1
      have := h.bb
      have := Option.some.inj e
      omega
  have key : ∀ p ∈ Z, p.r ≠ r → OwnZ w2 base p.v p.l := fun p hp hpr => World.ownsRow.kept (h.own p hp) hg (hap p hp hpr)
  refine ⟨?_, fun q hq => ?_, fun p hp q hq hpq => ?_, fun q hq => ?_, h.bb⟩
  · have := putA_rawZ Z ⟨r, A', c', l⟩
    rw [← this]
    exact h1
  · rcases put_memZ hq with rfl | ⟨hq, hqr⟩
    · exact World.ownsRow.kept hown h2.grown (hne _ _ hown)
    · exact World.ownsRow.kept (key q hq hqr) h2.grown (hne _ _ (key q hq hqr))
  · have new : ∀ p ∈ Z, p.r ≠ r → p.v.ownBlock = none ∨ p.v.ownBlock ≠ (Value.slice A' l.length c').ownBlock := fun p hp hpr => by
      rcases hat with e | e
      · rw [e]; exact hap p hp hpr
      · rw [e]
        cases hb : p.v.ownBlock with
        | none => exact .inl rfl
        | some x =>
          refine .inr fun e => ?_
          have := (World.ownsRow.lt (h.own p hp) x hb).2
          have := Option.some.inj e
          omega
    rcases put_memZ hp with rfl | ⟨hp, hpr⟩
    · rcases put_memZ hq with rfl | ⟨hq, hqr⟩
      · exact absurd rfl hpq
      · rcases new q hq hqr with e | e
        · show (Value.slice A' l.length c').ownBlock = none ∨ (Value.slice A' l.length c').ownBlock ≠ _
          rw [e]
          cases hb : (Value.slice A' l.length c').ownBlock with
          | none => exact .inl rfl
          | some x => exact .inr (by simp)
        · exact .inr fun e' => e e'.symm
    · rcases put_memZ hq with rfl | ⟨hq, hqr⟩
      · exact new p hp hpr
      · exact h.ap p hp q hq hpq
  · rcases put_memZ hq with rfl | ⟨hq, _⟩
    · exact hr
    · exact h.ks q hq
theorem OZ.len (h : OZ w base b Z) : Z.length ≤ 64 := by
  have := apart_len 64 (Z.map RZ.raw) 0 h.m.apart fun p hp => by
    obtain ⟨q, hq, rfl⟩ := List.mem_map.1 hp
    have := h.ks q hq
    exact ⟨this.1, by change q.r < 0 + ((64 : Nat) : Int); omega⟩
  simpa using this
/-- what a key's numbers are -/
theorem OZ.at_ (h : OZ w base b Z) {k : Int} {s : RSl} (hs : look (Z.map RZ.raw) k = some s) : s.n = (seqZ Z k).length ∧ Sl w w.heap.size s.A (zv (seqZ Z k)) ∧ 0 ≤ k ∧ k < 64 := by
  rw [look_rawZ] at hs
  unfold seqZ
  cases hf : findZ Z k with
  | none => rw [hf] at hs; cases hs
  | some q =>
    rw [hf] at hs
    obtain ⟨h1, h2⟩ := find_memZ hf
    have e := Option.some.inj hs
    subst e
    obtain ⟨A, c, e1, e2, _⟩ := (h.own q h1).form
    unfold RZ.v at e1
    injection e1 with e1 _ _
    subst e1
    exact ⟨rfl, e2, by rw [← h2]; exact (h.ks q h1).1, by rw [← h2]; exact (h.ks q h1).2⟩
theorem seqZ_out {Z : List RZ} {r : Int} (h : r ∉ (Z.map RZ.raw).map (·.1)) : seqZ Z r = [] := by
  unfold seqZ
  cases hf : findZ Z r with
  | none => rfl
  | some q =>
    obtain ⟨h1, h2⟩ := find_memZ hf
    exact absurd (by rw [List.map_map]; exact List.mem_map.2 ⟨q, h1, h2⟩) h
end
end Go.Proofs.Ytaflikgdlkaefaa
