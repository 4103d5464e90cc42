/- Ranges: the program's minus, counts, what is first. -/
import Derived.Laws.StructEq
import Derived.Maps.AppendAt
import Derived.Lib.SliceRun
import Derived.Laws.IdiomCopy
import Derived.ArgAppend
import Derived.Deep.Upon
import Derived.Sort.Grow
import Derived.Test.YtaflikgdlkaefaaGreatA00
open List (getElem?_toArray getElem?_cons_succ getElem?_cons_zero)
namespace Go.Proofs.YtaflikgdlkaefaaGreat.Sp

theorem drop_ok (v : Int) : ∀ {b : List Rg} {lo : Int}, okR lo b = true →
  okR lo (b.dropWhile fun x => decide (x.b < v)) = true ∧ (∀ x, (b.dropWhile fun x => decide (x.b < v)).head? = some x → v ≤ x.b) ∧ ∀ n, v ≤ n → has (b.dropWhile fun x => decide (x.b < v)) n = has b n
 | [], lo, _ => ⟨rfl, (fun x h => by cases h), fun n _ => rfl⟩
 | x :: t, lo, hb => by
  have hb' := hb
  rw [okR_cons] at hb
  have hx := ok_iff.1 hb.2.1
  by_cases h : x.b < v
  ·rw [List.dropWhile_cons_of_pos (by simpa using h)]
   obtain ⟨k1, k2, k3⟩ := drop_ok v hb.2.2
   refine ⟨okR_mono (by omega) k1, k2, fun n hn => ?_⟩
   rw [k3 n hn, has_cons]
   have : x.in_ n = false := by rw [← Bool.not_eq_true, in_iff]; omega
   rw [this, Bool.false_or]
  ·rw [List.dropWhile_cons_of_neg (by simpa using h)]
   exact ⟨hb', fun y hy => by simp at hy; subst hy; omega, fun n _ => rfl⟩
theorem minP_ok : ∀ {a : List Rg} {b : List Rg} {lo lob : Int}, okR lo a = true → okR lob b = true → okR lo (minP a b) = true ∧ ∀ n, has (minP a b) n = (has a n && !has b n)
 | [], b, lo, lob, _, _ => ⟨rfl, fun n => rfl⟩
 | r :: t, b, lo, lob, ha, hb => by
  rw [okR_cons] at ha
  have hr := ok_iff.1 ha.2.1
  obtain ⟨d1, d2, d3⟩ := drop_ok r.a hb
  rw [minP]
  generalize b.dropWhile (fun x => decide (x.b < r.a)) = b' at *
  obtain ⟨k1, k2⟩ := piece_ok d1 hr.1 hr.2.2 d2
  obtain ⟨m1, m2⟩ := minP_ok (a := t) (b := b') ha.2.2 d1
  refine ⟨okR_append (hi := r.b + 2) (okR_mono ha.1 k1) (fun n hn => ?_) m1 (by omega), fun n => ?_⟩
  ·rw [k2, Bool.and_eq_true, in_iff] at hn; omega
  ·rw [has_append, k2, m2, has_cons, ← Bool.and_or_distrib_right]
   cases h : (r.in_ n || has t n) with
   | false => rfl
   | true =>
    have : r.a ≤ n := by
     rw [Bool.or_eq_true, in_iff] at h
     rcases h with h | h
     ·omega
     ·have := has_lo ha.2.2 n h; omega
    rw [d3 n this]
/-- how many -/
def countR (l : List Rg) : Int := (l.map fun r => r.b - r.a + 1).foldr (· + ·) 0
theorem countR_cons (r : Rg) (t : List Rg) : countR (r :: t) = (r.b - r.a + 1) + countR t := rfl
def cnt (p : Int → Bool) (lo : Int) : Nat → Int
 | 0 => 0
 | k + 1 => (if p lo = true then 1 else 0) + cnt p (lo + 1) k
theorem countR_nonneg : ∀ {l : List Rg} {lo : Int}, okR lo l = true → 0 ≤ countR l
 | [], _, _ => by simp [countR]
 | r :: t, lo, h => by
  rw [okR_cons, ok_iff] at h
  have := countR_nonneg h.2.2
  rw [countR_cons]
  omega
theorem countR_le : ∀ {l : List Rg} {lo : Int}, okR lo l = true → lo ≤ mx + 2 → countR l ≤ mx + 2 - lo
 | [], lo, _, hlo => by simp [countR]; omega
 | r :: t, lo, h, _ => by
  rw [okR_cons, ok_iff] at h
  have := countR_le h.2.2 (by omega)
  rw [countR_cons]
  omega
/-- up to which number all are there -/
def firstR (l : List Rg) : Int := match l with
 | [] => 0
 | r :: _ => if r.a = 1 then r.b else 0
end Go.Proofs.YtaflikgdlkaefaaGreat.Sp
/- Ranges: the forms that the walks step through; the laws' sets. -/
namespace Go.Proofs.YtaflikgdlkaefaaGreat.Sp

theorem add_at : ∀ (l : List Rg) (r : Rg) (i : Nat), i ≤ l.length → (∀ j, j < i → (l[j]?.getD ⟨0, 0⟩).b < r.a - 1) → (i = l.length ∨ ¬ (l[i]?.getD ⟨0, 0⟩).b < r.a - 1) →
    addR l r = l.take i ++ (mergeR (l.drop i) r).1 :: (mergeR (l.drop i) r).2
  | [], r, i, hi, _, _ => by
    obtain rfl : i = 0 := by simpa using hi
    rfl
  | x :: t, r, 0, _, _, h => by
    have : ¬ x.b < r.a - 1 := by rcases h with h | h; · simp at h
                                 · simpa using h
    rw [addR, if_neg this]; rfl
  | x :: t, r, i + 1, hi, hj, h => by
    have h0 : x.b < r.a - 1 := by simpa using hj 0 (by omega)
    rw [addR, if_pos h0, add_at t r i (by simpa using hi) (fun j hj' => by simpa using hj (j + 1) (by omega)) (by simpa using h)]
    rfl
theorem merge_step {l : List Rg} {r : Rg} {i : Nat} (hi : i < l.length) (h : (l[i]?.getD ⟨0, 0⟩).a ≤ r.b + 1) :
  mergeR (l.drop i) r = mergeR (l.drop (i + 1)) ⟨min r.a (l[i]?.getD ⟨0, 0⟩).a, max r.b (l[i]?.getD ⟨0, 0⟩).b⟩ := by
 rw [List.getElem?_eq_getElem hi, Option.getD_some] at h ⊢
 rw [List.drop_eq_getElem_cons hi, mergeR, if_pos h]
theorem merge_stop {l : List Rg} {r : Rg} {i : Nat} (h : i = l.length ∨ i < l.length ∧ ¬ (l[i]?.getD ⟨0, 0⟩).a ≤ r.b + 1) : mergeR (l.drop i) r = (r, l.drop i) := by
 rcases h with h | ⟨hi, h⟩
 ·rw [h, List.drop_length]; rfl
 ·rw [List.getElem?_eq_getElem hi, Option.getD_some] at h
  rw [List.drop_eq_getElem_cons hi, mergeR, if_neg h]
/-! ### joined, taken away: right lists of the sets -/
def joinS (a b : List Rg) : List Rg := if right a = true ∧ right b = true then b.foldl addR a else []
def minusS (a b : List Rg) : List Rg := if right a = true ∧ right b = true then minusR a b else []
def hasS (l : List Rg) (n : Int) : Bool := right l && has l n
def countS (l : List Rg) : Int := if right l = true then countR l else 0
def firstS (l : List Rg) : Int := if right l = true then firstR l else 0
theorem joinS_right (a b : List Rg) : right (joinS a b) = true := by
 unfold joinS
 split
 ·rename_i h; exact (fold_add h.1 (right_ok h.2)).1
 ·rfl
theorem minusS_right (a b : List Rg) : right (minusS a b) = true := by
 unfold minusS
 split
 ·rename_i h; exact (fold_cut h.1 (right_ok h.2)).1
 ·rfl
theorem joinS_has {a b : List Rg} (ha : right a = true) (hb : right b = true) (n : Int) : has (joinS a b) n = (has a n || has b n) := by
 rw [joinS, if_pos ⟨ha, hb⟩]
 exact (fold_add ha (right_ok hb)).2 n
theorem minusS_has {a b : List Rg} (ha : right a = true) (hb : right b = true) (n : Int) : has (minusS a b) n = (has a n && !has b n) := by
 rw [minusS, if_pos ⟨ha, hb⟩]
 exact (fold_cut ha (right_ok hb)).2 n
/-- the program's join: sorted, then put together -/
theorem all_join {a b l : List Rg} (ha : right a = true) (hb : right b = true) (hm : ∀ r, r ∈ l ↔ r ∈ a ++ b) (hs : l.Pairwise fun r s => r.a ≤ s.a) : l.foldl putR [] = joinS a b := by
 have hok : ∀ r ∈ l, r.ok = true := fun r hr => by
  rcases List.mem_append.1 ((hm r).1 hr) with h | h
  ·exact right_ok ha r h
  ·exact right_ok hb r h
 obtain ⟨k1, k2⟩ := fold_put (o := []) rfl hok hs (fun x hx => by cases hx)
 refine right_one k1 (joinS_right a b) fun n => ?_
 rw [k2, joinS_has ha hb, has_nil, Bool.false_or, ← has_append, Bool.eq_iff_iff]
 simp only [has, List.any_eq_true]
 constructor
 ·rintro ⟨r, h1, h2⟩; exact ⟨r, (hm r).1 h1, h2⟩
 ·rintro ⟨r, h1, h2⟩; exact ⟨r, (hm r).2 h1, h2⟩
theorem minP_eq {a b : List Rg} (ha : right a = true) (hb : right b = true) : minP a b = minusS a b := by
 obtain ⟨k1, k2⟩ := minP_ok ha hb
 refine right_one k1 (minusS_right a b) fun n => ?_
 rw [k2, minusS_has ha hb]
/-- the list of some numbers -/
def numOk (n : Int) : Bool := decide (1 ≤ n ∧ n ≤ mx)
def ofS (l : List Int) : List Rg := l.foldl (fun o n => if numOk n = true then addR o ⟨n, n⟩ else o) []
theorem ofS_gen : ∀ (l : List Int) (o : List Rg), right o = true → right (l.foldl (fun o n => if numOk n = true then addR o ⟨n, n⟩ else o) o) = true ∧
  ∀ n, has (l.foldl (fun o n => if numOk n = true then addR o ⟨n, n⟩ else o) o) n = (has o n || (numOk n && l.contains n))
 | [], o, ho => ⟨ho, fun n => by simp⟩
 | x :: l, o, ho => by
  rw [List.foldl_cons]
  by_cases hx : numOk x = true
  ·rw [if_pos hx]
   have hx' := hx
   rw [numOk, decide_eq_true_eq] at hx'
   obtain ⟨k1, k2⟩ := addR_ok (r := ⟨x, x⟩) (lo := 1) ho (ok_iff.2 ⟨hx'.1, Int.le_refl _, hx'.2⟩) hx'.1
   obtain ⟨j1, j2⟩ := ofS_gen l _ k1
   refine ⟨j1, fun n => ?_⟩
   rw [j2, k2, Bool.or_assoc]
   congr 1
   rw [List.contains_cons, Bool.eq_iff_iff]
   simp only [Bool.or_eq_true, Bool.and_eq_true, in_iff, beq_iff_eq]
   constructor
   ·rintro (⟨h1, h2⟩ | ⟨h1, h2⟩)
    ·have e : n = x := by omega
     subst e
     exact ⟨hx, .inl rfl⟩
    ·exact ⟨h1, .inr h2⟩
   ·rintro ⟨h1, h2 | h2⟩
    ·subst h2; exact .inl ⟨Int.le_refl _, Int.le_refl _⟩
    ·exact .inr ⟨h1, h2⟩
  ·rw [if_neg hx]
   obtain ⟨j1, j2⟩ := ofS_gen l o ho
   refine ⟨j1, fun n => ?_⟩
   rw [j2, List.contains_cons]
   congr 1
   rw [Bool.eq_iff_iff]
   simp only [Bool.and_eq_true, Bool.or_eq_true, beq_iff_eq]
   constructor
   ·rintro ⟨h1, h2⟩; exact ⟨h1, .inr h2⟩
   ·rintro ⟨h1, h2 | h2⟩
    ·subst h2; exact absurd h1 hx
    ·exact ⟨h1, h2⟩
theorem ofS_right (l : List Int) : right (ofS l) = true := (ofS_gen l [] rfl).1
theorem ofS_has (l : List Int) (n : Int) : has (ofS l) n = (numOk n && l.contains n) := by rw [ofS, (ofS_gen l [] rfl).2, has_nil, Bool.false_or]
/-- the program's list of numbers: sorted one by one, put together -/
theorem all_of {xs : List Int} {l : List Rg} (hm : ∀ r, r ∈ l ↔ ∃ n ∈ xs, numOk n = true ∧ r = ⟨n, n⟩) (hs : l.Pairwise fun r s => r.a ≤ s.a) : l.foldl putR [] = ofS xs := by
 have hok : ∀ r ∈ l, r.ok = true := fun r hr => by
  obtain ⟨n, _, h1, rfl⟩ := (hm r).1 hr
  rw [numOk, decide_eq_true_eq] at h1
  exact ok_iff.2 ⟨h1.1, Int.le_refl _, h1.2⟩
 obtain ⟨k1, k2⟩ := fold_put (o := []) rfl hok hs (fun x hx => by cases hx)
 refine right_one k1 (ofS_right xs) fun n => ?_
 rw [k2, ofS_has, has_nil, Bool.false_or, Bool.eq_iff_iff, Bool.and_eq_true, List.contains_iff_mem]
 simp only [has, List.any_eq_true]
 constructor
 ·rintro ⟨r, h1, h2⟩
  obtain ⟨m, h3, h4, rfl⟩ := (hm r).1 h1
  rw [in_iff] at h2
  have e : n = m := by simp only at h2; omega
  subst e
  exact ⟨h4, h3⟩
 ·rintro ⟨h1, h2⟩
  exact ⟨⟨n, n⟩, (hm _).2 ⟨n, h2, h1, rfl⟩, in_iff.2 ⟨Int.le_refl _, Int.le_refl _⟩⟩
end Go.Proofs.YtaflikgdlkaefaaGreat.Sp
/- Ranges as values, and as cells of memory. -/
namespace Go.Proofs.YtaflikgdlkaefaaGreat
open Go.RowKit Go.Proofs.YtaflikgdlkaefaaGreat.Sp
set_option maxRecDepth 20000

def _root_.Go.Proofs.YtaflikgdlkaefaaGreat.Sp.Rg.v (d : Rg) : Value := .agg #[.int .i64 d.a, .int .i64 d.b]
def _root_.Go.Proofs.YtaflikgdlkaefaaGreat.Sp.Rg.cells (d : Rg) : List Value := [.int .i64 d.a, .int .i64 d.b]
def _root_.Go.Proofs.YtaflikgdlkaefaaGreat.Sp.Rg.wfR (d : Rg) : Prop := i64in d.a ∧ i64in d.b
/-- a range's box -/
def StandsR (w : World) (g : Nat) (s : Rg) : Prop := g < w.heap.size ∧ w.cell? ⟨g, 0, none⟩ = some (.int .i64 s.a) ∧ w.cell? ⟨g, 1, none⟩ = some (.int .i64 s.b) ∧ w.frozen? ⟨g, 0, none⟩ = false ∧ w.frozen? ⟨g, 1, none⟩ = false
theorem StandsR.below {w w' : World} {g : Nat} {s : Rg} (h : StandsR w g s) (hb : Below w.heap.size w w') : StandsR w' g s := by
 obtain ⟨h1, h2, h3, h5, h6⟩ := h
 exact ⟨Nat.lt_of_lt_of_le h1 hb.size, (hb.cell h1).trans h2, (hb.cell h1).trans h3, (hb.frozen h1).trans h5, (hb.frozen h1).trans h6⟩
theorem StandsR.alloc {w : World} {g : Nat} {s : Rg} (h : StandsR w g s) (o : Obj) : StandsR (w.alloc o) g s := h.below (balloc (Below.refl _ _) o)
theorem StandsR.new (w : World) (t : TypeId) (s : Rg) : StandsR (w.alloc (.cells #[.int .i64 s.a, .int .i64 s.b] t)) w.heap.size s := by
 obtain ⟨h1, h2⟩ := cell2 w t (.int .i64 s.a) (.int .i64 s.b)
 exact ⟨by simp, h1, h2, by rw [frozen?_alloc_cells]; simp [World.frozen?], by rw [frozen?_alloc_cells]; simp [World.frozen?]⟩
/-- the two stores of a dot -/
def put2R (w : World) (g : Nat) (s : Rg) : World := (w.setCell ⟨g, 0, none⟩ (.int .i64 s.a)).setCell ⟨g, 1, none⟩ (.int .i64 s.b)
theorem StandsR.put {w : World} {g : Nat} {m : Rg} (h : StandsR w g m) (s : Rg) : StandsR (put2R w g s) g s := by
 obtain ⟨h1, h2, h3, h5, h6⟩ := h
 unfold put2R
 refine ⟨by simpa using h1, ?_, ?_, by simp only [setCell_frozen]; exact h5, by simp only [setCell_frozen]; exact h6⟩
 ·rw [setCell_other _ _ _ _ _ _ (.inr (by omega)), World.cell?_setCell_same _ _ _ h2]
 ·rw [World.cell?_setCell_same _ _ _ (u := .int .i64 m.b) (by rw [setCell_other _ _ _ _ _ _ (.inr (by omega))]; exact h3)]
theorem eq2R (w : World) (a b : Rg) : (binOp .eql 58 a.v b.v).run Tryz.prog w = .ok (.bool (decide (a = b))) w := by
 unfold Rg.v
 rw [run_eql_struct]
 obtain ⟨p, l⟩ := a
 obtain ⟨p', l'⟩ := b
 go_simp
 by_cases h1 : p = p' <;> by_cases h2 : l = l' <;> simp [h1, h2]
theorem ne2R (w : World) (a b : Rg) : (binOp .neq 58 a.v b.v).run Tryz.prog w = .ok (.bool (!decide (a = b))) w := by
 unfold Rg.v
 rw [run_neq_struct]
 obtain ⟨p, l⟩ := a
 obtain ⟨p', l'⟩ := b
 go_simp
 by_cases h1 : p = p' <;> by_cases h2 : l = l' <;> simp [h1, h2]
/-! ### rows of ranges -/
def rv (ls : List Rg) : List Value := ls.flatMap Rg.cells
theorem rv_get : ∀ (ls : List Rg) (k j : Nat) (s : Rg), ls[k]? = some s → j < 2 → (rv ls)[k * 2 + j]? = s.cells[j]?
 | [], k, j, s, h, _ => by simp at h
 | x :: ls, 0, j, s, h, hj => by
  simp at h; subst h
  show (x.cells ++ rv ls)[0 * 2 + j]? = _
  rw [List.getElem?_append_left (by simp [Rg.cells]; omega)]; congr 1; omega
 | x :: ls, k + 1, j, s, h, hj => by
  show (x.cells ++ rv ls)[(k + 1) * 2 + j]? = _
  rw [List.getElem?_append_right (by simp [Rg.cells]; omega), show (k + 1) * 2 + j - x.cells.length = k * 2 + j by simp [Rg.cells]; omega]
  exact rv_get ls k j s (by simpa using h) hj
theorem rv_len (ls : List Rg) : (rv ls).length = ls.length * 2 := by
 induction ls with
 | nil => rfl
 | cons x t ih => simp [rv, Rg.cells] at *; omega
theorem rv_append (a b : List Rg) : rv (a ++ b) = rv a ++ rv b := by simp [rv]
theorem rv_take (ls : List Rg) (k : Nat) : (rv ls).take (k * 2) = rv (ls.take k) := by
 induction ls generalizing k with
 | nil => simp [rv]
 | cons x t ih =>
  cases k with
  | zero => simp [rv]
  | succ k =>
   show (x.cells ++ rv t).take ((k + 1) * 2) = x.cells ++ rv (t.take k)
   rw [← ih k, show (k + 1) * 2 = x.cells.length + k * 2 by simp [Rg.cells]; omega, List.take_length_add_append]
theorem rgAt {w : World} {B : Nat} {A : Option Addr} {ls : List Rg} (h : Sl w B A (rv ls)) {k : Nat} (hk : k < ls.length) :
  ∃ b o, A = some ⟨b, o, none⟩ ∧ b < B ∧ b < w.heap.size ∧ w.cell? ⟨b, o + k * 2, none⟩ = some (.int .i64 (ls[k]?.getD ⟨0, 0⟩).a) ∧ w.cell? ⟨b, o + k * 2 + 1, none⟩ = some (.int .i64 (ls[k]?.getD ⟨0, 0⟩).b) := by
 obtain ⟨b, o, e, h1, h2, hc⟩ := h.at_ (k := k * 2) (by rw [rv_len]; omega)
 have hs : ls[k]? = some (ls[k]'hk) := List.getElem?_eq_getElem hk
 rw [hs]
 exact ⟨b, o, e, h1, h2, hc (k * 2 + 0) _ (rv_get ls k 0 _ hs (by omega)), hc (k * 2 + 1) _ (rv_get ls k 1 _ hs (by omega))⟩
end Go.Proofs.YtaflikgdlkaefaaGreat
/- Rows of dots of the call's own: append, stores, clear. -/
namespace Go.Proofs.YtaflikgdlkaefaaGreat
open Go.RowKit Go.Proofs.YtaflikgdlkaefaaGreat.Pl Go.Proofs.YtaflikgdlkaefaaGreat.Sp
set_option maxRecDepth 20000

abbrev OwnR (w : World) (base : Nat) (v : Value) (l : List Rg) : Prop := w.ownsRow base 58 2 v l.length (rv l)
theorem rginfo : (Tryz.prog.info? 58).map (fun i => (i.zero, i.size, i.bytes)) = some (some (.agg #[.int .i64 0, .int .i64 0]), 2, 16) := by kernel_rfl
theorem OwnR.nil (w : World) (base : Nat) : OwnR w base (.slice none 0 0) [] := World.ownsRow_nil w base _ 2
theorem OwnR.form {w : World} {base : Nat} {v : Value} {l : List Rg} (h : OwnR w base v l) : ∃ A c, v = .slice A l.length c ∧ l.length ≤ c ∧ c ≤ maxLen ∧ Sl w w.heap.size A (rv l) ∧ (A = none → l = []) ∧ (∀ a, A = some a → base ≤ a.block ∧ a.off = 0 ∧ a.spot = none) := by
 rcases h.2 with ⟨rfl, hn⟩ | ⟨g, cap, cur, rfl, hb, hg, hn, hm, hcs, ht⟩
 ·have := List.eq_nil_of_length_eq_zero hn
  subst this
  exact ⟨none, 0, rfl, by simp, by simp [maxLen], .inl rfl, (fun _ => rfl), (fun a h => (by cases h))⟩
 ·have hlt : g < w.heap.size := (Array.getElem?_eq_some_iff.1 hg).1
  refine ⟨_, cap, rfl, hn, hm, .inr ⟨g, 0, rfl, hlt, hlt, fun j u hu => ?_⟩, (fun h => (by cases h)), (fun a h => by cases h; exact ⟨hb, rfl, rfl⟩)⟩
  have := h.cells (g := g) rfl j u hu
  rw [Nat.zero_add]
  rw [addr0] at this
  exact this
theorem OwnR.below {w w' : World} {base : Nat} {v : Value} {l : List Rg} (h : OwnR w base v l) (hb : Below w.heap.size w w') : OwnR w' base v l :=
 h.kept (row := none) ⟨hb.os, hb.tape, hb.output, hb.size, fun k hk _ => hb.block k hk⟩ (by cases hv : v.ownBlock <;> simp)
theorem OwnR.head {w : World} {base : Nat} {v : Value} {l : List Rg} (h : OwnR w base v l) (hn : 0 < l.length) : ∃ g cap, v = .slice (some ⟨g, 0, none⟩) l.length cap ∧ base ≤ g ∧ g < w.heap.size ∧ l.length ≤ cap ∧ cap ≤ maxLen := by
 rcases h.2 with ⟨_, h0⟩ | ⟨g, cap, cur, rfl, hb, hg, h1, h2, _⟩
 ·omega
 ·exact ⟨g, cap, rfl, hb, (Array.getElem?_eq_some_iff.1 hg).1, h1, h2⟩
theorem own_belowR {w wr w1 : World} {x : Value} {B : Nat} {l : List Rg} (hb : Below B w wr) (hB : B ≤ wr.heap.size) (hown : OwnR wr B x l) (hg : wr.grownBy w1 x.ownBlock) : Below B w w1 :=
 hb.trans (below_of_grown hg (fun g e => (hown.lt g e).1) hB)
theorem rv_one (l : List Rg) : ∀ u ∈ rv l, u.oneCell' = true := by
 intro u hu
 obtain ⟨d, _, h⟩ := List.mem_flatMap.1 hu
 simp [Rg.cells] at h
 rcases h with rfl | rfl <;> rfl
theorem run_appR (w : World) (ty : TypeId) {base : Nat} {v : Value} {l : List Rg} (hown : OwnR w base v l) {B : Nat} {A : Option Addr} {m c : Nat} {k : List Rg} (hr : Sl w B A (rv k)) (hm : m = k.length)
  (hl : l.length + k.length ≤ 1000000000) (hbase : base ≤ w.heap.size) :
  ∃ v' w', (Builtin.append_ #[35, 35] ty #[v, .slice A m c]).run Tryz.prog w = .ok v' w' ∧ OwnR w' base v' (l ++ k) ∧ w.grownBy w' v.ownBlock ∧ (v'.ownBlock = v.ownBlock ∨ v'.ownBlock = some w.heap.size) := by
 subst hm
 obtain ⟨i, hi, hz, hz1, hz2⟩ := info_parts rginfo
 rcases A with _ | ad
 ·have hk : k = [] := by
   rcases hr with h | ⟨b, o, h, _⟩
   ·have := rv_len k
    rw [h] at this
    exact List.eq_nil_of_length_eq_zero (by simp at this; omega)
   ·cases h
  subst hk
  refine ⟨v, w, ?_, by simpa using hown, World.grownBy.refl w _, .inl rfl⟩
  rcases hown.2 with ⟨e, h0⟩ | ⟨g, cap', cur, e, hb0, hg0, hnc0, _⟩
  ·subst e
   simp [Builtin.append_, run_underlying Tryz.underlying35, sizeOf, typeInfo, hi, Builtin.lenOf, Builtin.firstCells, loadCells, loadCellsFrom]
  ·subst e
   simp [Builtin.append_, run_underlying Tryz.underlying35, sizeOf, typeInfo, hi, Builtin.lenOf, Builtin.firstCells, loadCells, loadCellsFrom, hnc0, storeCells]
 ·obtain ⟨v', w', hrun, h2, h3, _, h5⟩ := run_append_own_at (P := Tryz.prog) w base 35 ty 58 i (.agg #[.int .i64 0, .int .i64 0]) 2 16 Tryz.underlying35 hi hz hz1 hz2 rfl (by omega) v l.length (rv l) hown ad k.length c (rv k)
   (rv_len k) (fun j u hu => by
    rcases hr with h | ⟨b, o, h, _, _, hc⟩
    ·rw [h] at hu; simp at hu
    ·injection h with h
     subst h
     have : (⟨b, o, none⟩ : Addr).add j = ⟨b, o + j, none⟩ := by
      unfold Addr.add
      split
      ·rename_i h0; subst h0; rfl
      ·rfl
     rw [this]; exact hc j u hu) (rv_one k) (by simp only [maxLen]; omega) (by omega) hbase
  exact ⟨v', w', hrun, by rw [OwnR, rv_append, List.length_append]; exact h2, h3, h5⟩
section
variable {ops : Array Oper} {rest : List Oper} {o : Oper} {a : Act} {Q : Exit → Act → World → Prop} {w : World} {s x : Operand}
theorem wp_appR {K : Act → World → Prop} (ho : o.op = .call { callee := .builtin .append, args := #[s, x], argTypes := #[35, 35] })
  {base : Nat} {v : Value} {l : List Rg} (hown : OwnR w base v l) {B : Nat} {A : Option Addr} {m c : Nat} {k : List Rg} (hr : Sl w B A (rv k)) (hm : m = k.length)
  (hs : a.eval s = v) (hx : a.eval x = .slice A m c) (hl : l.length + k.length ≤ 1000000000) (hbase : base ≤ w.heap.size)
  (h : ∀ v' w', OwnR w' base v' (l ++ k) → w.grownBy w' v.ownBlock → (v'.ownBlock = v.ownBlock ∨ v'.ownBlock = some w.heap.size) → K (a.put o.dst v') w') : o.wp Tryz.prog a w K Q := by
 obtain ⟨v', w', hrun, h2, h3, h4⟩ := run_appR w o.type hown hr hm hl hbase (c := c)
 unfold Oper.wp execOp
 simp only [ho, resolve, invoke, builtin, Sem.run_bind, Sem.run_pure, Result.andThen_ok, List.map_toArray, List.map_cons, List.map_nil, hs, hx, hrun]
 exact h v' w' h2 h3 h4
theorem appRG (hgd : Region.wanted o (yielded ops a.tmps) = true) (ho : o.op = .call { callee := .builtin .append, args := #[s, x], argTypes := #[35, 35] })
  {base : Nat} {v : Value} {l : List Rg} (hown : OwnR w base v l) {B : Nat} {A : Option Addr} {m c : Nat} {k : List Rg} (hr : Sl w B A (rv k)) (hm : m = k.length)
  (hs : a.eval s = v) (hx : a.eval x = .slice A m c) (hl : l.length + k.length ≤ 1000000000) (hbase : base ≤ w.heap.size)
  (h : ∀ v' w', OwnR w' base v' (l ++ k) → w.grownBy w' v.ownBlock → (v'.ownBlock = v.ownBlock ∨ v'.ownBlock = some w.heap.size) → wpList Tryz.prog ops Q rest (a.put o.dst v') w') : wpList Tryz.prog ops Q (o :: rest) a w :=
 BigFrame.wpList_want hgd fun _ hK => wp_appR ho hown hr hm hs hx hl hbase fun v' w' h2 h3 h4 => hK _ _ (h v' w' h2 h3 h4)
end
/-! ### a row of dots that may be turned where it lies -/
def RowR (w : World) (g : Nat) (l : List Rg) : Prop := g < w.heap.size ∧ ∀ k, k < l.length → w.cell? ⟨g, k * 2, none⟩ = some (.int .i64 (l[k]?.getD ⟨0, 0⟩).a) ∧ w.cell? ⟨g, k * 2 + 1, none⟩ = some (.int .i64 (l[k]?.getD ⟨0, 0⟩).b) ∧ w.frozen? ⟨g, k * 2, none⟩ = false ∧ w.frozen? ⟨g, k * 2 + 1, none⟩ = false
theorem RowR.below {w w' : World} {g : Nat} {l : List Rg} (h : RowR w g l) (hb : Below w.heap.size w w') : RowR w' g l :=
 ⟨Nat.lt_of_lt_of_le h.1 hb.size, fun k hk => by
  obtain ⟨h1, h2, h3, h4⟩ := h.2 k hk
  exact ⟨(hb.cell h.1).trans h1, (hb.cell h.1).trans h2, (hb.frozen h.1).trans h3, (hb.frozen h.1).trans h4⟩⟩
theorem put2R_cell (w : World) (g i : Nat) (s : Rg) (h0 : (w.cell? ⟨g, i * 2, none⟩).isSome = true) (h1 : (w.cell? ⟨g, i * 2 + 1, none⟩).isSome = true) (k j : Nat) (hj : j < 2) :
  (((w.setCell ⟨g, i * 2, none⟩ (.int .i64 s.a)).setCell ⟨g, i * 2 + 1, none⟩ (.int .i64 s.b))).cell? ⟨g, k * 2 + j, none⟩ = if k = i then s.cells[j]? else w.cell? ⟨g, k * 2 + j, none⟩ := by
 obtain ⟨u0, e0⟩ := Option.isSome_iff_exists.1 h0
 obtain ⟨u1, e1⟩ := Option.isSome_iff_exists.1 h1
 by_cases hk : k = i
 ·subst hk
  rw [if_pos rfl]
  rcases (by omega : j = 0 ∨ j = 1) with rfl | rfl
  ·rw [setCell_other _ _ _ _ _ _ (.inr (by omega)), Nat.add_zero, World.cell?_setCell_same _ _ _ e0]; rfl
  ·rw [World.cell?_setCell_same _ _ _ (u := u1) (by rw [setCell_other _ _ _ _ _ _ (.inr (by omega))]; exact e1)]; rfl
 ·rw [if_neg hk, setCell_other _ _ _ _ _ _ (.inr (by omega)), setCell_other _ _ _ _ _ _ (.inr (by omega))]
def put2AtR (w : World) (g i : Nat) (s : Rg) : World := (w.setCell ⟨g, i * 2, none⟩ (.int .i64 s.a)).setCell ⟨g, i * 2 + 1, none⟩ (.int .i64 s.b)
theorem RowR.put {w : World} {g : Nat} {l : List Rg} (h : RowR w g l) {i : Nat} (hi : i < l.length) (s : Rg) : RowR (put2AtR w g i s) g (l.set i s) := by
 obtain ⟨q0, q1, _, _⟩ := h.2 i hi
 have hc := put2R_cell w g i s (by rw [q0]; rfl) (by rw [q1]; rfl)
 refine ⟨by unfold put2AtR; simpa using h.1, fun k hk => ?_⟩
 rw [List.length_set] at hk
 obtain ⟨h1, h2, h3, h4⟩ := h.2 k hk
 have c0 := hc k 0 (by omega)
 have c1 := hc k 1 (by omega)
 rw [Nat.add_zero] at c0
 unfold put2AtR
 refine ⟨c0.trans ?_, c1.trans ?_, by simp only [setCell_frozen]; exact h3, by simp only [setCell_frozen]; exact h4⟩
 ·by_cases e : k = i
  ·subst e; rw [if_pos rfl, List.getElem?_set_self hk]; rfl
  ·rw [if_neg e, List.getElem?_set_ne (fun h => e h.symm)]; exact h1
 ·by_cases e : k = i
  ·subst e; rw [if_pos rfl, List.getElem?_set_self hk]; rfl
  ·rw [if_neg e, List.getElem?_set_ne (fun h => e h.symm)]; exact h2
theorem RowR.sl {w : World} {g : Nat} {l : List Rg} (h : RowR w g l) : Sl w w.heap.size (some ⟨g, 0, none⟩) (rv l) := by
 refine .inr ⟨g, 0, rfl, h.1, h.1, fun j u hu => ?_⟩
 have hj : j < (rv l).length := by
  rcases Nat.lt_or_ge j (rv l).length with h | h
  ·exact h
  ·rw [List.getElem?_eq_none h] at hu; cases hu
 rw [rv_len] at hj
 have hk : j / 2 < l.length := by omega
 have hs : l[j / 2]? = some (l[j / 2]'hk) := List.getElem?_eq_getElem hk
 have hg := rv_get l (j / 2) (j % 2) _ hs (by omega)
 rw [show j / 2 * 2 + j % 2 = j by omega, hu] at hg
 obtain ⟨h1, h2, _, _⟩ := h.2 (j / 2) hk
 rw [hs, Option.getD_some] at h1 h2
 rw [Nat.zero_add]
 rcases (by omega : j % 2 = 0 ∨ j % 2 = 1) with e | e
 ·rw [e] at hg
  rw [show j = j / 2 * 2 by omega, h1]; exact hg.symm
 ·rw [e] at hg
  rw [show j = j / 2 * 2 + 1 by omega, h2]; exact hg.symm
theorem RowR.take {w : World} {g : Nat} {l : List Rg} (h : RowR w g l) (n : Nat) : RowR w g (l.take n) := by
 refine ⟨h.1, fun k hk => ?_⟩
 rw [List.length_take] at hk
 rw [List.getElem?_take, if_pos (by omega)]
 exact h.2 k (by omega)
theorem OwnR.row2 {w : World} {base g c : Nat} {l : List Rg} (h : OwnR w base (.slice (some ⟨g, 0, none⟩) l.length c) l) : RowR w g l := by
 refine ⟨(h.lt g rfl).2, fun k hk => ?_⟩
 have hs : l[k]? = some (l[k]'hk) := List.getElem?_eq_getElem hk
 have g0 := rv_get l k 0 _ hs (by omega)
 have g1 := rv_get l k 1 _ hs (by omega)
 rw [Nat.add_zero] at g0
 have c0 := h.cellAt (k * 2) (by omega)
 have c1 := h.cellAt (k * 2 + 1) (by omega)
 rw [hs]
 exact ⟨c0.trans g0, c1.trans g1, h.frozenAt _, h.frozenAt _⟩
/-! ### clear -/
section
variable {ops : Array Oper} {rest : List Oper} {o : Oper} {a : Act} {Q : Exit → Act → World → Prop} {w : World} {s x : Operand}
theorem appR (hgd : o.guard = none) (ho : o.op = .call { callee := .builtin .append, args := #[s, x], argTypes := #[35, 35] })
  {base : Nat} {v : Value} {l : List Rg} (hown : OwnR w base v l) {B : Nat} {A : Option Addr} {m c : Nat} {k : List Rg} (hr : Sl w B A (rv k)) (hm : m = k.length)
  (hs : a.eval s = v) (hx : a.eval x = .slice A m c) (hl : l.length + k.length ≤ 1000000000) (hbase : base ≤ w.heap.size)
  (h : ∀ v' w', OwnR w' base v' (l ++ k) → w.grownBy w' v.ownBlock → (v'.ownBlock = v.ownBlock ∨ v'.ownBlock = some w.heap.size) → wpList Tryz.prog ops Q rest (a.put o.dst v') w') : wpList Tryz.prog ops Q (o :: rest) a w :=
 wpList_plain hgd fun _ hK => wp_appR ho hown hr hm hs hx hl hbase fun v' w' h2 h3 h4 => hK _ _ (h v' w' h2 h3 h4)
end
theorem below_noneR {w w' : World} (hg : w.grownBy w' none) : Below w.heap.size w w' := ⟨hg.os, hg.tape, hg.output, hg.size, fun k hk => hg.block k hk (fun e => by cases e)⟩
theorem OwnR.lower {w : World} {base base' : Nat} {v : Value} {l : List Rg} (h : OwnR w base v l) (hb : base' ≤ base) : OwnR w base' v l := by
 refine ⟨h.1, ?_⟩
 rcases h.2 with h' | ⟨g, cap, cur, e, hg, h'⟩
 ·exact .inl h'
 ·exact .inr ⟨g, cap, cur, e, Nat.le_trans hb hg, h'⟩
theorem OwnR.lit (w : World) (_ : TypeId) (x : Rg) : OwnR (w.alloc (.cells #[.int .i64 x.a, .int .i64 x.b] 58)) w.heap.size (.slice (some ⟨w.heap.size, 0, none⟩) 1 1) [x] :=
 World.ownsRow_lit (base := w.heap.size) (e := 58) (size := 2) w #[.int .i64 x.a, .int .i64 x.b] 1 (Nat.le_refl _) (by simp [maxLen]) rfl
theorem rgsize : ∃ i, Tryz.prog.info? 58 = some i ∧ i.size = 2 := by
 obtain ⟨i, hi, hz, hz1, hz2⟩ := info_parts rginfo
 exact ⟨i, hi, hz1⟩
theorem rv_drop (ls : List Rg) (k : Nat) : (rv ls).drop (k * 2) = rv (ls.drop k) := by
 induction ls generalizing k with
 | nil => simp [rv]
 | cons x t ih =>
  cases k with
  | zero => simp [rv]
  | succ k =>
   show (x.cells ++ rv t).drop ((k + 1) * 2) = rv (t.drop k)
   rw [← ih k, show (k + 1) * 2 = x.cells.length + k * 2 by simp [Rg.cells]; omega, List.drop_length_add_append]
/-- s[j:] -/
theorem sl_postR (A : Option Addr) (m c j : Nat) (hj : j ≤ m) (hc : m ≤ c) :
  ∃ A2, (∀ w, (Instr.sliceAt 35 (.slice A m c) (some (.int .i64 (j : Int))) none none).run Tryz.prog w = .ok (.slice A2 (m - j) (c - j)) w) ∧ ∀ (w : World) (B : Nat) (o : List Rg), o.length = m → Sl w B A (rv o) → Sl w B A2 (rv (o.drop j)) := by
 obtain ⟨i, hi, hs⟩ := rgsize
 refine ⟨if c = j then A else A.map (fun x => x.add (j * i.size)), fun w => ?_, fun w B o ho hS => ?_⟩
 ·simp [Instr.sliceAt, Instr.slice, run_underlying Tryz.underlying35, Instr.sliceBounds, Instr.sliceBound, asIntOf, sizeOf, typeInfo, hi]
  intro h; omega
 ·have h := hS.cut (j * 2) (c * 2) (by rw [rv_len]; omega)
  rw [rv_drop] at h
  rw [hs]
  by_cases e : c = j
  ·rw [if_pos e]; rw [if_pos (by omega)] at h; exact h
  ·rw [if_neg e]; rw [if_neg (by omega)] at h; exact h
theorem exec_postR {a : Act} {o : Oper} {x y : Operand} (ho : o.op = .slice 35 x (some y) none none) {A A2 : Option Addr} {m c j : Nat} (hx : a.eval x = .slice A m c) (hy : a.eval y = .int .i64 (j : Int))
  (h : ∀ w, (Instr.sliceAt 35 (.slice A m c) (some (.int .i64 (j : Int))) none none).run Tryz.prog w = .ok (.slice A2 (m - j) (c - j)) w) (w : World) :
  (execOp a.eval o).run Tryz.prog w = .ok (.value (.slice A2 (m - j) (c - j))) w := by
 simp [execOp, ho, hx, hy, h]
end Go.Proofs.YtaflikgdlkaefaaGreat
/- A block whose cells are known, one by one. -/
namespace Go.Proofs.YtaflikgdlkaefaaGreat
open Go.RowKit

def At (w : World) (g : Nat) (vs : List Value) : Prop := g < w.heap.size ∧ ∀ i v, vs[i]? = some v → w.cell? ⟨g, i, none⟩ = some v ∧ w.frozen? ⟨g, i, none⟩ = false
section
variable {w w' : World} {g g' : Nat} {vs us : List Value}
theorem At.lt (h : At w g vs) : g < w.heap.size := h.1
theorem At.c (h : At w g vs) (i : Nat) {v : Value} (hv : vs[i]? = some v) : w.cell? ⟨g, i, none⟩ = some v := (h.2 i v hv).1
theorem At.f (h : At w g vs) (i : Nat) {v : Value} (hv : vs[i]? = some v) : w.frozen? ⟨g, i, none⟩ = false := (h.2 i v hv).2
theorem At.e (h : At w g vs) (i : Nat) {v : Value} (hv : vs[i]? = some v) : ∀ W, KB w.heap W → W.cell? ⟨g, i, none⟩ = some v := cellB (h.c i hv)
theorem At.belowB {B : Nat} (h : At w g vs) (hg : g < B) (hb : Below B w w') (hs : w.heap.size ≤ w'.heap.size) : At w' g vs :=
 ⟨Nat.lt_of_lt_of_le h.1 hs, fun i v hv => ⟨(hb.cell hg).trans (h.c i hv), (hb.frozen hg).trans (h.f i hv)⟩⟩
theorem At.below (h : At w g vs) (hb : Below w.heap.size w w') : At w' g vs := h.belowB h.1 hb hb.size
theorem At.drew (h : At w g vs) : At w.drew g vs := h
theorem At.alloc (h : At w g vs) (o : Obj) : At (w.alloc o) g vs := h.below (balloc (Below.refl _ _) o)
theorem At.new (w : World) (t : TypeId) (cs : Array Value) : At (w.alloc (.cells cs t)) w.heap.size cs.toList := by
 refine ⟨by simp, fun i v hv => ?_⟩
 obtain ⟨b, o, e, _, _, h⟩ := (Sl.new w t cs (0, 0)).at_ (k := i) (List.getElem?_eq_some_iff.1 hv).1
 cases e
 have := h i v hv
 rw [Nat.zero_add] at this
 exact ⟨this, by rw [frozen?_alloc_cells]; simp [World.frozen?]⟩
theorem At.set_other (h : At w g vs) (o : Nat) (v : Value) (hne : g' ≠ g) : At (w.setCell ⟨g', o, none⟩ v) g vs := by
 refine ⟨by simpa using h.1, fun i u hu => ⟨?_, ?_⟩⟩
 ·rw [World.cell?_setCell_other _ _ _ _ (by intro e; injection e with e1 _; exact hne e1)]
  exact h.c i hu
 ·have : (w.setCell ⟨g', o, none⟩ v).frozen? ⟨g, i, none⟩ = w.frozen? ⟨g, i, none⟩ := World.frozen?_setCells g' [v] o w _
  rw [this]; exact h.f i hu
theorem At.set (h : At w g vs) (o : Nat) (v : Value) (ho : o < vs.length) : At (w.setCell ⟨g, o, none⟩ v) g (vs.set o v) := by
 have hf : ∀ x, (w.setCell ⟨g, o, none⟩ v).frozen? x = w.frozen? x := fun x => World.frozen?_setCells g [v] o w x
 refine ⟨by simpa using h.1, fun i u hu => ?_⟩
 by_cases hi : o = i
 ·subst hi
  rw [List.getElem?_set_self ho] at hu
  cases hu
  refine ⟨World.cell?_setCell_same _ _ _ (h.c o (List.getElem?_eq_getElem ho)), ?_⟩
  rw [hf]; exact h.f o (List.getElem?_eq_getElem ho)
 ·rw [List.getElem?_set_ne hi] at hu
  refine ⟨?_, by rw [hf]; exact h.f i hu⟩
  rw [World.cell?_setCell_other _ _ _ _ (by intro e; injection e with _ e2; exact hi e2)]
  exact h.c i hu
/-- cells stored one behind another -/
def putL (w : World) (g : Nat) : Nat → List Value → World
 | _, [] => w
 | i, v :: vs => putL (w.setCell ⟨g, i, none⟩ v) g (i + 1) vs
theorem At.grown (h : At w g vs) {row : Option Nat} (hg : w.grownBy w' row) (hne : row ≠ some g) : At w' g vs := by
 have hb := hg.block g h.1 (fun e => hne e.symm)
 exact ⟨Nat.lt_of_lt_of_le h.1 hg.size, fun i v hv => ⟨(World.cell?_of_block (w := w) hb).trans (h.c i hv), (World.frozen?_of_block (w := w) hb).trans (h.f i hv)⟩⟩
end
theorem At.sl {w : World} {g : Nat} {vs : List Value} (h : At w g vs) : Sl w w.heap.size (some ⟨g, 0, none⟩) vs := by
 refine .inr ⟨g, 0, rfl, h.1, h.1, fun j u hu => ?_⟩
 rw [Nat.zero_add]
 exact h.c j hu
end Go.Proofs.YtaflikgdlkaefaaGreat
/- A region that draws its order, held by whatever is said of memory. -/
namespace Go.Proofs.YtaflikgdlkaefaaGreat
open Go.RowKit

def AtS (g : Nat) (vs : List Value) (W : World) : Prop := At W g vs
theorem AtS.e {g : Nat} {vs : List Value} (i : Nat) {v : Value} (hv : vs[i]? = some v) : ∀ W, AtS g vs W → W.cell? ⟨g, i, none⟩ = some v := fun _ h => h.c i hv
def wpS (P : Program) (ops : Array Oper) (Q : Exit → Act → World → Prop) (S : World → Prop) (fuel : Nat) (listed : Array Bool) (a : Act) (w : World) : Prop := wpAnyH P .any ops Q S fuel listed a w
section
variable {P : Program} {ops : Array Oper} {Q : Exit → Act → World → Prop}
theorem bstartS (S : World → Prop) {id : Nat} {a : Act} {w : World} (hm : P.follows .mixedOrders = true) (hh : wpS P ops Q S ops.size (Array.replicate ops.size false) a w.drew) : (Code.region id ops true).wp P Q a w := wp_region_held hm hh
theorem btakeS (i : Nat) {oi : Oper} {v : Value} {S : World → Prop} {fuel : Nat} {listed : Array Bool} {a : Act} {w : World} (hi : ops[i]? = some oi) (hok : okTake ops listed i = true)
  (hQ : ∀ c a w, Q (.panic c) (a.put oi.dst v) w → Q (.panic c) a w) (hS : S w)
  (hy : (Region.wanted oi (yielded ops a.tmps) = true ∧ ∀ W, S W → (execOp a.eval oi).run P W = .ok (.value v) W) ∨ (Region.wanted oi (yielded ops a.tmps) = false ∧ v = undef))
  (hr : wpS P ops Q S fuel (listed.setIfInBounds i true) (a.put oi.dst v) w) : wpS P ops Q S (fuel + 1) listed a w := by
 simp only [okTake, Bool.and_eq_true] at hok
 exact wpAnyH_take hi hok.1.1 hok.1.2 hok.2 hQ hy hS hr
theorem bopS (i : Nat) {o : Oper} {S : World → Prop} {fuel : Nat} {listed : Array Bool} {a : Act} {w : World} (hi : ops[i]? = some o) (hok : okOp ops listed i = true)
  (hw : Region.wanted o (yielded ops a.tmps) = true)
  (hr : ∀ K : Act → World → Prop, Shut (∀ a' w', S w' → wpS P ops Q S fuel (listed.setIfInBounds i true) a' w' → K a' w') → o.wp P a w K Q) : wpS P ops Q S (fuel + 1) listed a w := by
 have hok' : Region.ready .any ops listed = [i] := by simpa [okOp] using hok
 refine wpAnyH_all hok' (by simp) fun j hj => ?_
 obtain rfl : j = i := by simpa using hj
 unfold wpOp
 simp only [hi, hw, if_true]
 exact .inl (hr _ (fun a' w' hk hb => ⟨hk, hb⟩))
theorem bdoneS {S : World → Prop} {fuel : Nat} {listed : Array Bool} {a : Act} {w : World} (hr : Region.ready .any ops listed = []) (hq : Q .normal a w) : wpS P ops Q S fuel listed a w := wpAnyH_done hr hq fuel
end
end Go.Proofs.YtaflikgdlkaefaaGreat
/- Ranges: put, a range behind others. -/
namespace Go.Proofs.YtaflikgdlkaefaaGreat
open Go.RowKit Go.Proofs.YtaflikgdlkaefaaGreat.Pl Go.Proofs.YtaflikgdlkaefaaGreat.Sp
set_option maxRecDepth 20000

theorem rv_set_last (p : List Rg) (x : Rg) (z : Int) : (rv (p ++ [x])).set (p.length * 2 + 1) (.int .i64 z) = rv (p ++ [⟨x.a, z⟩]) := by
 rw [rv_append, rv_append, List.set_append, if_neg (by rw [rv_len]; omega), rv_len, show p.length * 2 + 1 - p.length * 2 = 1 by omega]
 rfl
theorem OwnR.setLast {w : World} {base g n cap : Nat} {p : List Rg} {x : Rg} (h : OwnR w base (.slice (some ⟨g, 0, none⟩) n cap) (p ++ [x])) (z : Int) :
  OwnR (w.setCell ⟨g, p.length * 2 + 1, none⟩ (.int .i64 z)) base (.slice (some ⟨g, 0, none⟩) n cap) (p ++ [⟨x.a, z⟩]) ∧ w.grownBy (w.setCell ⟨g, p.length * 2 + 1, none⟩ (.int .i64 z)) (some g) := by
 have hn : n = (p ++ [x]).length := by
  rcases h.2 with ⟨h', _⟩ | ⟨_, _, _, h', _⟩
  ·simp at h'
  ·simp only [Value.slice.injEq] at h'; exact h'.2.1
 subst hn
 have := h.stored (p.length * 2 + 1) (.int .i64 z)
 rw [rv_set_last] at this
 have e : (p ++ [x]).length = (p ++ [(⟨x.a, z⟩ : Rg)]).length := by simp
 refine ⟨?_, this.2⟩
 have h1 := this.1
 simp only [OwnR, ← e]
 exact h1
theorem OwnR.row2n {w : World} {base g c n : Nat} {l : List Rg} (h : OwnR w base (.slice (some ⟨g, 0, none⟩) n c) l) : RowR w g l := by
 have hn : n = l.length := by
  rcases h.2 with ⟨h', _⟩ | ⟨_, _, _, h', _⟩
  ·simp at h'
  ·simp only [Value.slice.injEq] at h'; exact h'.2.1
 subst hn
 exact h.row2
theorem putR_snoc (p : List Rg) (x r : Rg) : putR (p ++ [x]) r = if r.a ≤ x.b + 1 then p ++ [⟨x.a, max x.b r.b⟩] else (p ++ [x]) ++ [r] := by
 unfold putR
 simp
theorem putR_nil (r : Rg) : putR [] r = [r] := rfl
theorem boxR (w : World) (r : Rg) : Below w.heap.size w (w.alloc (.cells #[.int .i64 r.a, .int .i64 r.b] 58)) := balloc (Below.refl _ _) _
set_option maxRecDepth 100000 in
set_option maxHeartbeats 3200000 in
theorem RgPut_any (W0 w : World) (v : Value) (o : List Rg) (r : Rg) (hown : OwnR w W0.heap.size v o) (hW : Below W0.heap.size W0 w) (ho : ∀ x, o.getLast? = some x → 1 ≤ x.b ∧ x.b ≤ 1099511627775) (hl : o.length < 1000000000) :
  Calls Tryz.prog 85 #[v, r.v] w fun e w' => ∃ v', e = .returned v' ∧ OwnR w' W0.heap.size v' (putR o r) ∧ Below W0.heap.size W0 w' := by
 unfold Rg.v
 have hbw := hW.size
 have hsp : o = [] ∨ ∃ p x, o = p ++ [x] := by
  rcases List.eq_nil_or_concat o with h | ⟨p, x, h⟩
  ·exact .inl h
  ·exact .inr ⟨p, x, by rw [h, List.concat_eq_append]⟩
 rcases hsp with rfl | ⟨p, x, rfl⟩
 ·have hq := putR_nil r
  generalize putR [] r = q at *
  subst hq
  obtain ⟨A, c, rfl, h1, h2, h3, _⟩ := hown.form
  have HQ := Lib.hid (putR_nil r)
  have hown1 := hown.below (boxR w r)
  have hbox := StandsR.new w 58 r
  have hW1 := balloc hW (.cells #[.int .i64 r.a, .int .i64 r.b] 58)
  go_enter Tryz.func85, Tryz.ntmps85
  go_wp2_with fail
  refine bstart (by kernel_rfl) ?_
  refine btake 0 (oi := _) (v := ?_) (by simp only [List.getElem?_toArray, List.getElem?_cons_zero]; rfl) (by kernel_rfl) (by exact fun _ _ _ h => h) (by first | assumption | exact KB.refl _) (.inl ⟨by rfl, fun W hW => ?_⟩) ?_; rotate_left
  ·(go_simp; first | done | with_reducible rfl)
  try simp only [Act.put, List.setIfInBounds_toArray, List.set_cons_zero, List.set_cons_succ]
  refine btake 1 (oi := _) (v := ?_) (by simp only [getElem?_toArray, getElem?_cons_succ, getElem?_cons_zero]; rfl) (by kernel_rfl) (by exact fun _ _ _ h => h) (by first | assumption | exact KB.refl _) (.inl ⟨by rfl, fun W hW => ?_⟩) ?_; rotate_left
  ·(go_simp; first | done | with_reducible rfl)
  try simp only [Act.put, List.setIfInBounds_toArray, List.set_cons_zero, List.set_cons_succ]
  refine btake 2 (oi := _) (v := ?_) (by simp only [getElem?_toArray, getElem?_cons_succ, getElem?_cons_zero]; rfl) (by kernel_rfl) (by exact fun _ _ _ h => h) (by first | assumption | exact KB.refl _) (.inl ⟨by rfl, fun W hW => ?_⟩) ?_; rotate_left
  ·(go_simp; first | done | with_reducible rfl)
  try simp only [Act.put, List.setIfInBounds_toArray, List.set_cons_zero, List.set_cons_succ]
  refine btake 3 (oi := _) (v := undef) (by simp only [getElem?_toArray, getElem?_cons_succ, getElem?_cons_zero]; rfl) (by kernel_rfl) (by exact fun _ _ _ h => h) (by first | assumption | exact KB.refl _) (.inr ⟨by rfl, rfl⟩) ?_
  try simp only [Act.put, List.setIfInBounds_toArray, List.set_cons_zero, List.set_cons_succ]
  refine btake 4 (oi := _) (v := undef) (by simp only [getElem?_toArray, getElem?_cons_succ, getElem?_cons_zero]; rfl) (by kernel_rfl) (by exact fun _ _ _ h => h) (by first | assumption | exact KB.refl _) (.inr ⟨by rfl, rfl⟩) ?_
  try simp only [Act.put, List.setIfInBounds_toArray, List.set_cons_zero, List.set_cons_succ]
  refine btake 5 (oi := _) (v := undef) (by simp only [getElem?_toArray, getElem?_cons_succ, getElem?_cons_zero]; rfl) (by kernel_rfl) (by exact fun _ _ _ h => h) (by first | assumption | exact KB.refl _) (.inr ⟨by rfl, rfl⟩) ?_
  try simp only [Act.put, List.setIfInBounds_toArray, List.set_cons_zero, List.set_cons_succ]
  refine btake 6 (oi := _) (v := undef) (by simp only [getElem?_toArray, getElem?_cons_succ, getElem?_cons_zero]; rfl) (by kernel_rfl) (by exact fun _ _ _ h => h) (by first | assumption | exact KB.refl _) (.inr ⟨by rfl, rfl⟩) ?_
  try simp only [Act.put, List.setIfInBounds_toArray, List.set_cons_zero, List.set_cons_succ]
  refine btake 7 (oi := _) (v := undef) (by simp only [getElem?_toArray, getElem?_cons_succ, getElem?_cons_zero]; rfl) (by kernel_rfl) (by exact fun _ _ _ h => h) (by first | assumption | exact KB.refl _) (.inr ⟨by rfl, rfl⟩) ?_
  try simp only [Act.put, List.setIfInBounds_toArray, List.set_cons_zero, List.set_cons_succ]
  refine btake 8 (oi := _) (v := undef) (by simp only [getElem?_toArray, getElem?_cons_succ, getElem?_cons_zero]; rfl) (by kernel_rfl) (by exact fun _ _ _ h => h) (by first | assumption | exact KB.refl _) (.inr ⟨by rfl, rfl⟩) ?_
  try simp only [Act.put, List.setIfInBounds_toArray, List.set_cons_zero, List.set_cons_succ]
  refine btake 9 (oi := _) (v := undef) (by simp only [getElem?_toArray, getElem?_cons_succ, getElem?_cons_zero]; rfl) (by kernel_rfl) (by exact fun _ _ _ h => h) (by first | assumption | exact KB.refl _) (.inr ⟨by rfl, rfl⟩) ?_
  try simp only [Act.put, List.setIfInBounds_toArray, List.set_cons_zero, List.set_cons_succ]
  refine btake 10 (oi := _) (v := undef) (by simp only [getElem?_toArray, getElem?_cons_succ, getElem?_cons_zero]; rfl) (by kernel_rfl) (by exact fun _ _ _ h => h) (by first | assumption | exact KB.refl _) (.inr ⟨by rfl, rfl⟩) ?_
  try simp only [Act.put, List.setIfInBounds_toArray, List.set_cons_zero, List.set_cons_succ]
  refine btake 11 (oi := _) (v := undef) (by simp only [getElem?_toArray, getElem?_cons_succ, getElem?_cons_zero]; rfl) (by kernel_rfl) (by exact fun _ _ _ h => h) (by first | assumption | exact KB.refl _) (.inr ⟨by rfl, rfl⟩) ?_
  try simp only [Act.put, List.setIfInBounds_toArray, List.set_cons_zero, List.set_cons_succ]
  refine btake 12 (oi := _) (v := undef) (by simp only [getElem?_toArray, getElem?_cons_succ, getElem?_cons_zero]; rfl) (by kernel_rfl) (by exact fun _ _ _ h => h) (by first | assumption | exact KB.refl _) (.inr ⟨by rfl, rfl⟩) ?_
  try simp only [Act.put, List.setIfInBounds_toArray, List.set_cons_zero, List.set_cons_succ]
  refine btake 13 (oi := _) (v := ?_) (by simp only [getElem?_toArray, getElem?_cons_succ, getElem?_cons_zero]; rfl) (by kernel_rfl) (by exact fun _ _ _ h => h) (by first | assumption | exact KB.refl _) (.inl ⟨by rfl, fun W hW => ?_⟩) ?_; rotate_left
  ·(go_simp; first | done | with_reducible rfl)
  try simp only [Act.put, List.setIfInBounds_toArray, List.set_cons_zero, List.set_cons_succ]
  refine bdone (by kernel_rfl) ?_
  have hst2 := hbox.below (Below.refl _ _).drew
  have how2 := hown1.below (Below.refl _ _).drew
  have hbz := hW1.drew
  generalize (w.alloc (.cells #[.int .i64 r.a, .int .i64 r.b] 58)).drew = wz at hst2 how2 hbz ⊢
  clear hown hown1 hbox hW1
  have m0 := hst2.2.1
  have m1 := hst2.2.2.1
  have how3 := how2.below (balloc (Below.refl _ _) (.cells #[.int .i64 r.a, .int .i64 r.b] 58))
  have hbz3 := hbz.alloc hbz.size (.cells #[.int .i64 r.a, .int .i64 r.b] 58)
  have hSl : Sl (wz.alloc (.cells #[.int .i64 r.a, .int .i64 r.b] 58)) (wz.heap.size + 1) (some ⟨wz.heap.size, 0, none⟩) (rv [r]) := Sl.new wz 58 #[.int .i64 r.a, .int .i64 r.b] (0, 0)
  clear hst2 how2
  go_wp2_with (at_builtin; refine appR rfl rfl how3 hSl rfl rfl rfl (by first | (have := HL.out; rw [this.2, List.length_singleton]; omega) | simp) hbz3.size ?_; intro v7 w7 h7 hg7 hat7)
  go_ret
  exact ⟨v7, rfl, by first | exact h7 | (rw [HQ.out]; exact h7), own_belowR hbz3 hbz3.size how3 hg7⟩
 ·obtain ⟨hx1, hx2⟩ := ho x (by simp)
  obtain ⟨g, cap, hv, hg1, hg2, hcp, hcm⟩ := hown.head (by simp)
  have hnl : (p ++ [x]).length = p.length + 1 := by simp
  rw [hnl] at hv hcp
  subst hv
  have hown1 := hown.below (boxR w r)
  have hbox := StandsR.new w 58 r
  have hW1 := balloc hW (.cells #[.int .i64 r.a, .int .i64 r.b] 58)
  have hq := putR_snoc p x r
  obtain ⟨c0, c1, f0, f1⟩ := hown1.row2n.2 p.length (by simp)
  rw [show (p ++ [x])[p.length]?.getD ⟨0, 0⟩ = x by simp] at c0 c1
  have m0 := hbox.2.1
  have m1 := hbox.2.2.1
  have w1' : IntKind.i64.wrap (x.b + 1) = x.b + 1 := by rw [IntKind.wrap_i64]; omega
  have w2' : IntKind.i64.wrap (p.length : Int) = (p.length : Int) := by rw [IntKind.wrap_i64]; simp at hl; omega
  have d1 : decide ((0 : Int) < (p.length : Int) + 1) = true := by rw [decide_eq_true_eq]; omega
  have n0 : (0 : Int) ≤ (p.length : Int) := by omega
  have n1 : (p.length : Int) < (p.length : Int) + 1 := by omega
  have HL := Lib.hid (And.intro hl hnl)
  clear hl hnl
  have q0 := cellB m0
  have q1 := cellB m1
  have q2 := cellB c1
  by_cases hc : r.a ≤ x.b + 1
  ·have d2 : decide (r.a ≤ x.b + 1) = true := by rw [decide_eq_true_eq]; exact hc
   rw [if_pos hc] at hq
   have HQ := Lib.hid hq
   clear hq hc ho
   go_enter Tryz.func85, Tryz.ntmps85
   go_wp2_with fail
   refine bstart (by kernel_rfl) ?_
   refine btake 0 (oi := _) (v := ?_) (by simp only [List.getElem?_toArray, List.getElem?_cons_zero]; rfl) (by kernel_rfl) (by exact fun _ _ _ h => h) (by first | assumption | exact KB.refl _) (.inl ⟨by rfl, fun W hW => ?_⟩) ?_; rotate_left
   ·(go_simp; first | done | with_reducible rfl)
   try simp only [Act.put, List.setIfInBounds_toArray, List.set_cons_zero, List.set_cons_succ]
   refine btake 1 (oi := _) (v := ?_) (by simp only [getElem?_toArray, getElem?_cons_succ, getElem?_cons_zero]; rfl) (by kernel_rfl) (by exact fun _ _ _ h => h) (by first | assumption | exact KB.refl _) (.inl ⟨by rfl, fun W hW => ?_⟩) ?_; rotate_left
   ·(go_simp; first | done | with_reducible rfl)
   try simp only [Act.put, List.setIfInBounds_toArray, List.set_cons_zero, List.set_cons_succ]
   refine btake 2 (oi := _) (v := ?_) (by simp only [getElem?_toArray, getElem?_cons_succ, getElem?_cons_zero]; rfl) (by kernel_rfl) (by exact fun _ _ _ h => h) (by first | assumption | exact KB.refl _) (.inl ⟨by rfl, fun W hW => ?_⟩) ?_; rotate_left
   ·(go_simp; first | done | with_reducible rfl)
   try simp only [Act.put, List.setIfInBounds_toArray, List.set_cons_zero, List.set_cons_succ]
   refine btake 3 (oi := _) (v := ?_) (by simp only [getElem?_toArray, getElem?_cons_succ, getElem?_cons_zero]; rfl) (by kernel_rfl) (by exact fun _ _ _ h => h) (by first | assumption | exact KB.refl _) (.inl ⟨by rfl, fun W hW => ?_⟩) ?_; rotate_left
   ·(go_simp; first | done | with_reducible rfl)
   try simp only [Act.put, List.setIfInBounds_toArray, List.set_cons_zero, List.set_cons_succ]
   refine btake 4 (oi := _) (v := ?_) (by simp only [getElem?_toArray, getElem?_cons_succ, getElem?_cons_zero]; rfl) (by kernel_rfl) (by exact fun _ _ _ h => h) (by first | assumption | exact KB.refl _) (.inl ⟨by rfl, fun W hW => ?_⟩) ?_; rotate_left
   ·(go_simp; first | done | with_reducible rfl)
   try simp only [Act.put, List.setIfInBounds_toArray, List.set_cons_zero, List.set_cons_succ]
   refine btake 5 (oi := _) (v := ?_) (by simp only [getElem?_toArray, getElem?_cons_succ, getElem?_cons_zero]; rfl) (by kernel_rfl) (by exact fun _ _ _ h => h) (by first | assumption | exact KB.refl _) (.inl ⟨by rfl, fun W hW => ?_⟩) ?_; rotate_left
   ·(go_simp; first | done | with_reducible rfl)
   try simp only [Act.put, List.setIfInBounds_toArray, List.set_cons_zero, List.set_cons_succ]
   refine btake 6 (oi := _) (v := ?_) (by simp only [getElem?_toArray, getElem?_cons_succ, getElem?_cons_zero]; rfl) (by kernel_rfl) (by exact fun _ _ _ h => h) (by first | assumption | exact KB.refl _) (.inl ⟨by rfl, fun W hW => ?_⟩) ?_; rotate_left
   ·(go_simp; first | done | with_reducible rfl)
   try simp only [Act.put, List.setIfInBounds_toArray, List.set_cons_zero, List.set_cons_succ]
   refine btake 7 (oi := _) (v := ?_) (by simp only [getElem?_toArray, getElem?_cons_succ, getElem?_cons_zero]; rfl) (by kernel_rfl) (by exact fun _ _ _ h => h) (by first | assumption | exact KB.refl _) (.inl ⟨by rfl, fun W hW => ?_⟩) ?_; rotate_left
   ·(go_simp; first | done | with_reducible rfl)
   try simp only [Act.put, List.setIfInBounds_toArray, List.set_cons_zero, List.set_cons_succ]
   refine btake 8 (oi := _) (v := ?_) (by simp only [getElem?_toArray, getElem?_cons_succ, getElem?_cons_zero]; rfl) (by kernel_rfl) (by exact fun _ _ _ h => h) (by first | assumption | exact KB.refl _) (.inl ⟨by rfl, fun W hW => ?_⟩) ?_; rotate_left
   ·(go_simp; first | done | with_reducible rfl)
   try simp only [Act.put, List.setIfInBounds_toArray, List.set_cons_zero, List.set_cons_succ]
   refine btake 9 (oi := _) (v := ?_) (by simp only [getElem?_toArray, getElem?_cons_succ, getElem?_cons_zero]; rfl) (by kernel_rfl) (by exact fun _ _ _ h => h) (by first | assumption | exact KB.refl _) (.inl ⟨by rfl, fun W hW => ?_⟩) ?_; rotate_left
   ·(go_simp; first | done | with_reducible rfl)
   try simp only [Act.put, List.setIfInBounds_toArray, List.set_cons_zero, List.set_cons_succ]
   refine btake 10 (oi := _) (v := ?_) (by simp only [getElem?_toArray, getElem?_cons_succ, getElem?_cons_zero]; rfl) (by kernel_rfl) (by exact fun _ _ _ h => h) (by first | assumption | exact KB.refl _) (.inl ⟨by rfl, fun W hW => ?_⟩) ?_; rotate_left
   ·(go_simp; first | done | with_reducible rfl)
   try simp only [Act.put, List.setIfInBounds_toArray, List.set_cons_zero, List.set_cons_succ]
   refine btake 11 (oi := _) (v := ?_) (by simp only [getElem?_toArray, getElem?_cons_succ, getElem?_cons_zero]; rfl) (by kernel_rfl) (by exact fun _ _ _ h => h) (by first | assumption | exact KB.refl _) (.inl ⟨by rfl, fun W hW => ?_⟩) ?_; rotate_left
   ·(go_simp; first | done | with_reducible rfl)
   try simp only [Act.put, List.setIfInBounds_toArray, List.set_cons_zero, List.set_cons_succ]
   refine btake 12 (oi := _) (v := ?_) (by simp only [getElem?_toArray, getElem?_cons_succ, getElem?_cons_zero]; rfl) (by kernel_rfl) (by exact fun _ _ _ h => h) (by first | assumption | exact KB.refl _) (.inl ⟨by rfl, fun W hW => ?_⟩) ?_; rotate_left
   ·(go_simp; first | done | with_reducible rfl)
   try simp only [Act.put, List.setIfInBounds_toArray, List.set_cons_zero, List.set_cons_succ]
   refine btake 13 (oi := _) (v := ?_) (by simp only [getElem?_toArray, getElem?_cons_succ, getElem?_cons_zero]; rfl) (by kernel_rfl) (by exact fun _ _ _ h => h) (by first | assumption | exact KB.refl _) (.inl ⟨by rfl, fun W hW => ?_⟩) ?_; rotate_left
   ·(go_simp; first | done | with_reducible rfl)
   try simp only [Act.put, List.setIfInBounds_toArray, List.set_cons_zero, List.set_cons_succ]
   refine bdone (by kernel_rfl) ?_
   have hA := (At.new w 58 #[.int .i64 r.a, .int .i64 r.b]).drew
   have how2 := hown1.below (Below.refl _ _).drew
   have hbz := hW1.drew
   have hgb : g ≠ w.heap.size := by omega
   generalize (w.alloc (.cells #[.int .i64 r.a, .int .i64 r.b] 58)).drew = w1 at hA how2 hbz ⊢
   generalize w.heap.size = gb at hA hgb ⊢
   clear hown hown1 hbox hW1 m0 m1 q0 q1 q2 c0 c1 f0 f1
   obtain ⟨c0, c1, f0, f1⟩ := how2.row2n.2 p.length (by simp)
   rw [show (p ++ [x])[p.length]?.getD ⟨0, 0⟩ = x by simp] at c0 c1
   have hS0 : AtS gb [.int .i64 r.a, .int .i64 r.b] w1.drew := hA.drew
   have e1 := AtS.e (g := gb) (vs := [.int .i64 r.a, .int .i64 r.b]) 1 rfl
   obtain ⟨z, hz⟩ : ∃ z, (if x.b < r.b then r.b else x.b) = z := ⟨_, rfl⟩
   have HZ := Lib.hid (show max x.b r.b = z by rw [← hz]; split <;> omega)
   obtain ⟨hst, hgr⟩ := how2.setLast z
   go_wp2_with fail
   refine bstartS (AtS gb [.int .i64 r.a, .int .i64 r.b]) (by kernel_rfl) ?_
   refine btakeS 0 (oi := _) (v := ?_) (by simp only [List.getElem?_toArray, List.getElem?_cons_zero]; rfl) (by kernel_rfl) (by exact fun _ _ _ h => h) (by first | assumption | exact KB.refl _) (.inl ⟨by rfl, fun W hW => ?_⟩) ?_; rotate_left
   ·(go_simp; first | done | with_reducible rfl)
   try simp only [Act.put, List.setIfInBounds_toArray, List.set_cons_zero, List.set_cons_succ]
   refine btakeS 1 (oi := _) (v := ?_) (by simp only [getElem?_toArray, getElem?_cons_succ, getElem?_cons_zero]; rfl) (by kernel_rfl) (by exact fun _ _ _ h => h) (by first | assumption | exact KB.refl _) (.inl ⟨by rfl, fun W hW => ?_⟩) ?_; rotate_left
   ·(go_simp; first | done | with_reducible rfl)
   try simp only [Act.put, List.setIfInBounds_toArray, List.set_cons_zero, List.set_cons_succ]
   refine btakeS 2 (oi := _) (v := ?_) (by simp only [getElem?_toArray, getElem?_cons_succ, getElem?_cons_zero]; rfl) (by kernel_rfl) (by exact fun _ _ _ h => h) (by first | assumption | exact KB.refl _) (.inl ⟨by rfl, fun W hW => ?_⟩) ?_; rotate_left
   ·(go_simp; first | done | with_reducible rfl)
   try simp only [Act.put, List.setIfInBounds_toArray, List.set_cons_zero, List.set_cons_succ]
   refine btakeS 3 (oi := _) (v := ?_) (by simp only [getElem?_toArray, getElem?_cons_succ, getElem?_cons_zero]; rfl) (by kernel_rfl) (by exact fun _ _ _ h => h) (by first | assumption | exact KB.refl _) (.inl ⟨by rfl, fun W hW => ?_⟩) ?_; rotate_left
   ·(go_simp; first | done | with_reducible rfl)
   try simp only [Act.put, List.setIfInBounds_toArray, List.set_cons_zero, List.set_cons_succ]
   refine btakeS 4 (oi := _) (v := ?_) (by simp only [getElem?_toArray, getElem?_cons_succ, getElem?_cons_zero]; rfl) (by kernel_rfl) (by exact fun _ _ _ h => h) (by first | assumption | exact KB.refl _) (.inl ⟨by rfl, fun W hW => ?_⟩) ?_; rotate_left
   ·(go_simp; first | done | with_reducible rfl)
   try simp only [Act.put, List.setIfInBounds_toArray, List.set_cons_zero, List.set_cons_succ]
   refine btakeS 5 (oi := _) (v := ?_) (by simp only [getElem?_toArray, getElem?_cons_succ, getElem?_cons_zero]; rfl) (by kernel_rfl) (by exact fun _ _ _ h => h) (by first | assumption | exact KB.refl _) (.inl ⟨by rfl, fun W hW => ?_⟩) ?_; rotate_left
   ·(go_simp; first | done | with_reducible rfl)
   try simp only [Act.put, List.setIfInBounds_toArray, List.set_cons_zero, List.set_cons_succ]
   refine btakeS 6 (oi := _) (v := ?_) (by simp only [getElem?_toArray, getElem?_cons_succ, getElem?_cons_zero]; rfl) (by kernel_rfl) (by exact fun _ _ _ h => h) (by first | assumption | exact KB.refl _) (.inl ⟨by rfl, fun W hW => ?_⟩) ?_; rotate_left
   ·(go_simp; first | done | with_reducible rfl)
   try simp only [Act.put, List.setIfInBounds_toArray, List.set_cons_zero, List.set_cons_succ]
   refine btakeS 7 (oi := _) (v := ?_) (by simp only [getElem?_toArray, getElem?_cons_succ, getElem?_cons_zero]; rfl) (by kernel_rfl) (by exact fun _ _ _ h => h) (by first | assumption | exact KB.refl _) (.inl ⟨by rfl, fun W hW => ?_⟩) ?_; rotate_left
   ·(go_simp; first | done | with_reducible rfl)
   try simp only [Act.put, List.setIfInBounds_toArray, List.set_cons_zero, List.set_cons_succ]
   refine btakeS 9 (oi := _) (v := ?_) (by simp only [getElem?_toArray, getElem?_cons_succ, getElem?_cons_zero]; rfl) (by kernel_rfl) (by exact fun _ _ _ h => h) (by first | assumption | exact KB.refl _) (.inl ⟨by rfl, fun W hW => ?_⟩) ?_; rotate_left
   ·(go_simp; first | done | with_reducible rfl)
   try simp only [Act.put, List.setIfInBounds_toArray, List.set_cons_zero, List.set_cons_succ]
   refine btakeS 10 (oi := _) (v := ?_) (by simp only [getElem?_toArray, getElem?_cons_succ, getElem?_cons_zero]; rfl) (by kernel_rfl) (by exact fun _ _ _ h => h) (by first | assumption | exact KB.refl _) (.inl ⟨by rfl, fun W hW => ?_⟩) ?_; rotate_left
   ·(go_simp; first | done | with_reducible rfl)
   try simp only [Act.put, List.setIfInBounds_toArray, List.set_cons_zero, List.set_cons_succ]
   refine bopS 8 (o := _) (by simp only [getElem?_toArray, getElem?_cons_succ, getElem?_cons_zero]; rfl) (by kernel_rfl) (by rfl) (fun K hK => ?_)
   go_simp
   have hkb := hS0
   refine hK.out _ _ hkb ?_; clear hK K
   try simp only [Act.put, List.setIfInBounds_toArray, List.set_cons_zero, List.set_cons_succ]
   refine btakeS 11 (oi := _) (v := ?_) (by simp only [getElem?_toArray, getElem?_cons_succ, getElem?_cons_zero]; rfl) (by kernel_rfl) (by exact fun _ _ _ h => h) (by first | assumption | exact KB.refl _) (.inl ⟨by rfl, fun W hW => ?_⟩) ?_; rotate_left
   ·(go_simp; first | done | with_reducible rfl)
   try simp only [Act.put, List.setIfInBounds_toArray, List.set_cons_zero, List.set_cons_succ]
   refine btakeS 12 (oi := _) (v := ?_) (by simp only [getElem?_toArray, getElem?_cons_succ, getElem?_cons_zero]; rfl) (by kernel_rfl) (by exact fun _ _ _ h => h) (by first | assumption | exact KB.refl _) (.inl ⟨by rfl, fun W hW => ?_⟩) ?_; rotate_left
   ·(go_simp; first | done | with_reducible rfl)
   try simp only [Act.put, List.setIfInBounds_toArray, List.set_cons_zero, List.set_cons_succ]
   refine btakeS 13 (oi := _) (v := ?_) (by simp only [getElem?_toArray, getElem?_cons_succ, getElem?_cons_zero]; rfl) (by kernel_rfl) (by exact fun _ _ _ h => h) (by first | assumption | exact KB.refl _) (.inl ⟨by rfl, fun W hW => ?_⟩) ?_; rotate_left
   ·(go_simp; first | done | with_reducible rfl)
   try simp only [Act.put, List.setIfInBounds_toArray, List.set_cons_zero, List.set_cons_succ]
   refine bopS 14 (o := _) (by simp only [getElem?_toArray, getElem?_cons_succ, getElem?_cons_zero]; rfl) (by kernel_rfl) (by rfl) (fun K hK => ?_)
   go_simp
   have hkb : AtS gb [.int .i64 r.a, .int .i64 r.b] (w1.setCell ⟨g, p.length * 2 + 1, none⟩ (.int .i64 z)).drew := (At.set_other hA _ _ hgb).drew
   refine hK.out _ _ hkb ?_; clear hK K
   try simp only [Act.put, List.setIfInBounds_toArray, List.set_cons_zero, List.set_cons_succ]
   refine bdoneS (by kernel_rfl) ?_
   have hW3 := (hbz.trans (below_of_grown hgr (fun g' e => by cases e; exact hg1) hbz.size)).drew
   have hst3 := hst.below (Below.refl _ _).drew
   rw [show p ++ [⟨x.a, z⟩] = putR (p ++ [x]) r by rw [HQ.out, HZ.out]] at hst3
   clear hz hkb e1
   go_wp2_with fail
   go_ret
   exact ⟨_, rfl, hst3, hW3⟩
  ·have d2 : decide (r.a ≤ x.b + 1) = false := by rw [decide_eq_false_iff_not]; exact hc
   rw [if_neg hc] at hq
   have HQ := Lib.hid hq
   clear hq hc ho
   go_enter Tryz.func85, Tryz.ntmps85
   go_wp2_with fail
   refine bstart (by kernel_rfl) ?_
   refine btake 0 (oi := _) (v := ?_) (by simp only [List.getElem?_toArray, List.getElem?_cons_zero]; rfl) (by kernel_rfl) (by exact fun _ _ _ h => h) (by first | assumption | exact KB.refl _) (.inl ⟨by rfl, fun W hW => ?_⟩) ?_; rotate_left
   ·(go_simp; first | done | with_reducible rfl)
   try simp only [Act.put, List.setIfInBounds_toArray, List.set_cons_zero, List.set_cons_succ]
   refine btake 1 (oi := _) (v := ?_) (by simp only [getElem?_toArray, getElem?_cons_succ, getElem?_cons_zero]; rfl) (by kernel_rfl) (by exact fun _ _ _ h => h) (by first | assumption | exact KB.refl _) (.inl ⟨by rfl, fun W hW => ?_⟩) ?_; rotate_left
   ·(go_simp; first | done | with_reducible rfl)
   try simp only [Act.put, List.setIfInBounds_toArray, List.set_cons_zero, List.set_cons_succ]
   refine btake 2 (oi := _) (v := ?_) (by simp only [getElem?_toArray, getElem?_cons_succ, getElem?_cons_zero]; rfl) (by kernel_rfl) (by exact fun _ _ _ h => h) (by first | assumption | exact KB.refl _) (.inl ⟨by rfl, fun W hW => ?_⟩) ?_; rotate_left
   ·(go_simp; first | done | with_reducible rfl)
   try simp only [Act.put, List.setIfInBounds_toArray, List.set_cons_zero, List.set_cons_succ]
   refine btake 3 (oi := _) (v := ?_) (by simp only [getElem?_toArray, getElem?_cons_succ, getElem?_cons_zero]; rfl) (by kernel_rfl) (by exact fun _ _ _ h => h) (by first | assumption | exact KB.refl _) (.inl ⟨by rfl, fun W hW => ?_⟩) ?_; rotate_left
   ·(go_simp; first | done | with_reducible rfl)
   try simp only [Act.put, List.setIfInBounds_toArray, List.set_cons_zero, List.set_cons_succ]
   refine btake 4 (oi := _) (v := ?_) (by simp only [getElem?_toArray, getElem?_cons_succ, getElem?_cons_zero]; rfl) (by kernel_rfl) (by exact fun _ _ _ h => h) (by first | assumption | exact KB.refl _) (.inl ⟨by rfl, fun W hW => ?_⟩) ?_; rotate_left
   ·(go_simp; first | done | with_reducible rfl)
   try simp only [Act.put, List.setIfInBounds_toArray, List.set_cons_zero, List.set_cons_succ]
   refine btake 5 (oi := _) (v := ?_) (by simp only [getElem?_toArray, getElem?_cons_succ, getElem?_cons_zero]; rfl) (by kernel_rfl) (by exact fun _ _ _ h => h) (by first | assumption | exact KB.refl _) (.inl ⟨by rfl, fun W hW => ?_⟩) ?_; rotate_left
   ·(go_simp; first | done | with_reducible rfl)
   try simp only [Act.put, List.setIfInBounds_toArray, List.set_cons_zero, List.set_cons_succ]
   refine btake 6 (oi := _) (v := ?_) (by simp only [getElem?_toArray, getElem?_cons_succ, getElem?_cons_zero]; rfl) (by kernel_rfl) (by exact fun _ _ _ h => h) (by first | assumption | exact KB.refl _) (.inl ⟨by rfl, fun W hW => ?_⟩) ?_; rotate_left
   ·(go_simp; first | done | with_reducible rfl)
   try simp only [Act.put, List.setIfInBounds_toArray, List.set_cons_zero, List.set_cons_succ]
   refine btake 7 (oi := _) (v := ?_) (by simp only [getElem?_toArray, getElem?_cons_succ, getElem?_cons_zero]; rfl) (by kernel_rfl) (by exact fun _ _ _ h => h) (by first | assumption | exact KB.refl _) (.inl ⟨by rfl, fun W hW => ?_⟩) ?_; rotate_left
   ·(go_simp; first | done | with_reducible rfl)
   try simp only [Act.put, List.setIfInBounds_toArray, List.set_cons_zero, List.set_cons_succ]
   refine btake 8 (oi := _) (v := ?_) (by simp only [getElem?_toArray, getElem?_cons_succ, getElem?_cons_zero]; rfl) (by kernel_rfl) (by exact fun _ _ _ h => h) (by first | assumption | exact KB.refl _) (.inl ⟨by rfl, fun W hW => ?_⟩) ?_; rotate_left
   ·(go_simp; first | done | with_reducible rfl)
   try simp only [Act.put, List.setIfInBounds_toArray, List.set_cons_zero, List.set_cons_succ]
   refine btake 9 (oi := _) (v := ?_) (by simp only [getElem?_toArray, getElem?_cons_succ, getElem?_cons_zero]; rfl) (by kernel_rfl) (by exact fun _ _ _ h => h) (by first | assumption | exact KB.refl _) (.inl ⟨by rfl, fun W hW => ?_⟩) ?_; rotate_left
   ·(go_simp; first | done | with_reducible rfl)
   try simp only [Act.put, List.setIfInBounds_toArray, List.set_cons_zero, List.set_cons_succ]
   refine btake 10 (oi := _) (v := ?_) (by simp only [getElem?_toArray, getElem?_cons_succ, getElem?_cons_zero]; rfl) (by kernel_rfl) (by exact fun _ _ _ h => h) (by first | assumption | exact KB.refl _) (.inl ⟨by rfl, fun W hW => ?_⟩) ?_; rotate_left
   ·(go_simp; first | done | with_reducible rfl)
   try simp only [Act.put, List.setIfInBounds_toArray, List.set_cons_zero, List.set_cons_succ]
   refine btake 11 (oi := _) (v := ?_) (by simp only [getElem?_toArray, getElem?_cons_succ, getElem?_cons_zero]; rfl) (by kernel_rfl) (by exact fun _ _ _ h => h) (by first | assumption | exact KB.refl _) (.inl ⟨by rfl, fun W hW => ?_⟩) ?_; rotate_left
   ·(go_simp; first | done | with_reducible rfl)
   try simp only [Act.put, List.setIfInBounds_toArray, List.set_cons_zero, List.set_cons_succ]
   refine btake 12 (oi := _) (v := ?_) (by simp only [getElem?_toArray, getElem?_cons_succ, getElem?_cons_zero]; rfl) (by kernel_rfl) (by exact fun _ _ _ h => h) (by first | assumption | exact KB.refl _) (.inl ⟨by rfl, fun W hW => ?_⟩) ?_; rotate_left
   ·(go_simp; first | done | with_reducible rfl)
   try simp only [Act.put, List.setIfInBounds_toArray, List.set_cons_zero, List.set_cons_succ]
   refine btake 13 (oi := _) (v := ?_) (by simp only [getElem?_toArray, getElem?_cons_succ, getElem?_cons_zero]; rfl) (by kernel_rfl) (by exact fun _ _ _ h => h) (by first | assumption | exact KB.refl _) (.inl ⟨by rfl, fun W hW => ?_⟩) ?_; rotate_left
   ·(go_simp; first | done | with_reducible rfl)
   try simp only [Act.put, List.setIfInBounds_toArray, List.set_cons_zero, List.set_cons_succ]
   refine bdone (by kernel_rfl) ?_
   have hst2 := hbox.below (Below.refl _ _).drew
   have how2 := hown1.below (Below.refl _ _).drew
   have hbz := hW1.drew
   generalize (w.alloc (.cells #[.int .i64 r.a, .int .i64 r.b] 58)).drew = wz at hst2 how2 hbz ⊢
   clear hown hown1 hbox hW1
   have m0 := hst2.2.1
   have m1 := hst2.2.2.1
   have how3 := how2.below (balloc (Below.refl _ _) (.cells #[.int .i64 r.a, .int .i64 r.b] 58))
   have hbz3 := hbz.alloc hbz.size (.cells #[.int .i64 r.a, .int .i64 r.b] 58)
   have hSl : Sl (wz.alloc (.cells #[.int .i64 r.a, .int .i64 r.b] 58)) (wz.heap.size + 1) (some ⟨wz.heap.size, 0, none⟩) (rv [r]) := Sl.new wz 58 #[.int .i64 r.a, .int .i64 r.b] (0, 0)
   clear hst2 how2
   go_wp2_with (at_builtin; refine appR rfl rfl how3 hSl rfl rfl rfl (by first | (have := HL.out; rw [this.2, List.length_singleton]; omega) | simp) hbz3.size ?_; intro v7 w7 h7 hg7 hat7)
   go_ret
   exact ⟨v7, rfl, by first | exact h7 | (rw [HQ.out]; exact h7), own_belowR hbz3 hbz3.size how3 hg7⟩
end Go.Proofs.YtaflikgdlkaefaaGreat
/- cmp.Compare at int64. -/
namespace Go.Proofs.YtaflikgdlkaefaaGreat
open Go.RowKit Go.Sort
set_option maxRecDepth 20000

def cmp3 (a b : Int) : Int := if a < b then -1 else if b < a then 1 else 0
set_option maxRecDepth 100000 in
theorem isNaN_int64 (w : World) (a : Int) : Calls Tryz.prog 92 #[.int .i64 a] w fun e w' => e = .returned (.bool false) ∧ w = w' := by
 go_enter Tryz.func92, Tryz.ntmps92
 go_wp2_with fail
 go_ret
 exact ⟨rfl, rfl⟩
set_option maxRecDepth 100000 in
theorem Compare_int64 (w : World) (a b : Int) : Calls Tryz.prog 84 #[.int .i64 a, .int .i64 b] w fun e w' => e = .returned (.int .i64 (cmp3 a b)) ∧ w = w' := by
 go_enter Tryz.func84, Tryz.ntmps84
 go_wp2_with (go_at_call 92; refine (isNaN_int64 _ _).mono ?_; rintro e w' ⟨rfl, rfl⟩)
 all_goals
  go_ret
  refine ⟨ret_i ?_, rfl⟩
  unfold cmp3
  first | (rw [if_pos (by omega)]) | (rw [if_neg (by omega), if_pos (by omega)]) | (rw [if_neg (by omega), if_neg (by omega)])
def Grew (w w' : World) : Prop := ∃ q os', w' = grow (w.drewN q) os'
end Go.Proofs.YtaflikgdlkaefaaGreat
