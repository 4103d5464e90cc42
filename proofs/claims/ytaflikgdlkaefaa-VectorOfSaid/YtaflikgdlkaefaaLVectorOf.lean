/- A box that holds a vector is stored into: what is held stands. -/
import Derived.Lib.SmallJoins
import Derived.Deep.Slices
import Derived.Deep.Fields
import Derived.ChangeSame
import Derived.Test.YtaflikgdlkaefaaM00
import Derived.Test.YtaflikgdlkaefaaM11
import Derived.Test.YtaflikgdlkaefaaM12
import Derived.Test.YtaflikgdlkaefaaM13
import Derived.Test.YtaflikgdlkaefaaM16
import Derived.Test.YtaflikgdlkaefaaM17
import Derived.Test.YtaflikgdlkaefaaM18
import Derived.Test.YtaflikgdlkaefaaM19
open List (getElem?_toArray getElem?_cons_succ getElem?_cons_zero)
namespace Go.Proofs.Ytaflikgdlkaefaa
open Go.RowKit Go.Proofs.Ytaflikgdlkaefaa.Sp Go.Proofs.Ytaflikgdlkaefaa.Ve
set_option maxRecDepth 20000

theorem VH.box {m : Nat} {w : World} {g : Nat} {B : Option Addr} {k j : Nat} (hB : Bx w g (.slice B k j)) (v : Value) {A : Option Addr} {n c : Nat} {V : VL} (h : VH m w A n c V) : VH m (w.setCell ⟨g, 0, none⟩ v) A n c V := by
  obtain ⟨R, h, h2⟩ := h
  exact ⟨R, h.box hB v, h2⟩
theorem Sl.boxD {w : World} {g : Nat} {B : Option Addr} {k j : Nat} (hB : Bx w g (.slice B k j)) (v : Value) {A : Option Addr} {l : List Dt.D2} (h : Sl w w.heap.size A (dv l)) : Sl (w.setCell ⟨g, 0, none⟩ v) (w.setCell ⟨g, 0, none⟩ v).heap.size A (dv l) := by
  refine Sl.offB (grownS w g 0 v) h fun hl b o s e => ?_
  cases l with
  | nil => exact absurd rfl hl
  | cons q t => exact fun e' => Sl.apartB (u := .int .i64 q.r) (us := .int .i64 q.q :: dv t) hB h (fun _ _ _ e'' => by cases e'') e (Option.some.inj e').symm
theorem VH.add {m : Nat} {w : World} {A : Option Addr} {n c : Nat} {D : List Dt.D2} (h : VH m w A n c (ofV D)) (hm : m ≤ 10000) (r q : Int) :
    Calls Try.prog 26 #[.agg #[.slice A n c], .agg #[.int .i64 r, .int .i64 q]] w fun e w' => ∃ A4 n4 c4 R4, e = .returned (.agg #[.slice A4 n4 c4]) ∧ VS w' A4 n4 c4 R4 (addV (ofV D) ⟨r, q⟩) ∧ Below w.heap.size w w' := by
  obtain ⟨R, h, h1, h2, _⟩ := h
  refine (VAdd_own w A n c R (ofV D) h (by omega) (h2.mono (by omega)) ⟨r, q⟩).mono fun e w2 ha => ?_
  obtain ⟨A4, n4, c4, R4, e, hv, hb⟩ := ha.ans
  exact ⟨A4, n4, c4, R4, e, hv, hb⟩
end Go.Proofs.Ytaflikgdlkaefaa
/- Vectors: dots one by one, in whatever order. -/
namespace Go.Proofs.Ytaflikgdlkaefaa.Ve
open Go.Proofs.Ytaflikgdlkaefaa.Sp Go.Proofs.Ytaflikgdlkaefaa.Dt

theorem has_ofV (D : List D2) (z : D2) : hasV (ofV D) z = (z.right && decide (z ∈ D)) := by
  rw [hasV_right (ofV_right D), ofV_part, ofS_has]
  by_cases hz : z.right = true
  · rw [hz, Bool.true_and, Bool.true_and]
    have hq := right_iff.1 hz
    have hn : numOk z.q = true := by
      unfold numOk mx
      simp
      omega
    rw [hn, Bool.true_and, Bool.eq_iff_iff, List.contains_iff_mem, decide_eq_true_eq]
    unfold seqsOf
    rw [List.mem_map]
    constructor
    · rintro ⟨d, hd, e⟩
      rw [List.mem_filter, Bool.and_eq_true, decide_eq_true_eq] at hd
      obtain ⟨r, q⟩ := d
      obtain ⟨r', q'⟩ := z
      dsimp only at *
      rw [← hd.2.2, ← e]
      exact hd.1
    · intro h
      exact ⟨z, List.mem_filter.2 ⟨h, by simp [hz]⟩, rfl⟩
  · rw [Bool.not_eq_true] at hz
    rw [hz, Bool.false_and, Bool.false_and]
theorem V_ext {V W : VL} (hV : rightV V = true) (hW : rightV W = true) (h : ∀ z, hasV V z = hasV W z) : V = W :=
  right_one_V hV hW fun r h0 h1 => right_one (part_right hV r) (part_right hW r) fun n => by
    by_cases hn : 1 ≤ n ∧ n ≤ mx
    · have := h ⟨r, n⟩
      unfold mx at hn
      rw [hasV_right hV, hasV_right hW, show D2.right ⟨r, n⟩ = true from decide_eq_true ⟨h0, h1, hn.1, hn.2⟩, Bool.true_and, Bool.true_and] at this
      exact this
    · have h2 : ∀ {U : VL}, rightV U = true → has (partV U r) n = false := fun hU => by
        rw [Bool.eq_false_iff]
        intro hh
        have := has_lo (part_right hU r) n hh
        exact hn ⟨this.2.1, this.2.2⟩
      rw [h2 hV, h2 hW]
theorem same_ofV {D E : List D2} (h : ∀ z, z.right = true → (z ∈ D ↔ z ∈ E)) : ofV D = ofV E := V_ext (ofV_right D) (ofV_right E) fun z => by
  rw [has_ofV, has_ofV]
  by_cases hz : z.right = true
  · rw [hz, Bool.true_and, Bool.true_and, Bool.eq_iff_iff, decide_eq_true_eq, decide_eq_true_eq]
    exact h z hz
  · rw [Bool.not_eq_true] at hz
    rw [hz, Bool.false_and, Bool.false_and]
theorem add_ofV (D : List D2) {d : D2} (hd : d.right = true) : addV (ofV D) d = ofV (D ++ [d]) := by
  rw [addV, if_pos hd]
  refine V_ext (joinV_right _ _) (ofV_right _) fun z => ?_
  rw [has_joinV (ofV_right _) (ofV_right _), has_ofV, has_ofV, has_ofV]
  cases z.right
  · rfl
  · rw [Bool.true_and, Bool.true_and, Bool.true_and, Bool.eq_iff_iff]
    simp
theorem skip_ofV (D : List D2) {d : D2} (hd : d.right = false) : ofV (D ++ [d]) = ofV D := same_ofV fun z hz => by
  rw [List.mem_append, List.mem_singleton]
  exact ⟨fun h => h.elim id (fun e => by rw [e, hd] at hz; cases hz), .inl⟩
theorem one_ofV {d : D2} (hd : d.right = true) : ofV [d] = [(d.r, [⟨d.q, d.q⟩])] := by
  have hq := right_iff.1 hd
  have hr : rightV [(d.r, [(⟨d.q, d.q⟩ : Rg)])] = true := okV_cons.2 ⟨by dsimp only; omega, by dsimp only; omega, by simp, okR_cons.2 ⟨by dsimp only; omega, ok_iff.2 ⟨by dsimp only; omega, by dsimp only; omega, by unfold mx; dsimp only; omega⟩, rfl⟩, rfl⟩
  refine V_ext (ofV_right _) hr fun z => ?_
  rw [has_ofV, hasV_right hr]
  congr 1
  unfold partV
  rw [look_cons]
  obtain ⟨r, q⟩ := d
  obtain ⟨r', q'⟩ := z
  dsimp only at *
  rw [Bool.eq_iff_iff, decide_eq_true_eq, List.mem_singleton, D2.mk.injEq]
  by_cases e : r = r'
  · rw [if_pos e, Option.getD_some, has_cons, has_nil, Bool.or_false, in_iff]
    dsimp only
    omega
  · rw [if_neg e]
    have : look ([] : VL) r' = none := rfl
    rw [this]
    simp only [Option.getD_none, has_nil]
    constructor
    · intro h; exact absurd h.1.symm e
    · intro h; cases h
theorem count_one {d : D2} (hd : d.right = true) : countV (ofV [d]) = 1 := by
  have hr := ofV_right [d]
  rw [one_ofV hd] at hr ⊢
  have hq := right_iff.1 hd
  have h1 : right [(⟨d.q, d.q⟩ : Rg)] = true := okR_cons.2 ⟨by dsimp only; omega, ok_iff.2 ⟨by dsimp only; omega, by dsimp only; omega, by unfold mx; dsimp only; omega⟩, rfl⟩
  rw [countV, if_pos hr, sumV, sumV, countS, if_pos h1]
  simp [countR]
theorem count_add (D : List D2) {d : D2} (hd : d.right = true) : countV (ofV (D ++ [d])) = if d ∈ D then countV (ofV D) else countV (ofV D) + 1 := by
  split
  · rename_i h
    rw [same_ofV (D := D ++ [d]) (E := D) fun z _ => by rw [List.mem_append, List.mem_singleton]; exact ⟨fun h' => h'.elim id (fun e => by rw [e]; exact h), .inl⟩]
  · rename_i h
    have e1 : ofV (D ++ [d]) = joinV (ofV [d]) (ofV D) := by
      rw [← add_ofV D hd, addV, if_pos hd, join_commV (ofV_right _) (ofV_right _)]
    have e2 : minusV (ofV [d]) (ofV D) = ofV [d] := V_ext (minusV_right _ _) (ofV_right _) fun z => by
      rw [has_minusV (ofV_right _) (ofV_right _), has_ofV, has_ofV]
      cases z.right
      · rfl
      · rw [Bool.true_and, Bool.true_and, Bool.eq_iff_iff]
        simp only [List.mem_singleton, Bool.and_eq_true, decide_eq_true_eq, Bool.not_eq_true', decide_eq_false_iff_not]
        exact ⟨fun h' => h'.1, fun e => ⟨e, by rw [e]; exact h⟩⟩
    rw [e1, count_joinV (ofV_right _) (ofV_right _), e2, count_one hd]
    omega
/-- those that are visited: i of them, from the k-th from the end on -/
def visit (l : List D2) (k i : Nat) : List D2 := (List.range i).map fun j => l.getD (l.length - 1 - (j + k) % l.length) ⟨0, 0⟩
theorem visit_succ (l : List D2) (k i : Nat) : visit l k (i + 1) = visit l k i ++ [l.getD (l.length - 1 - (i + k) % l.length) ⟨0, 0⟩] := by
  unfold visit
  rw [List.range_succ, List.map_append]
  rfl
theorem visit_sub {l : List D2} {k i : Nat} (hi : i ≤ l.length) {z : D2} (h : z ∈ visit l k i) : z ∈ l := by
  unfold visit at h
  rw [List.mem_map] at h
  obtain ⟨j, hj, rfl⟩ := h
  rw [List.mem_range] at hj
  have hp : l.length - 1 - (j + k) % l.length < l.length := by omega
  rw [List.getD_eq_getElem?_getD, List.getElem?_eq_getElem hp]
  exact List.getElem_mem _
theorem visit_all (l : List D2) (k : Nat) : ofV (visit l k l.length) = ofV l := same_ofV fun z _ => by
  refine ⟨visit_sub (Nat.le_refl _), fun h => ?_⟩
  obtain ⟨p, hp, rfl⟩ := List.mem_iff_getElem.1 h
  unfold visit
  rw [List.mem_map]
  have hkn := Nat.mod_lt k (show 0 < l.length by omega)
  refine ⟨((l.length - 1 - p) + (l.length - k % l.length)) % l.length, List.mem_range.2 (Nat.mod_lt _ (by omega)), ?_⟩
  have e : (((l.length - 1 - p) + (l.length - k % l.length)) % l.length + k) % l.length = l.length - 1 - p := by
    rw [Nat.mod_add_mod]
    have h1 := Nat.mod_add_div k l.length
    have h2 : (l.length - 1 - p) + (l.length - k % l.length) + k = (l.length - 1 - p) + l.length * (k / l.length + 1) := by
      rw [Nat.mul_add, Nat.mul_one]
      omega
    rw [h2, Nat.add_mul_mod_self_left, Nat.mod_eq_of_lt (by omega)]
  rw [e, show l.length - 1 - (l.length - 1 - p) = p by omega, List.getD_eq_getElem?_getD, List.getElem?_eq_getElem hp, Option.getD_some]
end Go.Proofs.Ytaflikgdlkaefaa.Ve
/- Dots: plain facts of the lists that the laws make. -/
namespace Go.Proofs.Ytaflikgdlkaefaa.Dt
open Go.Proofs.Ytaflikgdlkaefaa.Pl

def mkA (n : Nat) : D2 := ⟨((n % 4 : Nat) : Int), ((n / 4 % 8 : Nat) : Int)⟩
def dkB (n : Nat) : D2 := ⟨((n % 64 : Nat) : Int), ((n / 64 + 1 : Nat) : Int)⟩
def turnAt (l : List D2) (k i : Nat) : D2 := l[l.length - 1 - (i + k) % l.length]?.getD ⟨0, 0⟩
def turnD (l : List D2) (k m : Nat) : List D2 := (List.range m).map (turnAt l k)
theorem turnD_succ (l : List D2) (k m : Nat) : turnD l k (m + 1) = turnD l k m ++ [turnAt l k m] := by simp [turnD, List.range_succ]
theorem turnD_len (l : List D2) (k m : Nat) : (turnD l k m).length = m := by simp [turnD]
theorem turn_mem (l : List D2) (k : Nat) (z : D2) : z ∈ turnD l k l.length ↔ z ∈ l := by
  rw [turnD, List.mem_map]
  constructor
  · rintro ⟨i, hi, rfl⟩
    have hi' := List.mem_range.1 hi
    have hlt : (i + k) % l.length < l.length := Nat.mod_lt _ (by omega)
    rw [turnAt, List.getElem?_eq_getElem (by omega)]
    exact List.getElem_mem _
  · intro hz
    obtain ⟨j, hj, rfl⟩ := List.mem_iff_getElem.1 hz
    have hk : k % l.length < l.length := Nat.mod_lt _ (by omega)
    refine ⟨(l.length - 1 - j + (l.length - k % l.length)) % l.length, List.mem_range.2 (Nat.mod_lt _ (by omega)), ?_⟩
    have e : ((l.length - 1 - j + (l.length - k % l.length)) % l.length + k) % l.length = l.length - 1 - j := by
      rw [Nat.mod_add_mod, ← Nat.add_mod_mod]
      rw [show l.length - 1 - j + (l.length - k % l.length) + k % l.length = (l.length - 1 - j) + l.length by omega, Nat.add_mod_right, Nat.mod_eq_of_lt (by omega)]
    rw [turnAt, e, show l.length - 1 - (l.length - 1 - j) = j by omega, List.getElem?_eq_getElem hj]; rfl
theorem turn_sort (l : List D2) (k : Nat) : sortD (turnD l k l.length) = sortD l := sortD_same (turn_mem l k)
theorem sort_sort (l : List D2) : sortD (sortD l) = sortD l := sortD_self (sortD_rise l)
theorem turn_sort2 (l : List D2) (k : Nat) : sortD (turnD l k l.length ++ sortD l) = sortD l := sortD_same fun z => by rw [List.mem_append, turn_mem, sortD_mem, or_self]
theorem dkB_right {n : Nat} (h : n < 65536) : (dkB n).right = true := right_iff.2 ⟨by simp [dkB]; omega, by simp [dkB]; omega, by simp [dkB]; omega, by simp [dkB]; omega⟩
theorem map_succ {α : Type} (f : Nat → α) (x : List Nat) (i : Nat) (hi : i < x.length) : (x.take (i + 1)).map f = (x.take i).map f ++ [f (x[i]?.getD 0)] := by
  rw [List.take_succ_eq_append_getElem hi, List.map_append, List.getElem?_eq_getElem hi]; rfl
end Go.Proofs.Ytaflikgdlkaefaa.Dt
/- An argument that is a slice of structs. -/
namespace Go.Proofs.Ytaflikgdlkaefaa
open Go.RowKit
set_option maxRecDepth 20000
theorem sl_of_cells (W : World) (a : Addr) (xs : List Value) (h : ∀ (j : Nat) (u : Value), xs[j]? = some u → W.cell? (a.add j) = some u) : Sl W W.heap.size (some a) xs := by
  cases xs with
  | nil => exact .inl rfl
  | cons x t =>
    obtain ⟨b, o, spot⟩ := a
    have hc0 := h 0 x rfl
    have hspot : spot = none := by simpa [Addr.add] using World.cell?_spot hc0
    subst hspot
    have hbl : b < W.heap.size := by
      have := World.block_lt_of_cell? W _ hc0
      simpa [Addr.add] using this
    refine .inr ⟨b, o, rfl, hbl, hbl, fun j u hu => ?_⟩
    have := h j u hu
    have e1 : (⟨b, o, none⟩ : Addr).add j = ⟨b, o + j, none⟩ := by
      unfold Addr.add
      split
      · rename_i h0; subst h0; rfl
      · rfl
    rw [e1] at this
    exact this
theorem wf_i64' (a : Int) (h : (Lit.int .i64 a).wf = true) : i64in a := by
  have : -9223372036854775808 ≤ a ∧ a ≤ 9223372036854775807 := by simpa [Lit.wf, IntKind.min, IntKind.max, IntKind.signed, IntKind.bits] using h
  exact this
section
open Go.Joins Go.ChangeShapes Go.WideShapes Go.ChangeAt Go.RowKit Go.Deep
variable {H : Type} {enc : TypeId × Value → H} {W : World} {base : Nat} {t : TypeId} {v : Value} {d : DataW H} {p : List MemPlace}
/-- the cells of some things, one behind another -/
theorem flat_get {α : Type} (cells : α → List Value) (C : Nat) (h0 : 0 < C) (hl : ∀ x, (cells x).length = C) : ∀ (ls : List α) (j : Nat), (ls.flatMap cells)[j]? = (ls[j / C]?).bind fun x => (cells x)[j % C]?
  | [], j => by simp
  | x :: ls, j => by
    rw [List.flatMap_cons]
    by_cases h : j < C
    · rw [List.getElem?_append_left (by rw [hl]; exact h), Nat.div_eq_of_lt h, Nat.mod_eq_of_lt h]; rfl
    · rw [List.getElem?_append_right (by rw [hl]; omega), hl, flat_get cells C h0 hl ls (j - C)]
      have h1 : j / C = (j - C) / C + 1 := by
        rw [← Nat.add_div_right _ h0]; congr 1; omega
      have h2 : j % C = (j - C) % C := (Nat.mod_eq_sub_mod (by omega))
      rw [h1, h2]; rfl
theorem One.rows {α : Type} (cells : α → List Value) (C : Nat) (h0 : 0 < C) (hl : ∀ x, (cells x).length = C) (ok : α → Prop) (d0 : α) {e : TypeId} (ht : Try.prog.underlying t = some (.slice e)) (hC : Try.prog.cellsOf e = C)
    (hE : ∀ n cs' y, DataW.trod enc Try.prog W 0 (fun _ => true) true n e cs' = some y → ∃ x, cs' = cells x ∧ ok x) (h : One enc W base t v d p) :
    ∃ (A : Option Addr) (c : Nat) (ls : List α), v = .slice A ls.length c ∧ Sl W W.heap.size A (ls.flatMap cells) ∧ ls.length ≤ c ∧ c ≤ Go.maxLen ∧ ∀ x ∈ ls, ok x := by
  have hok := h.ok
  have rd := h.rd
  obtain ⟨A, len, cap, rfl⟩ := okWide_slice ht hok
  obtain ⟨fuel, hf⟩ := rd
  rcases open_slice ht hf with ⟨hcs, _⟩ | ⟨a, len', cap', m, n, D, Pl, hcs, _, hle, hm, hmm, _, hr⟩
  · simp [Value.cells] at hcs
    obtain ⟨rfl, rfl, rfl⟩ := hcs
    exact ⟨none, 0, [], rfl, Sl.nil, by simp, by simp [Go.maxLen], by simp⟩
  · simp [Value.cells] at hcs
    obtain ⟨rfl, rfl, rfl⟩ := hcs
    have hmm' : m = cap := by simpa using hmm
    subst hmm'
    have hx : ∀ i, ∃ x : α, i < m → ok x ∧ ∀ k, k < C → W.cell? (a.add (i * C + k)) = (cells x)[k]? := by
      intro i
      by_cases hi : i < m
      · obtain ⟨cs', h1, h2⟩ := hr i hi
        obtain ⟨x, rfl, hx⟩ := hE _ _ _ h2
        rw [hC] at h1
        obtain ⟨_, _, h3⟩ := World.cells?_some h1
        exact ⟨x, fun _ => ⟨hx, fun k hk => by rw [← Go.Deep.add_add]; exact h3 k hk⟩⟩
      · exact ⟨d0, fun h => absurd h hi⟩
    obtain ⟨f, hf'⟩ := Classical.axiomOfChoice hx
    refine ⟨some a, m, (List.range len).map f, by simp, sl_of_cells W a _ fun j u hu => ?_, by simpa using hle, hm, ?_⟩
    · rw [flat_get cells C h0 hl, List.getElem?_map] at hu
      by_cases hj : j / C < len
      · rw [List.getElem?_range hj] at hu
        have hk := (hf' (j / C) (by omega)).2 (j % C) (Nat.mod_lt _ h0)
        rw [Nat.div_add_mod' j C] at hk
        rw [hk]
        exact hu
      · rw [List.getElem?_eq_none (by simpa using hj)] at hu
        cases hu
    · intro x hx
      obtain ⟨i, hi, rfl⟩ := List.mem_map.1 hx
      exact (hf' i (by have := List.mem_range.1 hi; omega)).1
end
end Go.Proofs.Ytaflikgdlkaefaa
/- Dots: an argument that is a dot, or some. -/
namespace Go.Proofs.Ytaflikgdlkaefaa
open Go.RowKit Go.Proofs.Ytaflikgdlkaefaa.Dt
set_option maxRecDepth 20000
section
open Go.Joins Go.ChangeShapes Go.WideShapes Go.ChangeAt Go.RowKit Go.Deep
variable {H : Type} {enc : TypeId × Value → H} {W : World} {base : Nat} {t : TypeId} {v : Value} {d : DataW H} {p : List MemPlace}
theorem One.dot (h : One enc W base 32 v d p) : ∃ s : D2, v = s.v ∧ s.ok := by
  have ok := h.ok
  have rd := h.rd
  obtain ⟨v0, v1, y0, y1, n, rfl, _, _, h0, h1⟩ := open_agg2 Try.underlying32 (by kernel_rfl) (by kernel_rfl) ok rd
  obtain ⟨a0, e0, _, w0⟩ := DataW.trod_int (k := .i64) Try.underlying3 h0
  obtain ⟨a1, e1, _, w1⟩ := DataW.trod_int (k := .i64) Try.underlying2 h1
  cases e0; cases e1
  exact ⟨⟨a0, a1⟩, rfl, wf_i64' a0 w0, wf_i64' a1 w1⟩
theorem dot_of_trod (n : Nat) (cs' : List Value) (y : DataW H × List MemPlace) (h : DataW.trod enc Try.prog W 0 (fun _ => true) true n 32 cs' = some y) : ∃ s : D2, cs' = s.cells ∧ s.ok := by
  obtain ⟨y0, y1, n', hx, hlen, h0, h1⟩ := trod_struct2 Try.underlying32 h
  have hC : Try.prog.cellsOf 32 = 2 := by kernel_rfl
  have k0 : Try.prog.cellsOf 3 = 1 := by kernel_rfl
  have k1 : Try.prog.cellsOf 2 = 1 := by kernel_rfl
  rw [hC] at hlen
  match cs', hlen with
  | [c0, c1], _ =>
    simp only [k0, k1, List.drop, List.take] at h0 h1
    obtain ⟨a0, e0, _, w0⟩ := DataW.trod_int (k := .i64) Try.underlying3 h0
    obtain ⟨a1, e1, _, w1⟩ := DataW.trod_int (k := .i64) Try.underlying2 h1
    cases e0; cases e1
    exact ⟨⟨a0, a1⟩, rfl, wf_i64' a0 w0, wf_i64' a1 w1⟩
theorem One.dots (h : One enc W base 53 v d p) : ∃ (A : Option Addr) (c : Nat) (ls : List D2), v = .slice A ls.length c ∧ Sl W W.heap.size A (dv ls) ∧ ls.length ≤ c ∧ c ≤ maxLen ∧ ∀ s ∈ ls, s.ok :=
  One.rows D2.cells 2 (by omega) (fun _ => rfl) D2.ok ⟨0, 0⟩ Try.underlying53 (by kernel_rfl) dot_of_trod h
end
end Go.Proofs.Ytaflikgdlkaefaa
/- The walk of VectorOf. -/
namespace Go.Proofs.Ytaflikgdlkaefaa
open Go.RowKit Go.Maps Go.Proofs.Ytaflikgdlkaefaa.Pl Go.Proofs.Ytaflikgdlkaefaa.Sp Go.Proofs.Ytaflikgdlkaefaa.Ve
set_option maxRecDepth 20000

theorem fldVo (A : Option Addr) (l c : Nat) (w : World) : (Instr.field 27 (.agg #[.slice A l c]) 0).run Try.prog w = .ok (.slice A l c) w := by kernel_rfl
theorem countV_bdo {V : VL} (h : rightV V = true) : 0 ≤ countV V ∧ countV V ≤ 70368744177664 := by
  have h1 := sumV_bd V
  have h2 := right_length h
  rw [countV, if_pos h]
  omega
/-- the dot of a number -/
def ofX (v : Nat) : Dt.D2 := ⟨((v % 5 * 15 : Nat) : Int), ((v / 5 % 12 : Nat) : Int)⟩
set_option maxRecDepth 100000 in
set_option maxHeartbeats 12800000 in
theorem VectorOf_walk (w : World) (A : Option Addr) (c : Nat) (l : List Dt.D2) (hl : Sl w w.heap.size A (dv l)) (hlo : ∀ s ∈ l, s.ok) (A' : Option Addr) (c' : Nat) (x : List Nat) (hx : Sl w w.heap.size A' (wv x)) (hxl : ∀ m ∈ x, m < 65536) (d : Nat) (hd : d < 256) :
    Calls Try.prog 6 #[.slice A l.length c, .slice A' x.length c', .int .u8 (d : Int)] w fun e w' => e = .returned (.bool true) ∧ Below w.heap.size w w' := by
  have HK := Lib.hid (vknown_any w)
  obtain ⟨n, hn⟩ : ∃ n, l.length = n := ⟨_, rfl⟩
  obtain ⟨n', hn'⟩ : ∃ n, x.length = n := ⟨_, rfl⟩
  rw [hn, hn']
  have HX := Lib.hid (And.intro hl (And.intro hlo (And.intro hx (And.intro hxl (And.intro hn hn')))))
  clear hl hlo hx hn hn'
  go_enter Try.func6, Try.ntmps6
  go_wp2_with fail
  refine HK.out.mono ?_
  rintro e w1 ⟨rfl, h1⟩
  by_cases q1 : 60 < n
  · have hd1 : decide ((60 : Int) < (n : Int)) = true := by rw [decide_eq_true_eq]; omega
    go_wp2_with fail
    go_ret
    exact ⟨rfl, h1⟩
  have hd1 : decide ((60 : Int) < (n : Int)) = false := by rw [decide_eq_false_iff_not]; omega
  by_cases q2 : 60 < n'
  · have hd2 : decide ((60 : Int) < (n' : Int)) = true := by rw [decide_eq_true_eq]; omega
    go_wp2_with fail
    go_ret
    exact ⟨rfl, h1⟩
  have hd2 : decide ((60 : Int) < (n' : Int)) = false := by rw [decide_eq_false_iff_not]; omega
  have H1 := Lib.hid (And.intro (OwnD.nil w1 w1.heap.size) (And.intro ((HX.out.1.below h1).more h1.size) h1))
  clear h1 HK
  go_wp2_with (at_builtin; refine appDG rfl rfl H1.out.1 H1.out.2.1 HX.out.2.2.2.2.1.symm rfl rfl (by rw [HX.out.2.2.2.2.1]; simp; omega) (Nat.le_refl _) ?_; intro v2 w2 hown2 hg2 hat2)
  have hb2 := H1.out.2.2.trans ((below_of_grown hg2 (fun g e => by cases e) (Nat.le_refl _)).mono H1.out.2.2.size)
  have hs2 := hg2.size
  rw [List.nil_append] at hown2
  clear hg2 hat2
  go_loopw [7, 8] (fun x7 x8 wr => ∃ (k : Nat), k ≤ n' ∧ x8 = .int .i64 (k : Int) ∧ OwnD wr w1.heap.size x7 (l ++ (x.take k).map ofX) ∧ Below w.heap.size w wr ∧ w1.heap.size ≤ wr.heap.size) (fun _ x8 _ => n' - (intOf x8).toNat)
  case atStart => exact ⟨0, by omega, rfl, by simpa using hown2, hb2, hs2⟩
  case round =>
    clear hown2 hb2 hs2
    obtain ⟨k, hk, rfl, hown, hbel, hsz⟩ := hrel
    by_cases hlt : k < n'
    · have hkx : k < x.length := by have := HX.out.2.2.2.2.2; omega
      obtain ⟨b, o, rfl, hbW, c0⟩ := u16At HX.out.2.2.1 hkx
      have hsn := Dt.map_succ ofX x k hkx
      have hm16 := u16_lt hxl k
      generalize x[k]?.getD 0 = m at *
      replace c0 := (hbel.cell hbW).trans c0
      have hd3 : decide ((k : Int) < (n' : Int)) = true := by rw [decide_eq_true_eq]; omega
      have hn0 : (0 : Int) ≤ (k : Int) := by omega
      have hn1 : (k : Int) < (n' : Int) := by omega
      have hbw2 := Nat.lt_of_lt_of_le hbW hbel.size
      have e0 : ∀ W, Ck ⟨b, o + k, none⟩ (.int .u16 (m : Int)) W → W.cell? ⟨b, o + k, none⟩ = some (.int .u16 (m : Int)) := fun W h => h
      have hcw : w.cell? ⟨b, o + k, none⟩ = some (.int .u16 (m : Int)) := (hbel.cell (p := ⟨b, o + k, none⟩) hbW).symm.trans c0
      have CW := Lib.hid hcw
      clear hcw
      have hmk : ofX m = ⟨((m % 5 * 15 : Nat) : Int), ((m / 5 % 12 : Nat) : Int)⟩ := rfl
      have hw0 : IntKind.u16.wrap ((m : Int).tmod 5 * 15) = ((m % 5 * 15 : Nat) : Int) := by
        show IntKind.u16.wrap ((m % 5 : Nat) * 15 : Int) = _
        rw [IntKind.wrap_u16]; omega
      have hw1 : IntKind.i64.wrap ((m % 5 * 15 : Nat) : Int) = ((m % 5 * 15 : Nat) : Int) := by rw [IntKind.wrap_i64]; omega
      have hw2 : IntKind.u16.wrap ((m : Int) / 5) = ((m / 5 : Nat) : Int) := by rw [IntKind.wrap_u16]; omega
      generalize m % 5 * 15 = a at *
      generalize m / 5 = p at *
      have hw3 : IntKind.i64.wrap ((p : Int).tmod 12) = ((p % 12 : Nat) : Int) := by
        show IntKind.i64.wrap ((p % 12 : Nat) : Int) = _
        rw [IntKind.wrap_i64]; omega
      generalize p % 12 = q at *
      rw [hmk] at hsn
      clear hmk
      have hlen : (l ++ (x.take k).map ofX).length ≤ 200 := by rw [List.length_append, List.length_map, List.length_take, HX.out.2.2.2.2.1]; omega
      have HM := Lib.hid (And.intro hown (And.intro hbel (And.intro hsz (And.intro hsn hlen))))
      clear hown hbel hsn hsz hlen
      go_wp2_with fail
      have hS0 : Ck ⟨b, o + k, none⟩ (.int .u16 (m : Int)) wr.drew := c0
      refine bstartS (Ck ⟨b, o + k, none⟩ (.int .u16 (m : Int))) (by kernel_rfl) ?_
      refine btakeS 0 (oi := _) (v := ?_) (by simp only [List.getElem?_toArray, List.getElem?_cons_zero]; rfl) (by kernel_rfl) (by exact fun _ _ _ h => h) (by first | assumption | exact KB.refl _) (.inl ⟨by rfl, fun W hW => ?_⟩) ?_; rotate_left
      · (go_simp; first | done | with_reducible rfl)
      try simp only [Act.put, List.setIfInBounds_toArray, List.set_cons_zero, List.set_cons_succ]
      refine btakeS 1 (oi := _) (v := ?_) (by simp only [getElem?_toArray, getElem?_cons_succ, getElem?_cons_zero]; rfl) (by kernel_rfl) (by exact fun _ _ _ h => h) (by first | assumption | exact KB.refl _) (.inl ⟨by rfl, fun W hW => ?_⟩) ?_; rotate_left
      · (go_simp; first | done | with_reducible rfl)
      try simp only [Act.put, List.setIfInBounds_toArray, List.set_cons_zero, List.set_cons_succ]
      refine btakeS 2 (oi := _) (v := ?_) (by simp only [getElem?_toArray, getElem?_cons_succ, getElem?_cons_zero]; rfl) (by kernel_rfl) (by exact fun _ _ _ h => h) (by first | assumption | exact KB.refl _) (.inl ⟨by rfl, fun W hW => ?_⟩) ?_; rotate_left
      · (go_simp; first | done | with_reducible rfl)
      try simp only [Act.put, List.setIfInBounds_toArray, List.set_cons_zero, List.set_cons_succ]
      refine btakeS 3 (oi := _) (v := ?_) (by simp only [getElem?_toArray, getElem?_cons_succ, getElem?_cons_zero]; rfl) (by kernel_rfl) (by exact fun _ _ _ h => h) (by first | assumption | exact KB.refl _) (.inl ⟨by rfl, fun W hW => ?_⟩) ?_; rotate_left
      · (go_simp; first | done | with_reducible rfl)
      try simp only [Act.put, List.setIfInBounds_toArray, List.set_cons_zero, List.set_cons_succ]
      refine btakeS 4 (oi := _) (v := ?_) (by simp only [getElem?_toArray, getElem?_cons_succ, getElem?_cons_zero]; rfl) (by kernel_rfl) (by exact fun _ _ _ h => h) (by first | assumption | exact KB.refl _) (.inl ⟨by rfl, fun W hW => ?_⟩) ?_; rotate_left
      · (go_simp; first | done | with_reducible rfl)
      try simp only [Act.put, List.setIfInBounds_toArray, List.set_cons_zero, List.set_cons_succ]
      refine btakeS 5 (oi := _) (v := ?_) (by simp only [getElem?_toArray, getElem?_cons_succ, getElem?_cons_zero]; rfl) (by kernel_rfl) (by exact fun _ _ _ h => h) (by first | assumption | exact KB.refl _) (.inl ⟨by rfl, fun W hW => ?_⟩) ?_; rotate_left
      · (go_simp; first | done | with_reducible rfl)
      try simp only [Act.put, List.setIfInBounds_toArray, List.set_cons_zero, List.set_cons_succ]
      refine btakeS 6 (oi := _) (v := ?_) (by simp only [getElem?_toArray, getElem?_cons_succ, getElem?_cons_zero]; rfl) (by kernel_rfl) (by exact fun _ _ _ h => h) (by first | assumption | exact KB.refl _) (.inl ⟨by rfl, fun W hW => ?_⟩) ?_; rotate_left
      · (go_simp; first | done | with_reducible rfl)
      try simp only [Act.put, List.setIfInBounds_toArray, List.set_cons_zero, List.set_cons_succ]
      refine btakeS 7 (oi := _) (v := ?_) (by simp only [getElem?_toArray, getElem?_cons_succ, getElem?_cons_zero]; rfl) (by kernel_rfl) (by exact fun _ _ _ h => h) (by first | assumption | exact KB.refl _) (.inl ⟨by rfl, fun W hW => ?_⟩) ?_; rotate_left
      · (go_simp; first | done | with_reducible rfl)
      try simp only [Act.put, List.setIfInBounds_toArray, List.set_cons_zero, List.set_cons_succ]
      refine btakeS 8 (oi := _) (v := ?_) (by simp only [getElem?_toArray, getElem?_cons_succ, getElem?_cons_zero]; rfl) (by kernel_rfl) (by exact fun _ _ _ h => h) (by first | assumption | exact KB.refl _) (.inl ⟨by rfl, fun W hW => ?_⟩) ?_; rotate_left
      · (go_simp; first | done | with_reducible rfl)
      try simp only [Act.put, List.setIfInBounds_toArray, List.set_cons_zero, List.set_cons_succ]
      refine btakeS 9 (oi := _) (v := ?_) (by simp only [getElem?_toArray, getElem?_cons_succ, getElem?_cons_zero]; rfl) (by kernel_rfl) (by exact fun _ _ _ h => h) (by first | assumption | exact KB.refl _) (.inl ⟨by rfl, fun W hW => ?_⟩) ?_; rotate_left
      · (go_simp; first | done | with_reducible rfl)
      try simp only [Act.put, List.setIfInBounds_toArray, List.set_cons_zero, List.set_cons_succ]
      refine btakeS 10 (oi := _) (v := ?_) (by simp only [getElem?_toArray, getElem?_cons_succ, getElem?_cons_zero]; rfl) (by kernel_rfl) (by exact fun _ _ _ h => h) (by first | assumption | exact KB.refl _) (.inl ⟨by rfl, fun W hW => ?_⟩) ?_; rotate_left
      · (go_simp; first | done | with_reducible rfl)
      try simp only [Act.put, List.setIfInBounds_toArray, List.set_cons_zero, List.set_cons_succ]
      refine btakeS 11 (oi := _) (v := ?_) (by simp only [getElem?_toArray, getElem?_cons_succ, getElem?_cons_zero]; rfl) (by kernel_rfl) (by exact fun _ _ _ h => h) (by first | assumption | exact KB.refl _) (.inl ⟨by rfl, fun W hW => ?_⟩) ?_; rotate_left
      · (go_simp; first | done | with_reducible rfl)
      try simp only [Act.put, List.setIfInBounds_toArray, List.set_cons_zero, List.set_cons_succ]
      refine btakeS 12 (oi := _) (v := ?_) (by simp only [getElem?_toArray, getElem?_cons_succ, getElem?_cons_zero]; rfl) (by kernel_rfl) (by exact fun _ _ _ h => h) (by first | assumption | exact KB.refl _) (.inl ⟨by rfl, fun W hW => ?_⟩) ?_; rotate_left
      · (go_simp; first | done | with_reducible rfl)
      try simp only [Act.put, List.setIfInBounds_toArray, List.set_cons_zero, List.set_cons_succ]
      refine btakeS 13 (oi := _) (v := ?_) (by simp only [getElem?_toArray, getElem?_cons_succ, getElem?_cons_zero]; rfl) (by kernel_rfl) (by exact fun _ _ _ h => h) (by first | assumption | exact KB.refl _) (.inl ⟨by rfl, fun W hW => ?_⟩) ?_; rotate_left
      · (go_simp; first | done | with_reducible rfl)
      try simp only [Act.put, List.setIfInBounds_toArray, List.set_cons_zero, List.set_cons_succ]
      refine btakeS 14 (oi := _) (v := ?_) (by simp only [getElem?_toArray, getElem?_cons_succ, getElem?_cons_zero]; rfl) (by kernel_rfl) (by exact fun _ _ _ h => h) (by first | assumption | exact KB.refl _) (.inl ⟨by rfl, fun W hW => ?_⟩) ?_; rotate_left
      · (go_simp; first | done | with_reducible rfl)
      try simp only [Act.put, List.setIfInBounds_toArray, List.set_cons_zero, List.set_cons_succ]
      refine btakeS 15 (oi := _) (v := ?_) (by simp only [getElem?_toArray, getElem?_cons_succ, getElem?_cons_zero]; rfl) (by kernel_rfl) (by exact fun _ _ _ h => h) (by first | assumption | exact KB.refl _) (.inl ⟨by rfl, fun W hW => ?_⟩) ?_; rotate_left
      · (go_simp; first | done | with_reducible rfl)
      try simp only [Act.put, List.setIfInBounds_toArray, List.set_cons_zero, List.set_cons_succ]
      -- 16: Op.buildSlice 53 1 #[(0, Operand.tmp 48)]
      refine bopS 16 (o := _) (by simp only [getElem?_toArray, getElem?_cons_succ, getElem?_cons_zero]; rfl) (by kernel_rfl) (by rfl) (fun K hK => ?_)
      go_simp
      have hkb : Ck ⟨b, o + k, none⟩ (.int .u16 (m : Int)) (wr.alloc (.cells #[.int .i64 (a : Int), .int .i64 (q : Int)] 32)).drew := ((boxD wr ⟨(a : Int), (q : Int)⟩).cell (p := ⟨b, o + k, none⟩) hbw2).trans c0
      refine hK.out _ _ hkb ?_; clear hK K
      try simp only [Act.put, List.setIfInBounds_toArray, List.set_cons_zero, List.set_cons_succ]
      -- 17: Op.call { callee := Callee.builtin Builtin.append, args := #[Operand.tmp 33, Operand.tmp 49], argTypes := #[53, 53] }
      refine bopS 17 (o := _) (by simp only [getElem?_toArray, getElem?_cons_succ, getElem?_cons_zero]; rfl) (by kernel_rfl) (by rfl) (fun K hK => ?_)
      have ho2 := HM.out.1.below (boxD wr ⟨(a : Int), (q : Int)⟩)
      refine wp_appD (w := (wr.alloc (.cells #[.int .i64 (a : Int), .int .i64 (q : Int)] 32)).drew) rfl (ho2.below (Below.refl _ _).drew) (Sl.oneD wr ⟨(a : Int), (q : Int)⟩).drew rfl rfl rfl (by rw [List.length_singleton]; have := HM.out.2.2.2.2; omega) (by have h1 := (boxD wr ⟨(a : Int), (q : Int)⟩).size; exact Nat.le_trans HM.out.2.2.1 h1) ?_
      intro v4 w4 hown4 hg4d hat4
      have hg4 : (wr.alloc (.cells #[.int .i64 (a : Int), .int .i64 (q : Int)] 32)).grownBy w4 u7.ownBlock := grownT (grownB (Below.refl _ _).drew) hg4d
      have hgr := fun z e => (World.ownsRow.lt HM.out.1 z e)
      have hbB := HM.out.2.1.alloc HM.out.2.1.size (.cells #[.int .i64 (a : Int), .int .i64 (q : Int)] 32)
      have hb4 : Below w.heap.size w w4 := hbB.grown hg4 hbB.size (fun z e => by have := (hgr z e).1; have := H1.out.2.2.size; omega)
      have hs4 : w1.heap.size ≤ w4.heap.size := by have h1 := hg4.size; have h2 := HM.out.2.2.1; simp at h1; omega
      have hc4 : w4.cell? ⟨b, o + k, none⟩ = some (.int .u16 (m : Int)) := (hb4.cell (p := ⟨b, o + k, none⟩) hbW).trans CW.out
      have hkb : Ck ⟨b, o + k, none⟩ (.int .u16 (m : Int)) w4 := hc4
      rw [List.append_assoc, ← HM.out.2.2.2.1] at hown4
      refine hK.out _ _ hkb ?_; clear hK K
      try simp only [Act.put, List.setIfInBounds_toArray, List.set_cons_zero, List.set_cons_succ]
      refine btakeS 18 (oi := _) (v := ?_) (by simp only [getElem?_toArray, getElem?_cons_succ, getElem?_cons_zero]; rfl) (by kernel_rfl) (by exact fun _ _ _ h => h) (by first | assumption | exact KB.refl _) (.inl ⟨by rfl, fun W hW => ?_⟩) ?_; rotate_left
      · (go_simp; first | done | with_reducible rfl)
      try simp only [Act.put, List.setIfInBounds_toArray, List.set_cons_zero, List.set_cons_succ]
      refine bdoneS (by kernel_rfl) ?_
      clear e0 hw0 hw1 hw2 hw3 c0
      go_wp2_with fail
      go_roundw
      case rel => exact ⟨k + 1, hlt, by go_num, hown4, hb4, hs4⟩
      case measure => simp [intOf]; omega
    · obtain rfl : k = n' := by omega
      have hd3 : decide ((k : Int) < (k : Int)) = false := by rw [decide_eq_false_iff_not]; omega
      rw [show x.take k = x by rw [List.take_of_length_le (by rw [HX.out.2.2.2.2.2]; exact Nat.le_refl _)]] at hown
      obtain ⟨L, hL⟩ : ∃ L, l ++ x.map ofX = L := ⟨_, rfl⟩
      have hLo : ∀ s ∈ L, s.ok := fun s hs => by
        rw [← hL] at hs
        rcases List.mem_append.1 hs with hs | hs
        · exact HX.out.2.1 s hs
        · obtain ⟨m, hm, rfl⟩ := List.mem_map.1 hs
          have := hxl m hm
          unfold ofX Dt.D2.ok i64in
          dsimp only
          omega
      have hLn : L.length ≤ 120 := by rw [← hL, List.length_append, List.length_map, HX.out.2.2.2.2.1, HX.out.2.2.2.2.2]; omega
      rw [hL] at hown
      obtain ⟨N, hN⟩ : ∃ N, L.length = N := ⟨_, rfl⟩
      obtain ⟨A3, c3, rfl, hle3, hcm3, hsl3, _⟩ := hown.form
      rw [hN] at hLn hle3 ⊢
      have hbx := hbel
      have HL := Lib.hid (And.intro hsl3 (And.intro hLo (And.intro hN hbel)))
      clear hown hsl3 hLo hbel hL hN HX hxl hle3 hcm3
      go_wp2_with fail
      refine (VOf_own wr A3 N c3 L HL.out.1 HL.out.2.2.1.symm (by omega)).mono ?_
      intro e w4 hv4
      obtain ⟨A4, n4, c4, R4, rfl, hv4, h4⟩ := hv4.ans
      have hvh := VH.of hv4 ((ofV_lim (l := L)).mono (m' := 120) (by have := HL.out.2.2.1; omega)) (ofV_right L)
      have hb4 := HL.out.2.2.2.trans (h4.mono HL.out.2.2.2.size)
      have hsl4 := (HL.out.1.below h4).more h4.size
      have H4 := Lib.hid (And.intro hvh (And.intro hb4 hsl4))
      clear hv4 h4 hvh hb4 hsl4 hbx
      go_wp2_with fail
      have hbx := balloc (Below.refl w4.heap.size w4) (.cells #[.slice A4 n4 c4] 27)
      have k9 := Bx.new w4 (.slice A4 n4 c4)
      have H5 := Lib.hid (And.intro (H4.out.1.below hbx) (And.intro ((H4.out.2.2.below hbx).more hbx.size) (And.intro k9.at_ (H4.out.2.1.trans (hbx.mono H4.out.2.1.size)))))
      clear hbx k9 H4
      generalize w4.alloc (.cells #[.slice A4 n4 c4] 27) = W at *
      generalize w4.heap.size = g9 at *
      have e9 := H5.out.2.2.1.e 0 rfl
      have hb0 : Below W.heap.size W W.drew := (Below.refl _ W).drew
      refine bstartH (W.heap) (by kernel_rfl) ?_
      refine btake 0 (oi := _) (v := ?_) (by simp only [List.getElem?_toArray, List.getElem?_cons_zero]; rfl) (by kernel_rfl) (by exact fun _ _ _ h => h) (by first | assumption | exact KB.refl _) (.inl ⟨by rfl, fun W hW => ?_⟩) ?_; rotate_left
      · (go_simp; first | done | with_reducible rfl)
      try simp only [Act.put, List.setIfInBounds_toArray, List.set_cons_zero, List.set_cons_succ]
      -- 1: newsreel/vector.Right
      refine bopH 1 (o := _) (by simp only [getElem?_toArray, getElem?_cons_succ, getElem?_cons_zero]; rfl) (by kernel_rfl) (by first | assumption | exact KB.refl _) (by rfl) (fun K hK => ?_)
      go_simp
      refine ((H5.out.1.below hb0).right (by omega)).mono ?_
      rintro e u1 ⟨rfl, h1⟩
      have B1 := Lib.hid (hb0.trans (h1.mono hb0.size))
      have hkb : KB W.heap u1 := KB.of B1.out
      clear h1
      refine hK.out _ _ hkb ?_; clear hK K
      try simp only [Act.put, List.setIfInBounds_toArray, List.set_cons_zero, List.set_cons_succ]
      refine btake 2 (oi := _) (v := ?_) (by simp only [getElem?_toArray, getElem?_cons_succ, getElem?_cons_zero]; rfl) (by kernel_rfl) (by exact fun _ _ _ h => h) (by first | assumption | exact KB.refl _) (.inl ⟨by rfl, fun W hW => ?_⟩) ?_; rotate_left
      · (go_simp; first | done | with_reducible rfl)
      try simp only [Act.put, List.setIfInBounds_toArray, List.set_cons_zero, List.set_cons_succ]
      refine btake 3 (oi := _) (v := ?_) (by simp only [getElem?_toArray, getElem?_cons_succ, getElem?_cons_zero]; rfl) (by kernel_rfl) (by exact fun _ _ _ h => h) (by first | assumption | exact KB.refl _) (.inl ⟨by rfl, fun W hW => ?_⟩) ?_; rotate_left
      · (go_simp; first | done | with_reducible rfl)
      try simp only [Act.put, List.setIfInBounds_toArray, List.set_cons_zero, List.set_cons_succ]
      refine btake 4 (oi := _) (v := ?_) (by simp only [getElem?_toArray, getElem?_cons_succ, getElem?_cons_zero]; rfl) (by kernel_rfl) (by exact fun _ _ _ h => h) (by first | assumption | exact KB.refl _) (.inl ⟨by rfl, fun W hW => ?_⟩) ?_; rotate_left
      · (go_simp; first | done | with_reducible rfl)
      try simp only [Act.put, List.setIfInBounds_toArray, List.set_cons_zero, List.set_cons_succ]
      refine btake 5 (oi := _) (v := ?_) (by simp only [getElem?_toArray, getElem?_cons_succ, getElem?_cons_zero]; rfl) (by kernel_rfl) (by exact fun _ _ _ h => h) (by first | assumption | exact KB.refl _) (.inl ⟨by rfl, fun W hW => ?_⟩) ?_; rotate_left
      · (go_simp; first | done | with_reducible rfl)
      try simp only [Act.put, List.setIfInBounds_toArray, List.set_cons_zero, List.set_cons_succ]
      -- 6: newsreel/newsreelref1.VecOf
      refine bopH 6 (o := _) (by simp only [getElem?_toArray, getElem?_cons_succ, getElem?_cons_zero]; rfl) (by kernel_rfl) (by first | assumption | exact KB.refl _) (by rfl) (fun K hK => ?_)
      go_simp
      refine (RVOf_own u1 A3 N c3 L ((H5.out.2.1.below B1.out).more B1.out.size) HL.out.2.2.1.symm (by omega)).mono ?_
      intro e u6 hv6
      obtain ⟨A6, n6, c6, R6, rfl, hv6, h6⟩ := hv6.ans
      have V6 := Lib.hid hv6
      have B6 := Lib.hid (B1.out.trans (h6.mono B1.out.size))
      have hkb : KB W.heap u6 := KB.of B6.out
      clear h6 hv6
      refine hK.out _ _ hkb ?_; clear hK K
      try simp only [Act.put, List.setIfInBounds_toArray, List.set_cons_zero, List.set_cons_succ]
      -- 7: newsreel/newsreelref1.SameVec
      refine bopH 7 (o := _) (by simp only [getElem?_toArray, getElem?_cons_succ, getElem?_cons_zero]; rfl) (by kernel_rfl) (by first | assumption | exact KB.refl _) (by rfl) (fun K hK => ?_)
      go_simp
      obtain ⟨R4', hv4', hn4', hl4', _⟩ := H5.out.1.below B6.out
      refine (SameV_any u6 A4 A6 n4 n6 c4 c6 R4' R6 (ofV L) (ofV L) hv4' V6.out (by omega) (hl4'.mono (by omega)) ((ofV_lim (l := L)).mono (by have := HL.out.2.2.1; omega))).mono ?_
      rintro e u7 ⟨rfl, h7⟩
      rw [decide_eq_true (rfl : ofV L = ofV L)]
      have B7 := Lib.hid (B6.out.trans (h7.mono B6.out.size))
      have hkb : KB W.heap u7 := KB.of B7.out
      clear h7 hv4' hn4' hl4'
      refine hK.out _ _ hkb ?_; clear hK K
      try simp only [Act.put, List.setIfInBounds_toArray, List.set_cons_zero, List.set_cons_succ]
      refine btake 8 (oi := _) (v := ?_) (by simp only [getElem?_toArray, getElem?_cons_succ, getElem?_cons_zero]; rfl) (by kernel_rfl) (by exact fun _ _ _ h => h) (by first | assumption | exact KB.refl _) (.inl ⟨by rfl, fun W hW => ?_⟩) ?_; rotate_left
      · (go_simp; first | done | with_reducible rfl)
      try simp only [Act.put, List.setIfInBounds_toArray, List.set_cons_zero, List.set_cons_succ]
      refine btake 9 (oi := _) (v := ?_) (by simp only [getElem?_toArray, getElem?_cons_succ, getElem?_cons_zero]; rfl) (by kernel_rfl) (by exact fun _ _ _ h => h) (by first | assumption | exact KB.refl _) (.inl ⟨by rfl, fun W hW => ?_⟩) ?_; rotate_left
      · (go_simp; first | done | with_reducible rfl)
      try simp only [Act.put, List.setIfInBounds_toArray, List.set_cons_zero, List.set_cons_succ]
      refine bdone (by kernel_rfl) ?_
      clear hkb e9 hb0
      go_wp2_with fail
      refine (VOf_own u7 none 0 0 [] (.inl rfl) rfl (by omega)).mono ?_
      intro e u8 hv8
      obtain ⟨A8, n8, c8, R8, rfl, hv8, h8⟩ := hv8.ans
      have hvh8 := VH.of hv8 ((ofV_lim (l := ([] : List Dt.D2))).mono (m' := 120) (by simp)) (ofV_right [])
      have hb8 := B7.out.trans (h8.mono B7.out.size)
      have H8 := Lib.hid (And.intro hvh8 hb8)
      clear hv8 h8 hvh8 hb8
      go_wp2_with fail
      have hbx := balloc (Below.refl u8.heap.size u8) (.cells #[.slice A8 n8 c8] 27)
      have k10 := Bx.new u8 (.slice A8 n8 c8)
      have hb9 := H8.out.2.trans (hbx.mono H8.out.2.size)
      have hg9 : g9 < u8.heap.size := Nat.lt_of_lt_of_le H5.out.2.2.1.1 H8.out.2.size
      have hww : w.heap.size ≤ u8.heap.size := Nat.le_trans H5.out.2.2.2.size H8.out.2.size
      have H9 := Lib.hid (And.intro (H8.out.1.below hbx) (And.intro k10 (And.intro (H5.out.1.below hb9) (And.intro (H5.out.2.2.1.below hb9) (And.intro ((H5.out.2.1.below hb9).more hb9.size) (H5.out.2.2.2.trans (hb9.mono H5.out.2.2.2.size)))))))
      clear hbx k10 hb9 H8 B1 B6 B7 V6 H5
      have hn910 : u8.heap.size ≠ g9 := by omega
      generalize u8.alloc (.cells #[.slice A8 n8 c8] 27) = W2 at *
      generalize u8.heap.size = g10 at *
      go_loopw [11] (fun x11 wr => ∃ (i : Nat) (A5 : Option Addr) (n5 c5 : Nat), i ≤ N ∧ x11 = .int .i64 (i : Int) ∧ VH 120 wr A5 n5 c5 (ofV (visit L d i)) ∧ Bx wr g10 (.slice A5 n5 c5) ∧ VH 120 wr A4 n4 c4 (ofV L) ∧ At wr g9 [.slice A4 n4 c4] ∧ Sl wr wr.heap.size A3 (dv L) ∧ Below w.heap.size w wr) (fun x11 _ => N - (intOf x11).toNat)
      case atStart => exact ⟨0, A8, n8, c8, by omega, rfl, H9.out⟩
      case round =>
        clear H9
        obtain ⟨i, A5, n5, c5, hi, rfl, hrel⟩ := hrel
        have HR := Lib.hid hrel
        clear hrel
        by_cases hit : i < N
        · have hNp : 0 < N := by omega
          have hpN : N - 1 - (i + d) % N < L.length := by have := HL.out.2.2.1; omega
          have hvs := visit_succ L d i
          rw [HL.out.2.2.1] at hvs
          have hmod := Nat.mod_lt (i + d) hNp
          have g1 : IntKind.i64.wrap ((N : Int) - 1) = (N : Int) - 1 := by rw [IntKind.wrap_i64]; omega
          have g2 : IntKind.i64.wrap (d : Int) = (d : Int) := by rw [IntKind.wrap_i64]; omega
          have g3 : IntKind.i64.wrap ((i : Int) + (d : Int)) = ((i + d : Nat) : Int) := by rw [IntKind.wrap_i64]; omega
          have hd5 : decide ((i : Int) < (N : Int)) = true := by rw [decide_eq_true_eq]; omega
          have hmc : (((i : Int) + (d : Int)) % (N : Int)) = (((i + d) % N : Nat) : Int) := by rw [Int.natCast_emod, Int.natCast_add]
          obtain ⟨pp, hpp⟩ : ∃ pp, N - 1 - (i + d) % N = pp := ⟨_, rfl⟩
          have hJ : wrap64 ((N : Int) - 1 - ((i : Int) + (d : Int)) % (N : Int)) = (pp : Int) := by
            rw [hmc, IntWalk.wrap64_in _ (by omega)]
            omega
          rw [hpp] at hpN hvs
          have hpp1 : (pp : Int) < (N : Int) := by omega
          have hpp0 : (0 : Int) ≤ (pp : Int) := by omega
          obtain ⟨b, o, rfl, _, _, y0, y1⟩ := dotAt HR.out.2.2.2.2.1 hpN
          have hok : (L[pp]?.getD ⟨0, 0⟩).ok := by
            rw [List.getElem?_eq_getElem hpN]
            exact HL.out.2.1 _ (List.getElem_mem hpN)
          rw [List.getD_eq_getElem?_getD] at hvs
          obtain ⟨z, hz⟩ : ∃ z, L[pp]?.getD ⟨0, 0⟩ = z := ⟨_, rfl⟩
          rw [hz] at y0 y1 hok hvs
          have hzm : z ∈ L := by rw [← hz, List.getElem?_eq_getElem hpN]; exact List.getElem_mem hpN
          have HV := Lib.hid (And.intro hvs (And.intro hok hzm))
          clear hvs hok hzm hz hpN hmc hmod
          obtain ⟨zr, zq⟩ := z
          dsimp only at y0 y1
          have hdr := fun W => RDRight_any W ⟨zr, zq⟩
          unfold Dt.D2.v at hdr
          obtain ⟨rg, hrg⟩ : ∃ p, Dt.D2.right ⟨zr, zq⟩ = p := ⟨_, rfl⟩
          rw [hrg] at hdr
          have HD := Lib.hid hdr
          have HG := Lib.hid hrg
          clear hdr hrg
          go_wp2_with fail
          have hb1 := boxD wr ⟨zr, zq⟩
          have a12 := At.new wr 32 #[.int .i64 zr, .int .i64 zq]
          dsimp only at hb1
          have hg12 : g10 < wr.heap.size := HR.out.2.1.lt
          have hri : i64in zr := HV.out.2.1.1
          have H1' := Lib.hid (And.intro (HR.out.1.below hb1) (And.intro (HR.out.2.1.below hb1) (And.intro (HR.out.2.2.1.below hb1) (And.intro (HR.out.2.2.2.1.below hb1) (And.intro ((HR.out.2.2.2.2.1.below hb1).more hb1.size) (And.intro a12 (HR.out.2.2.2.2.2.trans (hb1.mono HR.out.2.2.2.2.2.size))))))))
          clear hb1 a12 HR y0 y1
          generalize wr.alloc (.cells #[.int .i64 zr, .int .i64 zq] 32) = W3 at *
          generalize wr.heap.size = g12 at *
          refine (HD.out W3).mono ?_
          rintro e t1 ⟨rfl, h1⟩
          have HT := Lib.hid (And.intro (H1'.out.1.below h1) (And.intro (H1'.out.2.1.below h1) (And.intro (H1'.out.2.2.1.below h1) (And.intro (H1'.out.2.2.2.1.below h1) (And.intro ((H1'.out.2.2.2.2.1.below h1).more h1.size) (And.intro (H1'.out.2.2.2.2.2.1.below h1) (H1'.out.2.2.2.2.2.2.trans (h1.mono H1'.out.2.2.2.2.2.2.size))))))))
          clear h1 H1' HD
          have z9 := HT.out.2.2.2.1.c 0 rfl
          have z10 := HT.out.2.1.at_.c 0 rfl
          have x0 := HT.out.2.2.2.2.2.1.c 0 rfl
          have x1 := HT.out.2.2.2.2.2.1.c 1 rfl
          cases rg with
          | false =>
            go_wp2_with fail
            refine (HT.out.2.2.1.has (by omega) zr zq hri).mono ?_
            rintro e t2 ⟨rfl, h2⟩
            rw [has_ofV, HG.out, Bool.false_and]
            have z10' := (HT.out.2.1.at_.below h2).c 0 rfl
            have x0' := (HT.out.2.2.2.2.2.1.below h2).c 0 rfl
            have x1' := (HT.out.2.2.2.2.2.1.below h2).c 1 rfl
            have hva := HT.out.1.below h2
            clear z9 z10 x0 x1
            go_wp2_with fail
            refine (hva.add (by omega) zr zq).mono ?_
            rintro e t3 ⟨A6, n6, c6, R6, rfl, hv6, h3⟩
            have h23 := h2.trans (h3.mono h2.size)
            have hn6 : n6 = 0 := by rw [← hv6.len, addV, if_neg (by rw [HG.out]; simp)]; rfl
            subst hn6
            have hst := skip_ofV (visit L d i) HG.out
            rw [← HV.out.1] at hst
            have hre : VH 120 t3 A5 n5 c5 (ofV (visit L d (i + 1))) ∧ Bx t3 g10 (.slice A5 n5 c5) ∧ VH 120 t3 A4 n4 c4 (ofV L) ∧ At t3 g9 [.slice A4 n4 c4] ∧ Sl t3 t3.heap.size (some ⟨b, o, none⟩) (dv L) ∧ Below w.heap.size w t3 := by
              rw [hst]
              exact ⟨HT.out.1.below h23, HT.out.2.1.below h23, HT.out.2.2.1.below h23, HT.out.2.2.2.1.below h23, (HT.out.2.2.2.2.1.below h23).more h23.size, HT.out.2.2.2.2.2.2.trans (h23.mono HT.out.2.2.2.2.2.2.size)⟩
            have hfl := fldVo A6 0 c6
            clear z10' x0' x1' hva h2 h3 h23 hv6 hst
            go_wp2_with fail
            go_roundw
            case rel => exact ⟨i + 1, A5, n5, c5, hit, by go_num, hre⟩
            case measure => simp [intOf]; omega
          | true =>
            have hca := count_add (visit L d i) HG.out
            have hst := add_ofV (visit L d i) HG.out
            have hhw : hasV (ofV (visit L d i)) ⟨zr, zq⟩ = decide ((⟨zr, zq⟩ : Dt.D2) ∈ visit L d i) := by rw [has_ofV, HG.out, Bool.true_and]
            have hhv : hasV (ofV L) ⟨zr, zq⟩ = true := by rw [has_ofV, HG.out, Bool.true_and, decide_eq_true HV.out.2.2]
            rw [← HV.out.1] at hca hst
            have hhn : hasV (ofV (visit L d (i + 1))) ⟨zr, zq⟩ = true := by rw [has_ofV, HG.out, Bool.true_and, HV.out.1, decide_eq_true (List.mem_append.2 (.inr (List.mem_singleton.2 rfl)))]
            have hbd := countV_bdo (ofV_right (visit L d i))
            obtain ⟨cn, hcn⟩ : ∃ n, countV (ofV (visit L d i)) = n := ⟨_, rfl⟩
            rw [hcn] at hca hbd
            have HC := Lib.hid (And.intro hca (And.intro hst (And.intro hhw (And.intro hhv (And.intro hhn hcn)))))
            have e10 := HT.out.2.1.at_.e 0 rfl
            have e12 := HT.out.2.2.2.2.2.1.e 0 rfl
            have e12' := HT.out.2.2.2.2.2.1.e 1 rfl
            clear hca hst hhw hhv hhn hcn z9 z10 x0 x1
            go_wp2_with fail
            have hb0 : Below t1.heap.size t1 t1.drew := (Below.refl _ t1).drew
            refine bstartH (t1.heap) (by kernel_rfl) ?_
            refine btake 0 (oi := _) (v := ?_) (by simp only [List.getElem?_toArray, List.getElem?_cons_zero]; rfl) (by kernel_rfl) (by exact fun _ _ _ h => h) (by first | assumption | exact KB.refl _) (.inl ⟨by rfl, fun W hW => ?_⟩) ?_; rotate_left
            · (go_simp; first | done | with_reducible rfl)
            try simp only [Act.put, List.setIfInBounds_toArray, List.set_cons_zero, List.set_cons_succ]
            refine btake 1 (oi := _) (v := ?_) (by simp only [getElem?_toArray, getElem?_cons_succ, getElem?_cons_zero]; rfl) (by kernel_rfl) (by exact fun _ _ _ h => h) (by first | assumption | exact KB.refl _) (.inl ⟨by rfl, fun W hW => ?_⟩) ?_; rotate_left
            · (go_simp; first | done | with_reducible rfl)
            try simp only [Act.put, List.setIfInBounds_toArray, List.set_cons_zero, List.set_cons_succ]
            refine btake 3 (oi := _) (v := ?_) (by simp only [getElem?_toArray, getElem?_cons_succ, getElem?_cons_zero]; rfl) (by kernel_rfl) (by exact fun _ _ _ h => h) (by first | assumption | exact KB.refl _) (.inl ⟨by rfl, fun W hW => ?_⟩) ?_; rotate_left
            · (go_simp; first | done | with_reducible rfl)
            try simp only [Act.put, List.setIfInBounds_toArray, List.set_cons_zero, List.set_cons_succ]
            -- 2: newsreel/vector.Has
            refine bopH 2 (o := _) (by simp only [getElem?_toArray, getElem?_cons_succ, getElem?_cons_zero]; rfl) (by kernel_rfl) (by first | assumption | exact KB.refl _) (by rfl) (fun K hK => ?_)
            go_simp
            refine ((HT.out.1.below hb0).has (by omega) zr zq hri).mono ?_
            rintro e t2 ⟨rfl, h2⟩
            rw [HC.out.2.2.1]
            have B2 := Lib.hid (hb0.trans (h2.mono hb0.size))
            have hkb : KB t1.heap t2 := KB.of B2.out
            clear h2
            refine hK.out _ _ hkb ?_; clear hK K
            try simp only [Act.put, List.setIfInBounds_toArray, List.set_cons_zero, List.set_cons_succ]
            -- 4: newsreel/vector.Count
            refine bopH 4 (o := _) (by simp only [getElem?_toArray, getElem?_cons_succ, getElem?_cons_zero]; rfl) (by kernel_rfl) (by first | assumption | exact KB.refl _) (by rfl) (fun K hK => ?_)
            go_simp
            refine ((HT.out.1.below B2.out).count (by omega)).mono ?_
            rintro e t3 ⟨rfl, h3⟩
            rw [HC.out.2.2.2.2.2]
            have B3 := Lib.hid (B2.out.trans (h3.mono B2.out.size))
            have hkb : KB t1.heap t3 := KB.of B3.out
            clear h3
            refine hK.out _ _ hkb ?_; clear hK K
            try simp only [Act.put, List.setIfInBounds_toArray, List.set_cons_zero, List.set_cons_succ]
            refine btake 5 (oi := _) (v := ?_) (by simp only [getElem?_toArray, getElem?_cons_succ, getElem?_cons_zero]; rfl) (by kernel_rfl) (by exact fun _ _ _ h => h) (by first | assumption | exact KB.refl _) (.inl ⟨by rfl, fun W hW => ?_⟩) ?_; rotate_left
            · (go_simp; first | done | with_reducible rfl)
            try simp only [Act.put, List.setIfInBounds_toArray, List.set_cons_zero, List.set_cons_succ]
            refine btake 6 (oi := _) (v := ?_) (by simp only [getElem?_toArray, getElem?_cons_succ, getElem?_cons_zero]; rfl) (by kernel_rfl) (by exact fun _ _ _ h => h) (by first | assumption | exact KB.refl _) (.inl ⟨by rfl, fun W hW => ?_⟩) ?_; rotate_left
            · (go_simp; first | done | with_reducible rfl)
            try simp only [Act.put, List.setIfInBounds_toArray, List.set_cons_zero, List.set_cons_succ]
            refine bdone (by kernel_rfl) ?_
            clear hkb hb0 e10 e12 e12'
            have z10 := (HT.out.2.1.at_.below B3.out).c 0 rfl
            have x0 := (HT.out.2.2.2.2.2.1.below B3.out).c 0 rfl
            have x1 := (HT.out.2.2.2.2.2.1.below B3.out).c 1 rfl
            go_wp2_with fail
            refine ((HT.out.1.below B3.out).add (by omega) zr zq).mono ?_
            rintro e t4 ⟨A6, n6, c6, R6, rfl, hv6, h4⟩
            rw [HC.out.2.1] at hv6
            have B4 := B3.out.trans (h4.mono B3.out.size)
            have kx := HT.out.2.1.below B4
            have hvh6 := (VH.of hv6 ((ofV_lim (l := visit L d (i + 1))).mono (m' := 120) (by unfold visit; rw [List.length_map, List.length_range]; omega)) (ofV_right _)).box kx (.slice A6 n6 c6)
            have hvL := (HT.out.2.2.1.below B4).box kx (.slice A6 n6 c6)
            have hsl6 := Sl.boxD kx (.slice A6 n6 c6) ((HT.out.2.2.2.2.1.below B4).more B4.size)
            have a9 := (HT.out.2.2.2.1.below B4).set_other (g' := g10) 0 (.slice A6 n6 c6) hn910
            have a12 := (HT.out.2.2.2.2.2.1.below B4).set_other (g' := g10) 0 (.slice A6 n6 c6) (by omega)
            have k10 := kx.set (.slice A6 n6 c6)
            have zc := kx.at_.c 0 rfl
            have zf := kx.at_.f 0 rfl
            have hbz := (HT.out.2.2.2.2.2.2.trans (B4.mono HT.out.2.2.2.2.2.2.size)).setCell (p := ⟨g10, 0, none⟩) hww (.slice A6 n6 c6)
            have H6 := Lib.hid (And.intro hvh6 (And.intro k10 (And.intro hvL (And.intro a9 (And.intro hsl6 (And.intro a12 hbz))))))
            have y0 := a12.c 0 rfl
            have y1 := a12.c 1 rfl
            have y10 := k10.at_.c 0 rfl
            clear z10 x0 x1 hv6 h4 B4 kx hvh6 hvL hsl6 a9 a12 k10 hbz
            go_wp2_with fail
            generalize t4.setCell ⟨g10, 0, none⟩ (.slice A6 n6 c6) = W4 at *
            refine (H6.out.1.has (by omega) zr zq hri).mono ?_
            rintro e t5 ⟨rfl, h5⟩
            rw [HC.out.2.2.2.2.1]
            have y9 := (H6.out.2.2.2.1.below h5).c 0 rfl
            have x0 := (H6.out.2.2.2.2.2.1.below h5).c 0 rfl
            have x1 := (H6.out.2.2.2.2.2.1.below h5).c 1 rfl
            have hvL5 := H6.out.2.2.1.below h5
            clear y0 y1 y10
            go_wp2_with fail
            refine (hvL5.has (by omega) zr zq hri).mono ?_
            rintro e t6 ⟨rfl, h6⟩
            rw [HC.out.2.2.2.1]
            have B6 := h5.trans (h6.mono h5.size)
            have y10 := (H6.out.2.1.at_.below B6).c 0 rfl
            have hvw := H6.out.1.below B6
            have hre6 : VH 120 t6 A6 n6 c6 (ofV (visit L d (i + 1))) ∧ Bx t6 g10 (.slice A6 n6 c6) ∧ VH 120 t6 A4 n4 c4 (ofV L) ∧ At t6 g9 [.slice A4 n4 c4] ∧ Sl t6 t6.heap.size (some ⟨b, o, none⟩) (dv L) ∧ Below w.heap.size w t6 :=
              ⟨hvw, H6.out.2.1.below B6, H6.out.2.2.1.below B6, H6.out.2.2.2.1.below B6, (H6.out.2.2.2.2.1.below B6).more B6.size, H6.out.2.2.2.2.2.2.trans (B6.mono H6.out.2.2.2.2.2.2.size)⟩
            have hct := hvw.count (by omega)
            rw [HC.out.1] at hct
            have HRE := Lib.hid hre6
            have HCT := Lib.hid hct
            clear hvL5 h5 h6 B6 y9 x0 x1 hvw hre6 hct
            by_cases hin : (⟨zr, zq⟩ : Dt.D2) ∈ visit L d i
            · simp only [decide_eq_true hin]
              have hcc := HCT.out
              rw [if_pos hin] at hcc
              go_wp2_with fail
              refine hcc.mono ?_
              rintro e t7 ⟨rfl, h7⟩
              have hst7 : VH 120 t7 A6 n6 c6 (ofV (visit L d (i + 1))) ∧ Bx t7 g10 (.slice A6 n6 c6) ∧ VH 120 t7 A4 n4 c4 (ofV L) ∧ At t7 g9 [.slice A4 n4 c4] ∧ Sl t7 t7.heap.size (some ⟨b, o, none⟩) (dv L) ∧ Below w.heap.size w t7 :=
                ⟨HRE.out.1.below h7, HRE.out.2.1.below h7, HRE.out.2.2.1.below h7, HRE.out.2.2.2.1.below h7, (HRE.out.2.2.2.2.1.below h7).more h7.size, HRE.out.2.2.2.2.2.trans (h7.mono HRE.out.2.2.2.2.2.size)⟩
              have HF := Lib.hid hst7
              clear h7 hcc hst7 y10
              go_wp2_with fail
              go_roundw
              case rel => exact ⟨i + 1, A6, n6, c6, hit, by go_num, HF.out⟩
              case measure => simp [intOf]; omega
            · simp only [decide_eq_false hin]
              have hcc := HCT.out
              rw [if_neg hin] at hcc
              have hw1 : IntKind.i64.wrap (cn + 1) = cn + 1 := by rw [IntKind.wrap_i64]; omega
              go_wp2_with fail
              refine hcc.mono ?_
              rintro e t7 ⟨rfl, h7⟩
              have hst7 : VH 120 t7 A6 n6 c6 (ofV (visit L d (i + 1))) ∧ Bx t7 g10 (.slice A6 n6 c6) ∧ VH 120 t7 A4 n4 c4 (ofV L) ∧ At t7 g9 [.slice A4 n4 c4] ∧ Sl t7 t7.heap.size (some ⟨b, o, none⟩) (dv L) ∧ Below w.heap.size w t7 :=
                ⟨HRE.out.1.below h7, HRE.out.2.1.below h7, HRE.out.2.2.1.below h7, HRE.out.2.2.2.1.below h7, (HRE.out.2.2.2.2.1.below h7).more h7.size, HRE.out.2.2.2.2.2.trans (h7.mono HRE.out.2.2.2.2.2.size)⟩
              have HF := Lib.hid hst7
              clear h7 hcc hst7 y10
              go_wp2_with fail
              go_roundw
              case rel => exact ⟨i + 1, A6, n6, c6, hit, by go_num, HF.out⟩
              case measure => simp [intOf]; omega
        · obtain rfl : i = N := by omega
          have hd5 : decide ((i : Int) < (i : Int)) = false := by rw [decide_eq_false_iff_not]; omega
          have hva := visit_all L d
          rw [HL.out.2.2.1] at hva
          rw [hva] at HR
          have z9 := HR.out.2.2.2.1.c 0 rfl
          have z10 := HR.out.2.1.at_.c 0 rfl
          go_wp2_with fail
          refine (HR.out.2.2.1.same HR.out.1 (by omega) (by omega) rfl).mono ?_
          rintro e t1 ⟨rfl, h1⟩
          have z9' := (HR.out.2.2.2.1.below h1).c 0 rfl
          have z10' := (HR.out.2.1.at_.below h1).c 0 rfl
          have hva' := HR.out.1.below h1
          have hvb' := HR.out.2.2.1.below h1
          have hbz := HR.out.2.2.2.2.2.trans (h1.mono HR.out.2.2.2.2.2.size)
          have HZ := Lib.hid (And.intro hva' (And.intro hvb' hbz))
          clear z9 z10 h1 hva' hvb' hbz
          go_wp2_with fail
          refine (HZ.out.1.same HZ.out.2.1 (by omega) (by omega) rfl).mono ?_
          rintro e t2 ⟨rfl, h2⟩
          have hbz := HZ.out.2.2.trans (h2.mono HZ.out.2.2.size)
          clear h2 z9' z10'
          go_wp2_with fail
          go_ret
          exact ⟨rfl, hbz⟩
end Go.Proofs.Ytaflikgdlkaefaa
/- 'VectorOf': whatever comes in, the law returns true and leaves it as it was. No condition. -/
namespace Go.Proofs.Ytaflikgdlkaefaa.vectorOf
open Go.RowKit

theorem walk {H : Type} {enc : TypeId × Value → H} (W : World) (args : Array Value) (ds : List (DataW H)) (p : List MemPlace) (h : Args enc Try.f6 W args ds p) :
    Calls Try.prog 6 args W fun e W' => e = .returned (.bool true) ∧ Below W.heap.size W W' := by
  obtain ⟨base, vs, rfl, m0⟩ := h.many (ts := [53, 22, 5]) (by rw [Try.params6])
  obtain ⟨v0, vs1, d0, ds1, p0, q0, rfl, rfl, o0, m1⟩ := m0.cons
  obtain ⟨v1, vs2, d1, ds2, p1, q1, rfl, rfl, o1, m2⟩ := m1.cons
  obtain ⟨v2, vs3, d2, ds3, p2, q2, rfl, rfl, o2, m3⟩ := m2.cons
  obtain ⟨rfl, rfl⟩ := m3.nil
  obtain ⟨A0, c0, l0, rfl, h0a, h0b, h0c, h0e⟩ := o0.dots
  obtain ⟨A1, c1, l1, rfl, h1a, h1b, h1c, h1e, h1d⟩ := o1.u16s
  obtain ⟨n2, rfl, h2a⟩ := o2.u8 Try.underlying5
  exact VectorOf_walk W A0 c0 l0 h0a h0e A1 c1 l1 h1a h1e n2 h2a

theorem types : ∀ t ∈ Try.f6.params.toList, Try.prog.readableRec t = true ∧ t < Try.prog.types.size := by
  rw [Try.params6]
  intro t ht
  simp only [List.mem_cons, List.not_mem_nil, or_false] at ht
  rcases ht with rfl | rfl | rfl
  all_goals exact ⟨by kernel_rfl, of_decide_eq_true (by kernel_rfl)⟩
theorem fits (H : Type) (ds : List (DataW H)) (hl : ds.length = Try.f6.params.toList.length) : Rows.vectorOfSpec.fn H (ds ++ []) = { results := [.lit (.bool true)], args := ds } := by
  rw [Try.params6] at hl
  match ds, hl with
  | [d0, d1, d2], _ => rfl

set_option maxRecDepth 100000 in
theorem over : Rows.vectorOfRow.holds Try.pinned (OpenSpec.ofChange Rows.vectorOfSpec) :=
  OpenClaim.holds_of_wide 6 Try.f6 rfl rfl rfl rfl rfl rfl rfl ⟨rfl, rfl, rfl, rfl, rfl⟩ rfl rfl rfl rfl rfl (by kernel_rfl) Try.func6 (by kernel_rfl)
    (of_decide_eq_true (by kernel_rfl)) (by unfold Func.isWrapper; first | (rw [if_pos (by decide +kernel)]; kernel_rfl) | (rw [if_neg (by decide +kernel)]; exact ⟨rfl, rfl⟩))
    (fun os started H enc _ => lifted 6 Try.f6 Rows.vectorOfSpec Try.func6 (by kernel_rfl) rfl rfl types fits os started H enc
      (ChangeSpec.witness6 (enc := enc) (C := Try.checked) false ⟨#[], #[.slice none 0 0, .slice none 0 0, .int .u8 0], []⟩ 8 (by kernel_rfl) (by kernel_rfl) (by kernel_rfl) (by kernel_rfl))
      (fun W args ds p h => walk W args ds p h))

theorem proved : Rows.VectorOfSaid := over
end Go.Proofs.Ytaflikgdlkaefaa.vectorOf
