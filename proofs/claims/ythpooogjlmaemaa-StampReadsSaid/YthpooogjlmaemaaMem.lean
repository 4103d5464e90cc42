/- Words for memory: a slice that reads as a list; a row of bytes of the call's own; append. -/
import Derived.Test.YthpooogjlmaemaaRows
import Derived.WalkKit
import Derived.ProofKit
import Derived.OpenShut
import Derived.Maps.AppendAt
import Derived.Deep.AppendLies
import Derived.Deep.Draws
import Derived.Lib.Hide
import Derived.Laws.BytesArg
import Derived.Laws.IdiomStrings
import Derived.WalkSpells
import Derived.Lib.SliceRun
import Derived.WalkLawsBesides
namespace Go.Proofs.Ythpooogjlmaemaa
open Go.RowKit

/-- A number fits 64 bits, 32 bits: behind a name, so that the walk doesn't meet the long numeral. -/
def U64 (n : Nat) : Prop := n < 18446744073709551616
theorem U64.out {n : Nat} (h : U64 n) : n < 18446744073709551616 := h
theorem U64.mk {n : Nat} (h : n < 18446744073709551616) : U64 n := h

/-! ### bytes as cells -/
def u8v (c : UInt8) : Value := .int .u8 (c.toNat : Int)
def bv (l : List UInt8) : List Value := l.map u8v
@[simp] theorem bv_len (l : List UInt8) : (bv l).length = l.length := by simp [bv]
@[simp] theorem bv_nil : bv [] = [] := rfl
@[simp] theorem bv_app (a b : List UInt8) : bv (a ++ b) = bv a ++ bv b := by simp [bv]
theorem bv_take (l : List UInt8) (k : Nat) : (bv l).take k = bv (l.take k) := by simp [bv, List.map_take]
theorem bv_drop (l : List UInt8) (k : Nat) : (bv l).drop k = bv (l.drop k) := by simp [bv, List.map_drop]
theorem bv_get (l : List UInt8) (k : Nat) (h : k < l.length) : (bv l)[k]? = some (.int .u8 ((l[k]?.getD 0).toNat : Int)) := by
  simp [bv, u8v, List.getElem?_map, List.getElem?_eq_getElem h]
theorem bv_one (l : List UInt8) : ∀ u ∈ bv l, u.oneCell' = true := by
  intro u hu
  simp only [bv, List.mem_map] at hu
  obtain ⟨c, _, rfl⟩ := hu
  rfl

/-! ### a slice that reads as a list of cells; all of them below block B -/
def Sl (w : World) (B : Nat) (A : Option Addr) (xs : List Value) : Prop :=
  xs = [] ∨ ∃ b o, A = some ⟨b, o, none⟩ ∧ b < B ∧ b < w.heap.size ∧ ∀ j u, xs[j]? = some u → w.cell? ⟨b, o + j, none⟩ = some u

section
variable {w w' : World} {B B' : Nat} {A : Option Addr} {xs : List Value}
theorem Sl.nil : Sl w B A [] := .inl rfl
theorem Sl.keep (h : Sl w B A xs) (hs : w.heap.size ≤ w'.heap.size) (hk : ∀ p : Addr, p.block < B → p.block < w.heap.size → w'.cell? p = w.cell? p) : Sl w' B A xs := by
  rcases h with h | ⟨b, o, e, hb, hb', hc⟩
  · exact .inl h
  · exact .inr ⟨b, o, e, hb, by omega, fun j u hu => (hk _ hb hb').trans (hc j u hu)⟩
theorem Sl.more (h : Sl w B A xs) (hB : B ≤ B') : Sl w B' A xs := by
  rcases h with h | ⟨b, o, e, hb, hb', hc⟩
  · exact .inl h
  · exact .inr ⟨b, o, e, by omega, hb', hc⟩
theorem Sl.below (h : Sl w B A xs) (hb : Below B w w') : Sl w' B A xs := h.keep hb.size fun _ hp _ => hb.cell hp
theorem Sl.below' (h : Sl w B A xs) (hb : Below w.heap.size w w') : Sl w' B A xs := h.keep hb.size fun _ _ hp => hb.cell hp
theorem Sl.drew (h : Sl w B A xs) : Sl w.drew B A xs := h
theorem Sl.drewN (h : Sl w B A xs) (n : Nat) : Sl (w.drewN n) B A xs := h
theorem Sl.alloc (h : Sl w B A xs) (o : Obj) : Sl (w.alloc o) B A xs := h.keep (by simp) fun p _ hp => World.cell?_alloc_lt w o p hp
theorem Sl.setCell (h : Sl w B A xs) {p : Addr} (hB : B ≤ p.block) (u : Value) : Sl (w.setCell p u) B A xs :=
  h.keep (by simp) fun q hq _ => World.cell?_setCell_other w p q u (fun e => by subst e; omega)
theorem Sl.grown (h : Sl w B A xs) {row : Option Nat} (hg : w.grownBy w' row) (hr : ∀ g, row = some g → B ≤ g) : Sl w' B A xs :=
  h.keep hg.size fun p hp hp' => World.cell?_of_block (hg.block p.block hp' (fun e => by have := hr _ e.symm; omega))
theorem Sl.at_ (h : Sl w B A xs) {k : Nat} (hk : k < xs.length) : ∃ b o, A = some ⟨b, o, none⟩ ∧ b < B ∧ b < w.heap.size ∧ ∀ j u, xs[j]? = some u → w.cell? ⟨b, o + j, none⟩ = some u := by
  rcases h with rfl | h
  · simp at hk
  · exact h
theorem Sl.tk (h : Sl w B A xs) (k : Nat) : Sl w B A (xs.take k) := by
  rcases h with h | ⟨b, o, e, hb, hb', hc⟩
  · subst h; simp [Sl]
  · refine .inr ⟨b, o, e, hb, hb', fun j u hu => hc j u ?_⟩
    rw [List.getElem?_take] at hu
    split at hu
    · exact hu
    · cases hu
theorem Sl.cut (h : Sl w B A xs) (k cap : Nat) (hc : xs.length ≤ cap) : Sl w B (if cap = k then A else A.map (·.add k)) (xs.drop k) := by
  by_cases hk : xs.length ≤ k
  · exact .inl (List.drop_eq_nil_of_le hk)
  · rw [if_neg (by omega)]
    rcases h with h | ⟨b, o, e, hb, hb', hcell⟩
    · subst h; exact .inl (by simp)
    · refine .inr ⟨b, o + k, ?_, hb, hb', fun j u hu => ?_⟩
      · rw [e]; simp only [Option.map_some, Addr.add]
        split
        · rename_i h0; subst h0; rfl
        · rfl
      · rw [List.getElem?_drop] at hu
        rw [Nat.add_assoc]
        exact hcell _ u hu
theorem Sl.new (w : World) (t : TypeId) (cs : Array Value) (fr : Nat × Nat) : Sl (w.alloc (.cells cs t fr)) (w.heap.size + 1) (some ⟨w.heap.size, 0, none⟩) cs.toList := by
  refine .inr ⟨_, _, rfl, by omega, by simp, fun j u hu => ?_⟩
  simp only [World.cell?, World.alloc, Nat.zero_add]
  rw [Array.getElem?_push_size]
  simpa using hu
end

theorem addr0 (g j : Nat) : (⟨g, 0, none⟩ : Addr).add j = ⟨g, j, none⟩ := by
  unfold Addr.add
  split
  · rename_i h; subst h; rfl
  · simp

/-! ### a row of bytes of the call's own -/
abbrev OwnB (w : World) (base : Nat) (v : Value) (l : List UInt8) : Prop := w.ownsRow base 5 1 v l.length (bv l)
theorem u8info : (Try.prog.info? 5).map (fun i => (i.zero, i.size, i.bytes)) = some (some (.int .u8 0), 1, 1) := by kernel_rfl
theorem OwnB.nil (w : World) (base : Nat) : OwnB w base (.slice none 0 0) [] := World.ownsRow_nil w base _ 1
theorem OwnB.form {w : World} {base : Nat} {v : Value} {l : List UInt8} (h : OwnB w base v l) : ∃ A c, v = .slice A l.length c ∧ l.length ≤ c ∧ c ≤ maxLen ∧ Sl w w.heap.size A (bv l) ∧ (A = none → l = []) ∧ (∀ a, A = some a → base ≤ a.block ∧ a.spot = none ∧ a.off = 0) := by
  rcases h.2 with ⟨rfl, hn⟩ | ⟨g, cap, cur, rfl, hb, hg, hn, hm, hcs, ht⟩
  · refine ⟨none, 0, by rw [hn], by omega, by simp [maxLen], ?_, fun _ => List.eq_nil_of_length_eq_zero hn, (fun a h => (by cases h))⟩
    exact .inl (by simp [List.eq_nil_of_length_eq_zero hn])
  · have hlt : g < w.heap.size := (Array.getElem?_eq_some_iff.1 hg).1
    refine ⟨_, cap, rfl, hn, hm, .inr ⟨g, 0, rfl, hlt, hlt, fun j u hu => ?_⟩, (fun h => (by cases h)), (fun a h => by cases h; exact ⟨hb, rfl, rfl⟩)⟩
    have := h.cells (g := g) rfl j u hu
    rw [addr0] at this
    simpa using this
theorem OwnB.base_le {w : World} {base base' : Nat} {v : Value} {l : List UInt8} (h : OwnB w base v l) (hb : base' ≤ base) : OwnB w base' v l := by
  refine ⟨h.1, ?_⟩
  rcases h.2 with h | ⟨g, cap, cur, e, hb', r⟩
  · exact .inl h
  · exact .inr ⟨g, cap, cur, e, by omega, r⟩
/-- A row stands where a world has turned only elsewhere. -/
theorem OwnB.keep {w w' : World} {base : Nat} {v : Value} {l : List UInt8} (h : OwnB w base v l) {row : Option Nat} (hg : w.grownBy w' row) (hne : v.ownBlock = none ∨ v.ownBlock ≠ row) : OwnB w' base v l := h.kept hg hne
theorem OwnB.below {w w' : World} {base : Nat} {v : Value} {l : List UInt8} (h : OwnB w base v l) (hb : Below w.heap.size w w') : OwnB w' base v l :=
  h.kept (row := none) ⟨hb.os, hb.tape, hb.output, hb.size, fun k hk _ => hb.block k hk⟩ (by cases hv : v.ownBlock <;> simp)

/-- where a row lies now: where it lay, or in a new block. -/
def Went (w : World) (v v' : Value) : Prop := v'.ownBlock = v.ownBlock ∨ ∃ g, v'.ownBlock = some g ∧ w.heap.size ≤ g
theorem Went.refl (w : World) (v : Value) : Went w v v := .inl rfl
theorem grown_step {a b c : World} {row row' : Option Nat} (h : a.grownBy b row) (k : b.grownBy c row') (hr : row' = row ∨ ∀ g, row' = some g → a.heap.size ≤ g) : a.grownBy c row := by
  refine ⟨k.os.trans h.os, k.tape.trans h.tape, k.output.trans h.output, Nat.le_trans h.size k.size, fun i hi hne => ?_⟩
  refine (k.block i (Nat.lt_of_lt_of_le hi h.size) ?_).trans (h.block i hi hne)
  rcases hr with rfl | hr
  · exact hne
  · intro e; have := hr i e.symm; omega
theorem Went.row {w : World} {v v' : Value} (h : Went w v v') : v'.ownBlock = v.ownBlock ∨ ∀ g, v'.ownBlock = some g → w.heap.size ≤ g := by
  rcases h with h | ⟨g, h, hg⟩
  · exact .inl h
  · exact .inr fun g' e => by rw [h] at e; cases e; exact hg
theorem Went.step {w b : World} {v v' v'' : Value} {n : Nat} (h : Went w v v') (hs : w.heap.size ≤ b.heap.size) (hn : b.heap.size ≤ n) (k : v''.ownBlock = v'.ownBlock ∨ v''.ownBlock = some n) : Went w v v'' := by
  rcases k with k | k
  · rcases h with h | ⟨g, h, hg⟩
    · exact .inl (k.trans h)
    · exact .inr ⟨g, k.trans h, hg⟩
  · exact .inr ⟨_, k, by omega⟩
/-- Nothing that was there has turned, where the row was new. -/
theorem below_of_grown {w w' : World} {B : Nat} {row : Option Nat} (h : w.grownBy w' row) (hr : ∀ g, row = some g → B ≤ g) (hB : B ≤ w.heap.size) : Below B w w' :=
  ⟨h.os, h.tape, h.output, h.size, fun k hk => h.block k (by omega) (fun e => by have := hr k e.symm; omega)⟩

theorem bstep {w a b : World} (h : Below w.heap.size w a) (k : Below a.heap.size a b) : Below w.heap.size w b := h.trans (k.mono h.size)
theorem balloc {w a : World} (h : Below w.heap.size w a) (o : Obj) : Below w.heap.size w (a.alloc o) := h.alloc h.size o

/-- append: whatever bytes behind a row of the call's own. -/
theorem run_app (w : World) (ty : TypeId) {base : Nat} {v : Value} {l : List UInt8} (hown : OwnB w base v l) {B : Nat} {A : Option Addr} {m c : Nat} {k : List UInt8} (hr : Sl w B A (bv k)) (hm : m = k.length)
    (hbytes : l.length + k.length ≤ 140737488355328) (hbase : base ≤ w.heap.size) :
    ∃ v' w', (Builtin.append_ #[28, 28] ty #[v, .slice A m c]).run Try.prog w = .ok v' w' ∧ OwnB w' base v' (l ++ k) ∧ w.grownBy w' v.ownBlock ∧ (v'.ownBlock = v.ownBlock ∨ v'.ownBlock = some w.heap.size) := by
  subst hm
  obtain ⟨i, hi, hz, hz1, hz2⟩ := info_parts u8info
  have key : ∀ (ad : Addr), (∀ j u, (bv k)[j]? = some u → w.cell? (ad.add j) = some u) →
      ∃ v' w', (Builtin.append_ #[28, 28] ty #[v, .slice (some ad) k.length c]).run Try.prog w = .ok v' w' ∧ OwnB w' base v' (l ++ k) ∧ w.grownBy w' v.ownBlock ∧ (v'.ownBlock = v.ownBlock ∨ v'.ownBlock = some w.heap.size) := by
    intro ad hc
    obtain ⟨v', w', hrun, h2, h3, _, h5⟩ := run_append_own_at (P := Try.prog) w base 28 ty 5 i (.int .u8 0) 1 1 Try.underlying28 hi hz hz1 hz2 rfl (by omega) v l.length (bv l) hown ad k.length c (bv k)
      (by simp) hc (bv_one k) (by simp only [maxLen]; omega) (by omega) hbase
    exact ⟨v', w', hrun, by simpa [OwnB] using h2, h3, h5⟩
  rcases A with _ | ad
  · have hk : k = [] := by
      rcases hr with h | ⟨b, o, e, _⟩
      · simpa [bv] using h
      · cases e
    subst hk
    refine ⟨v, w, ?_, by simpa using hown, World.grownBy.refl w _, .inl rfl⟩
    rcases hown.2 with ⟨rfl, h0⟩ | ⟨g, cap, cur, rfl, _, _, hnc, _⟩
    · simp [Builtin.append_, run_underlying Try.underlying28, sizeOf, typeInfo, hi, Builtin.lenOf, Builtin.firstCells]
    · simp [Builtin.append_, run_underlying Try.underlying28, sizeOf, typeInfo, hi, Builtin.lenOf, Builtin.firstCells, hnc, storeCells]
  · refine key ad fun j u hu => ?_
    rcases hr with h | ⟨b, o, e, _, _, hc⟩
    · rw [h] at hu; cases hu
    · cases e
      have := hc j u hu
      simp only [Addr.add]
      split
      · rename_i h0; subst h0; simpa using this
      · exact this

section
variable {ops : Array Oper} {rest : List Oper} {o : Oper} {a : Act} {Q : Exit → Act → World → Prop} {w : World} {s x : Operand}
theorem wp_app {K : Act → World → Prop} (ho : o.op = .call { callee := .builtin .append, args := #[s, x], argTypes := #[28, 28] })
    {base : Nat} {v : Value} {l : List UInt8} (hown : OwnB w base v l) {B : Nat} {A : Option Addr} {m c : Nat} {k : List UInt8} (hr : Sl w B A (bv k)) (hm : m = k.length)
    (hs : a.eval s = v) (hx : a.eval x = .slice A m c) (hbytes : l.length + k.length ≤ 140737488355328) (hbase : base ≤ w.heap.size)
    (h : ∀ v' w', OwnB w' base v' (l ++ k) → w.grownBy w' v.ownBlock → (v'.ownBlock = v.ownBlock ∨ v'.ownBlock = some w.heap.size) → K (a.put o.dst v') w') : o.wp Try.prog a w K Q := by
  obtain ⟨v', w', hrun, h2, h3, h4⟩ := run_app w o.type hown hr (c := c) hm hbytes hbase
  unfold Oper.wp execOp
  simp only [ho, resolve, invoke, builtin, Sem.run_bind, Sem.run_pure, Result.andThen_ok, List.map_toArray, List.map_cons, List.map_nil, hs, hx, hrun]
  exact h v' w' h2 h3 h4
/-- append of a slice. -/
theorem app (hgd : o.guard = none) (ho : o.op = .call { callee := .builtin .append, args := #[s, x], argTypes := #[28, 28] })
    {base : Nat} {v : Value} {l : List UInt8} (hown : OwnB w base v l) {B : Nat} {A : Option Addr} {m c : Nat} {k : List UInt8} (hr : Sl w B A (bv k)) (hm : m = k.length)
    (hs : a.eval s = v) (hx : a.eval x = .slice A m c) (hbytes : l.length + k.length ≤ 140737488355328) (hbase : base ≤ w.heap.size)
    (h : ∀ v' w', OwnB w' base v' (l ++ k) → w.grownBy w' v.ownBlock → (v'.ownBlock = v.ownBlock ∨ v'.ownBlock = some w.heap.size) → wpList Try.prog ops Q rest (a.put o.dst v') w') : wpList Try.prog ops Q (o :: rest) a w :=
  wpList_plain hgd fun _ hK => wp_app ho hown hr hm hs hx hbytes hbase fun v' w' h2 h3 h4 => hK _ _ (h v' w' h2 h3 h4)
/-- append of bytes that are written out: they have just been laid. -/
theorem appN {xs : List Value} (hgd : o.guard = none) (ho : o.op = .call { callee := .builtin .append, args := #[s, x], argTypes := #[28, 28] })
    {base : Nat} {v : Value} {l : List UInt8} (hown : OwnB w base v l) {m c : Nat} {k : List UInt8} (hxs : xs = bv k) (hm : m = k.length)
    (hs : a.eval s = v) (hx : a.eval x = .slice (some ⟨w.heap.size, 0, none⟩) m c) (hbytes : l.length + k.length ≤ 140737488355328) (hbase : base ≤ w.heap.size)
    (h : ∀ v' w', OwnB w' base v' (l ++ k) → w.grownBy w' v.ownBlock → (v'.ownBlock = v.ownBlock ∨ v'.ownBlock = some (w.heap.size + 1)) → wpList Try.prog ops Q rest (a.put o.dst v') w') : wpList Try.prog ops Q (o :: rest) a (w.alloc (.cells xs.toArray 5)) := by
  subst hxs
  refine app hgd ho (hown.alloc _) (B := w.heap.size + 1) (A := some ⟨w.heap.size, 0, none⟩) (k := k) ?_ hm hs hx hbytes (by simp; omega) fun v' w' h2 h3 h4 => ?_
  · have := Sl.new w 5 (bv k).toArray (0, 0)
    simpa using this
  · refine h v' w' h2 ?_ (by simpa using h4)
    exact (World.grownBy_alloc w _ _).trans h3
/-- The same, where the place of the new bytes is spelt otherwise. -/
theorem appM {xs : List Value} {N : Nat} (hgd : o.guard = none) (ho : o.op = .call { callee := .builtin .append, args := #[s, x], argTypes := #[28, 28] })
    {base : Nat} {v : Value} {l : List UInt8} (hown : OwnB w base v l) {m c : Nat} {k : List UInt8} (hxs : xs = bv k) (hm : m = k.length)
    (hs : a.eval s = v) (hx : a.eval x = .slice (some ⟨N, 0, none⟩) m c) (hN : N = w.heap.size) (hbytes : l.length + k.length ≤ 140737488355328) (hbase : base ≤ w.heap.size)
    (h : ∀ v' w', OwnB w' base v' (l ++ k) → w.grownBy w' v.ownBlock → (v'.ownBlock = v.ownBlock ∨ v'.ownBlock = some (w.heap.size + 1)) → wpList Try.prog ops Q rest (a.put o.dst v') w') : wpList Try.prog ops Q (o :: rest) a (w.alloc (.cells xs.toArray 5)) := by
  subst hxs hN
  refine app hgd ho (hown.alloc _) (B := w.heap.size + 1) (A := some ⟨w.heap.size, 0, none⟩) (k := k) ?_ hm hs hx hbytes (by simp; omega) fun v' w' h2 h3 h4 => ?_
  · have := Sl.new w 5 (bv k).toArray (0, 0)
    simpa using this
  · refine h v' w' h2 ?_ (by simpa using h4)
    exact (World.grownBy_alloc w _ _).trans h3
/-- make([]byte, 0, c) -/
theorem mkB {lo co : Operand} (hgd : o.guard = none) (ho : o.op = Op.makeSlice 28 lo co) {kl kc : IntKind} {C : Int} {n : Nat} (hl : a.eval lo = .int kl 0) (hc : a.eval co = .int kc C) (hC : C = (n : Int)) (h1 : n ≤ 281474976710656)
    (h : ∀ w', OwnB w' w.heap.size (.slice (some ⟨w.heap.size, 0, none⟩) 0 n) [] → w.grownBy w' none → wpList Try.prog ops Q rest (a.put o.dst (.slice (some ⟨w.heap.size, 0, none⟩) 0 n)) w') : wpList Try.prog ops Q (o :: rest) a w := by
  obtain ⟨i, hi, hz, hz1, hz2⟩ := info_parts u8info
  exact wpList_make_own w hgd lo co _ ho w.heap.size 5 i (.int .u8 0) 1 Try.underlying28 hi hz hz1 kl kc C n hl hc hC (by rw [hz2]; omega) (by simp only [maxLen]; omega) (Nat.le_refl _) fun w' h1 h2 => h w' h1 h2
/-- make([]byte, n) -/
theorem mkZ {lo co : Operand} (hgd : o.guard = none) (ho : o.op = Op.makeSlice 28 lo co) {kl kc : IntKind} {L C : Int} {n : Nat} (hl : a.eval lo = .int kl L) (hc : a.eval co = .int kc C) (hL : L = (n : Int)) (hC : C = (n : Int)) (h1 : n ≤ 281474976710656)
    (h : ∀ w', OwnB w' w.heap.size (.slice (some ⟨w.heap.size, 0, none⟩) n n) (List.replicate n 0) → w.grownBy w' none → wpList Try.prog ops Q rest (a.put o.dst (.slice (some ⟨w.heap.size, 0, none⟩) n n)) w') : wpList Try.prog ops Q (o :: rest) a w := by
  obtain ⟨i, hi, hz, hz1, hz2⟩ := info_parts u8info
  refine wpList_make_full w hgd lo co _ ho w.heap.size 5 i (.int .u8 0) 1 Try.underlying28 hi hz hz1 kl kc L C n hl hc hL hC (by rw [hz2]; omega) (by simp only [maxLen]; omega) (Nat.le_refl _) fun w' h1 h2 => h w' ?_ h2
  have e : (madeCells (Value.int .u8 0).cells (n * 1)).toList = bv (List.replicate n 0) := by
    show (madeCells #[Value.int .u8 0] (n * 1)).toList = _
    rw [toList_madeCells_one, Nat.mul_one]
    simp [bv, u8v]
  rw [e] at h1
  simpa [OwnB] using h1
end

theorem bv_set (l : List UInt8) (i n : Nat) (h : n < 256) : (bv l).set i (.int .u8 (n : Int)) = bv (l.set i (UInt8.ofNat n)) := by
  simp only [bv, List.map_set]
  congr 1
  simp only [u8v, UInt8.toNat_ofNat']
  congr 2
  omega
/-- bytes that are written out are a row of the call's own -/
theorem OwnB.lit (w : World) (base : Nat) (l : List UInt8) (hb : base ≤ w.heap.size) (hm : l.length ≤ maxLen) : OwnB (w.alloc (.cells (bv l).toArray 5)) base (.slice (some ⟨w.heap.size, 0, none⟩) l.length l.length) l := by
  have := World.ownsRow_lit (base := base) (e := 5) (size := 1) w (bv l).toArray l.length hb hm (by simp)
  simpa [OwnB] using this
theorem two_bv (a b : Nat) (ha : a < 256) (hb : b < 256) : [Value.int .u8 (a : Int), Value.int .u8 (b : Int)] = bv [UInt8.ofNat a, UInt8.ofNat b] := by
  simp only [bv, List.map, u8v, UInt8.toNat_ofNat', Nat.mod_eq_of_lt (show a < 2 ^ 8 by omega), Nat.mod_eq_of_lt (show b < 2 ^ 8 by omega)]
theorem one_bv (a : Nat) (ha : a < 256) : [Value.int .u8 (a : Int)] = bv [UInt8.ofNat a] := by
  simp only [bv, List.map, u8v, UInt8.toNat_ofNat', Nat.mod_eq_of_lt (show a < 2 ^ 8 by omega)]
/-- a store into a row of the call's own -/
theorem OwnB.store {w : World} {base g n cap : Nat} {l : List UInt8} (h : OwnB w base (.slice (some ⟨g, 0, none⟩) n cap) l) (i b : Nat) (hi : i < l.length) (hb : b < 256) :
    w.cell? ⟨g, i, none⟩ = some (.int .u8 ((l[i]?.getD 0).toNat : Int)) ∧ w.frozen? ⟨g, i, none⟩ = false ∧
    OwnB (w.setCell ⟨g, i, none⟩ (.int .u8 (b : Int))) base (.slice (some ⟨g, 0, none⟩) n cap) (l.set i (UInt8.ofNat b)) ∧ w.grownBy (w.setCell ⟨g, i, none⟩ (.int .u8 (b : Int))) (some g) := by
  have hn : n = l.length := by
    rcases h.2 with ⟨h', _⟩ | ⟨_, _, _, h', _⟩
    · simp at h'
    · simp only [Value.slice.injEq] at h'; exact h'.2.1
  subst hn
  refine ⟨(h.cellAt i (by omega)).trans (bv_get l i hi), h.frozenAt i, ?_⟩
  have := h.stored i (.int .u8 (b : Int))
  rw [bv_set l i b hb] at this
  refine ⟨?_, this.2⟩
  have h1 := this.1
  simp only [OwnB, List.length_set]
  exact h1
theorem OwnB.head {w : World} {base : Nat} {v : Value} {l : List UInt8} (h : OwnB w base v l) (hn : 0 < l.length) : ∃ g cap, v = .slice (some ⟨g, 0, none⟩) l.length cap ∧ base ≤ g ∧ g < w.heap.size ∧ l.length ≤ cap ∧ cap ≤ maxLen := by
  rcases h.2 with ⟨_, h0⟩ | ⟨g, cap, cur, rfl, hb, hg, h1, h2, _⟩
  · omega
  · exact ⟨g, cap, rfl, hb, (Array.getElem?_eq_some_iff.1 hg).1, h1, h2⟩
/-- a slice value that reads as these bytes -/
def SlcIs (w : World) (x : Value) (l : List UInt8) : Prop := ∃ A c, x = .slice A l.length c ∧ Sl w w.heap.size A (bv l) ∧ l.length ≤ c ∧ c ≤ maxLen
theorem SlcIs.nil (w : World) : SlcIs w (.slice none 0 0) [] := ⟨none, 0, rfl, Sl.nil, by simp, by simp [maxLen]⟩
theorem SlcIs.of {w : World} {A : Option Addr} {c : Nat} {l : List UInt8} {base : Nat} (h : OwnB w base (.slice A l.length c) l) : SlcIs w (.slice A l.length c) l := by
  obtain ⟨A', c', e, h1, h2, h3, _⟩ := h.form
  injection e with e1 e2 e3
  subst e1 e3
  exact ⟨_, _, rfl, h3, h1, h2⟩
theorem SlcIs.below {w w' : World} {x : Value} {l : List UInt8} (h : SlcIs w x l) (hb : Below w.heap.size w w') : SlcIs w' x l := by
  obtain ⟨A, c, rfl, h1, h2, h3⟩ := h
  exact ⟨A, c, rfl, (h1.below hb).more hb.size, h2, h3⟩
/-- bytes that have just been laid -/
theorem Sl.lit (w : World) (l : List UInt8) : Sl (w.alloc (.cells (bv l).toArray 5)) (w.heap.size + 1) (some ⟨w.heap.size, 0, none⟩) (bv l) := by
  have := Sl.new w 5 (bv l).toArray (0, 0)
  simpa using this
def str (l : List UInt8) : Value := .string ⟨l.toArray⟩
/-- string(b) -/
theorem conv {w : World} {B : Nat} {A : Option Addr} {l : List UInt8} (h : Sl w B A (bv l)) (n c : Nat) (hn : n = l.length) : (convert 28 9 (.slice A n c)).run Try.prog w = .ok (.string ⟨l.toArray⟩) w := by
  subst hn
  rcases h with h | ⟨b, o, e, _, _, hc⟩
  · have hl : l = [] := by simpa [bv] using h
    subst hl
    rcases A with _ | ad
    · exact run_convert_bytes_nil w _ 5 Try.underlying28 Try.underlying5 _ _ _ Try.underlying9
    · exact run_convert_bytes_back w _ _ 5 ad c [] Try.underlying28 Try.underlying5 Try.underlying9 (fun j hj => by simp at hj)
  · subst e
    refine run_convert_bytes_back w _ _ 5 ⟨b, o, none⟩ c l Try.underlying28 Try.underlying5 Try.underlying9 (fun j hj => ?_)
    have h1 : (⟨b, o, none⟩ : Addr).add j = ⟨b, o + j, none⟩ := by
      unfold Addr.add
      split
      · rename_i h0; subst h0; rfl
      · rfl
    rw [h1]
    refine hc j _ ?_
    simp [bv, u8v, List.getElem?_eq_getElem hj]
def uv (l : List Nat) : List Value := l.map (fun (x : Nat) => Value.int .u64 (x : Int))
@[simp] theorem uv_len (l : List Nat) : (uv l).length = l.length := by simp [uv]
theorem uv_get (l : List Nat) (k : Nat) (h : k < l.length) : (uv l)[k]? = some (.int .u64 ((l[k]?.getD 0 : Nat) : Int)) := by
  simp [uv, List.getElem?_map, List.getElem?_eq_getElem h]

/-- A fresh slice of bytes: what a function hands back. -/
def Fresh (w : World) (l : List UInt8) (e : Ending) (w' : World) : Prop :=
  ∃ A c, e = .returned (.slice A l.length c) ∧ OwnB w' w.heap.size (.slice A l.length c) l ∧ Below w.heap.size w w'
theorem Fresh.sl {w w' : World} {l : List UInt8} {A : Option Addr} {c : Nat} (h : OwnB w' w.heap.size (.slice A l.length c) l) : Sl w' w'.heap.size A (bv l) ∧ l.length ≤ c ∧ c ≤ maxLen := by
  obtain ⟨A', c', e, h1, h2, h3, _⟩ := h.form
  injection e with e1 e2 e3
  subst e1 e3
  exact ⟨h3, h1, h2⟩

theorem OwnB.sl {w' : World} {base : Nat} {l : List UInt8} {A : Option Addr} {c : Nat} (h : OwnB w' base (.slice A l.length c) l) : Sl w' w'.heap.size A (bv l) ∧ l.length ≤ c ∧ c ≤ maxLen := by
  obtain ⟨A', c', e, h1, h2, h3, _⟩ := h.form
  injection e with e1 e2 e3
  subst e1 e3
  exact ⟨h3, h1, h2⟩
theorem own_below {w wr w1 : World} {x : Value} {B : Nat} {l : List UInt8} (hb : Below B w wr) (hB : B ≤ wr.heap.size) (hown : OwnB wr B x l) (hg : wr.grownBy w1 x.ownBlock) : Below B w w1 :=
  hb.trans (below_of_grown hg (fun g e => (hown.lt g e).1) hB)

theorem Sl.lit64 (w : World) (l : List Nat) : Sl (w.alloc (.cells (uv l).toArray 67)) (w.heap.size + 1) (some ⟨w.heap.size, 0, none⟩) (uv l) := by
  have := Sl.new w 67 (uv l).toArray (0, 0)
  simpa using this
end Go.Proofs.Ythpooogjlmaemaa

