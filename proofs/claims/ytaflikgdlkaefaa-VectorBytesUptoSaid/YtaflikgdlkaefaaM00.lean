/- Words for memory: a slice that reads as a list; a row of bytes of the call's own; append. -/
import Derived.Test.YtaflikgdlkaefaaRows
import Derived.WalkKit
import Derived.ProofKit
import Derived.OpenShut
import Derived.Maps.AppendAt
import Derived.Deep.AppendLies
import Derived.Deep.Draws
import Derived.Lib.Hide
import Derived.Laws.BytesArg
import Derived.Laws.IdiomStrings
import Derived.WalkSpells
import Derived.Lib.SliceRun
import Derived.WalkLawsBesides
import Derived.Deep.RegionHeld
import Derived.Laws.StructEq
namespace Go.Proofs.Ytaflikgdlkaefaa
open Go.RowKit

/-- A number fits 64 bits, 32 bits: behind a name, so that the walk doesn't meet the long numeral. -/
def U64 (n : Nat) : Prop := n < 18446744073709551616
theorem U64.out {n : Nat} (h : U64 n) : n < 18446744073709551616 := h
theorem U64.mk {n : Nat} (h : n < 18446744073709551616) : U64 n := h

/-! ### bytes as cells -/
def u8v (c : UInt8) : Value := .int .u8 (c.toNat : Int)
def bv (l : List UInt8) : List Value := l.map u8v
@[simp] theorem bv_len (l : List UInt8) : (bv l).length = l.length := by simp [bv]
@[simp] theorem bv_nil : bv [] = [] := rfl
@[simp] theorem bv_app (a b : List UInt8) : bv (a ++ b) = bv a ++ bv b := by simp [bv]
theorem bv_take (l : List UInt8) (k : Nat) : (bv l).take k = bv (l.take k) := by simp [bv, List.map_take]
theorem bv_drop (l : List UInt8) (k : Nat) : (bv l).drop k = bv (l.drop k) := by simp [bv, List.map_drop]
theorem bv_get (l : List UInt8) (k : Nat) (h : k < l.length) : (bv l)[k]? = some (.int .u8 ((l[k]?.getD 0).toNat : Int)) := by
  simp [bv, u8v, List.getElem?_map, List.getElem?_eq_getElem h]
theorem bv_one (l : List UInt8) : ∀ u ∈ bv l, u.oneCell' = true := by
  intro u hu
  simp only [bv, List.mem_map] at hu
  obtain ⟨c, _, rfl⟩ := hu
  rfl

/-! ### a slice that reads as a list of cells; all of them below block B -/
def Sl (w : World) (B : Nat) (A : Option Addr) (xs : List Value) : Prop :=
  xs = [] ∨ ∃ b o, A = some ⟨b, o, none⟩ ∧ b < B ∧ b < w.heap.size ∧ ∀ j u, xs[j]? = some u → w.cell? ⟨b, o + j, none⟩ = some u

section
variable {w w' : World} {B B' : Nat} {A : Option Addr} {xs : List Value}
theorem Sl.nil : Sl w B A [] := .inl rfl
theorem Sl.keep (h : Sl w B A xs) (hs : w.heap.size ≤ w'.heap.size) (hk : ∀ p : Addr, p.block < B → p.block < w.heap.size → w'.cell? p = w.cell? p) : Sl w' B A xs := by
  rcases h with h | ⟨b, o, e, hb, hb', hc⟩
  · exact .inl h
  · exact .inr ⟨b, o, e, hb, by omega, fun j u hu => (hk _ hb hb').trans (hc j u hu)⟩
theorem Sl.more (h : Sl w B A xs) (hB : B ≤ B') : Sl w B' A xs := by
  rcases h with h | ⟨b, o, e, hb, hb', hc⟩
  · exact .inl h
  · exact .inr ⟨b, o, e, by omega, hb', hc⟩
theorem Sl.below (h : Sl w B A xs) (hb : Below B w w') : Sl w' B A xs := h.keep hb.size fun _ hp _ => hb.cell hp
theorem Sl.below' (h : Sl w B A xs) (hb : Below w.heap.size w w') : Sl w' B A xs := h.keep hb.size fun _ _ hp => hb.cell hp
theorem Sl.drew (h : Sl w B A xs) : Sl w.drew B A xs := h
theorem Sl.drewN (h : Sl w B A xs) (n : Nat) : Sl (w.drewN n) B A xs := h
theorem Sl.alloc (h : Sl w B A xs) (o : Obj) : Sl (w.alloc o) B A xs := h.keep (by simp) fun p _ hp => World.cell?_alloc_lt w o p hp
theorem Sl.setCell (h : Sl w B A xs) {p : Addr} (hB : B ≤ p.block) (u : Value) : Sl (w.setCell p u) B A xs :=
  h.keep (by simp) fun q hq _ => World.cell?_setCell_other w p q u (fun e => by subst e; omega)
theorem Sl.grown (h : Sl w B A xs) {row : Option Nat} (hg : w.grownBy w' row) (hr : ∀ g, row = some g → B ≤ g) : Sl w' B A xs :=
  h.keep hg.size fun p hp hp' => World.cell?_of_block (hg.block p.block hp' (fun e => by have := hr _ e.symm; omega))
theorem Sl.at_ (h : Sl w B A xs) {k : Nat} (hk : k < xs.length) : ∃ b o, A = some ⟨b, o, none⟩ ∧ b < B ∧ b < w.heap.size ∧ ∀ j u, xs[j]? = some u → w.cell? ⟨b, o + j, none⟩ = some u := by
  rcases h with rfl | h
  · simp at hk
  · exact h
theorem Sl.tk (h : Sl w B A xs) (k : Nat) : Sl w B A (xs.take k) := by
  rcases h with h | ⟨b, o, e, hb, hb', hc⟩
  · subst h; simp [Sl]
  · refine .inr ⟨b, o, e, hb, hb', fun j u hu => hc j u ?_⟩
    rw [List.getElem?_take] at hu
    split at hu
    · exact hu
    · cases hu
theorem Sl.cut (h : Sl w B A xs) (k cap : Nat) (hc : xs.length ≤ cap) : Sl w B (if cap = k then A else A.map (·.add k)) (xs.drop k) := by
  by_cases hk : xs.length ≤ k
  · exact .inl (List.drop_eq_nil_of_le hk)
  · rw [if_neg (by omega)]
    rcases h with h | ⟨b, o, e, hb, hb', hcell⟩
    · subst h; exact .inl (by simp)
    · refine .inr ⟨b, o + k, ?_, hb, hb', fun j u hu => ?_⟩
      · rw [e]; simp only [Option.map_some, Addr.add]
        split
        · rename_i h0; subst h0; rfl
        · rfl
      · rw [List.getElem?_drop] at hu
        rw [Nat.add_assoc]
        exact hcell _ u hu
theorem Sl.new (w : World) (t : TypeId) (cs : Array Value) (fr : Nat × Nat) : Sl (w.alloc (.cells cs t fr)) (w.heap.size + 1) (some ⟨w.heap.size, 0, none⟩) cs.toList := by
  refine .inr ⟨_, _, rfl, by omega, by simp, fun j u hu => ?_⟩
  simp only [World.cell?, World.alloc, Nat.zero_add]
  rw [Array.getElem?_push_size]
  simpa using hu
end

theorem addr0 (g j : Nat) : (⟨g, 0, none⟩ : Addr).add j = ⟨g, j, none⟩ := by
  unfold Addr.add
  split
  · rename_i h; subst h; rfl
  · simp

/-! ### a row of bytes of the call's own -/
abbrev OwnB (w : World) (base : Nat) (v : Value) (l : List UInt8) : Prop := w.ownsRow base 5 1 v l.length (bv l)
theorem u8info : (Try.prog.info? 5).map (fun i => (i.zero, i.size, i.bytes)) = some (some (.int .u8 0), 1, 1) := by kernel_rfl
theorem OwnB.nil (w : World) (base : Nat) : OwnB w base (.slice none 0 0) [] := World.ownsRow_nil w base _ 1
theorem OwnB.form {w : World} {base : Nat} {v : Value} {l : List UInt8} (h : OwnB w base v l) : ∃ A c, v = .slice A l.length c ∧ l.length ≤ c ∧ c ≤ maxLen ∧ Sl w w.heap.size A (bv l) ∧ (A = none → l = []) ∧ (∀ a, A = some a → base ≤ a.block ∧ a.spot = none ∧ a.off = 0) := by
  rcases h.2 with ⟨rfl, hn⟩ | ⟨g, cap, cur, rfl, hb, hg, hn, hm, hcs, ht⟩
  · refine ⟨none, 0, by rw [hn], by omega, by simp [maxLen], ?_, fun _ => List.eq_nil_of_length_eq_zero hn, (fun a h => (by cases h))⟩
    exact .inl (by simp [List.eq_nil_of_length_eq_zero hn])
  · have hlt : g < w.heap.size := (Array.getElem?_eq_some_iff.1 hg).1
    refine ⟨_, cap, rfl, hn, hm, .inr ⟨g, 0, rfl, hlt, hlt, fun j u hu => ?_⟩, (fun h => (by cases h)), (fun a h => by cases h; exact ⟨hb, rfl, rfl⟩)⟩
    have := h.cells (g := g) rfl j u hu
    rw [addr0] at this
    simpa using this
theorem OwnB.base_le {w : World} {base base' : Nat} {v : Value} {l : List UInt8} (h : OwnB w base v l) (hb : base' ≤ base) : OwnB w base' v l := by
  refine ⟨h.1, ?_⟩
  rcases h.2 with h | ⟨g, cap, cur, e, hb', r⟩
  · exact .inl h
  · exact .inr ⟨g, cap, cur, e, by omega, r⟩
/-- A row stands where a world has turned only elsewhere. -/
theorem OwnB.keep {w w' : World} {base : Nat} {v : Value} {l : List UInt8} (h : OwnB w base v l) {row : Option Nat} (hg : w.grownBy w' row) (hne : v.ownBlock = none ∨ v.ownBlock ≠ row) : OwnB w' base v l := h.kept hg hne
theorem OwnB.below {w w' : World} {base : Nat} {v : Value} {l : List UInt8} (h : OwnB w base v l) (hb : Below w.heap.size w w') : OwnB w' base v l :=
  h.kept (row := none) ⟨hb.os, hb.tape, hb.output, hb.size, fun k hk _ => hb.block k hk⟩ (by cases hv : v.ownBlock <;> simp)

/-- where a row lies now: where it lay, or in a new block. -/
def Went (w : World) (v v' : Value) : Prop := v'.ownBlock = v.ownBlock ∨ ∃ g, v'.ownBlock = some g ∧ w.heap.size ≤ g
theorem Went.refl (w : World) (v : Value) : Went w v v := .inl rfl
theorem grown_step {a b c : World} {row row' : Option Nat} (h : a.grownBy b row) (k : b.grownBy c row') (hr : row' = row ∨ ∀ g, row' = some g → a.heap.size ≤ g) : a.grownBy c row := by
  refine ⟨k.os.trans h.os, k.tape.trans h.tape, k.output.trans h.output, Nat.le_trans h.size k.size, fun i hi hne => ?_⟩
  refine (k.block i (Nat.lt_of_lt_of_le hi h.size) ?_).trans (h.block i hi hne)
  rcases hr with rfl | hr
  · exact hne
  · intro e; have := hr i e.symm; omega
theorem Went.row {w : World} {v v' : Value} (h : Went w v v') : v'.ownBlock = v.ownBlock ∨ ∀ g, v'.ownBlock = some g → w.heap.size ≤ g := by
  rcases h with h | ⟨g, h, hg⟩
  · exact .inl h
  · exact .inr fun g' e => by rw [h] at e; cases e; exact hg
theorem Went.step {w b : World} {v v' v'' : Value} {n : Nat} (h : Went w v v') (hs : w.heap.size ≤ b.heap.size) (hn : b.heap.size ≤ n) (k : v''.ownBlock = v'.ownBlock ∨ v''.ownBlock = some n) : Went w v v'' := by
  rcases k with k | k
  · rcases h with h | ⟨g, h, hg⟩
    · exact .inl (k.trans h)
    · exact .inr ⟨g, k.trans h, hg⟩
  · exact .inr ⟨_, k, by omega⟩
/-- Nothing that was there has turned, where the row was new. -/
theorem below_of_grown {w w' : World} {B : Nat} {row : Option Nat} (h : w.grownBy w' row) (hr : ∀ g, row = some g → B ≤ g) (hB : B ≤ w.heap.size) : Below B w w' :=
  ⟨h.os, h.tape, h.output, h.size, fun k hk => h.block k (by omega) (fun e => by have := hr k e.symm; omega)⟩

theorem bstep {w a b : World} (h : Below w.heap.size w a) (k : Below a.heap.size a b) : Below w.heap.size w b := h.trans (k.mono h.size)
theorem balloc {w a : World} (h : Below w.heap.size w a) (o : Obj) : Below w.heap.size w (a.alloc o) := h.alloc h.size o

/-- append: whatever bytes behind a row of the call's own. -/
theorem run_app (w : World) (ty : TypeId) {base : Nat} {v : Value} {l : List UInt8} (hown : OwnB w base v l) {B : Nat} {A : Option Addr} {m c : Nat} {k : List UInt8} (hr : Sl w B A (bv k)) (hm : m = k.length)
    (hbytes : l.length + k.length ≤ 140737488355328) (hbase : base ≤ w.heap.size) :
    ∃ v' w', (Builtin.append_ #[46, 46] ty #[v, .slice A m c]).run Try.prog w = .ok v' w' ∧ OwnB w' base v' (l ++ k) ∧ w.grownBy w' v.ownBlock ∧ (v'.ownBlock = v.ownBlock ∨ v'.ownBlock = some w.heap.size) := by
  subst hm
  obtain ⟨i, hi, hz, hz1, hz2⟩ := info_parts u8info
  have key : ∀ (ad : Addr), (∀ j u, (bv k)[j]? = some u → w.cell? (ad.add j) = some u) →
      ∃ v' w', (Builtin.append_ #[46, 46] ty #[v, .slice (some ad) k.length c]).run Try.prog w = .ok v' w' ∧ OwnB w' base v' (l ++ k) ∧ w.grownBy w' v.ownBlock ∧ (v'.ownBlock = v.ownBlock ∨ v'.ownBlock = some w.heap.size) := by
    intro ad hc
    obtain ⟨v', w', hrun, h2, h3, _, h5⟩ := run_append_own_at (P := Try.prog) w base 46 ty 5 i (.int .u8 0) 1 1 Try.underlying46 hi hz hz1 hz2 rfl (by omega) v l.length (bv l) hown ad k.length c (bv k)
      (by simp) hc (bv_one k) (by simp only [maxLen]; omega) (by omega) hbase
    exact ⟨v', w', hrun, by simpa [OwnB] using h2, h3, h5⟩
  rcases A with _ | ad
  · have hk : k = [] := by
      rcases hr with h | ⟨b, o, e, _⟩
      · simpa [bv] using h
      · cases e
    subst hk
    refine ⟨v, w, ?_, by simpa using hown, World.grownBy.refl w _, .inl rfl⟩
    rcases hown.2 with ⟨rfl, h0⟩ | ⟨g, cap, cur, rfl, _, _, hnc, _⟩
    · simp [Builtin.append_, run_underlying Try.underlying46, sizeOf, typeInfo, hi, Builtin.lenOf, Builtin.firstCells]
    · simp [Builtin.append_, run_underlying Try.underlying46, sizeOf, typeInfo, hi, Builtin.lenOf, Builtin.firstCells, hnc, storeCells]
  · refine key ad fun j u hu => ?_
    rcases hr with h | ⟨b, o, e, _, _, hc⟩
    · rw [h] at hu; cases hu
    · cases e
      have := hc j u hu
      simp only [Addr.add]
      split
      · rename_i h0; subst h0; simpa using this
      · exact this

section
variable {ops : Array Oper} {rest : List Oper} {o : Oper} {a : Act} {Q : Exit → Act → World → Prop} {w : World} {s x : Operand}
theorem wp_app {K : Act → World → Prop} (ho : o.op = .call { callee := .builtin .append, args := #[s, x], argTypes := #[46, 46] })
    {base : Nat} {v : Value} {l : List UInt8} (hown : OwnB w base v l) {B : Nat} {A : Option Addr} {m c : Nat} {k : List UInt8} (hr : Sl w B A (bv k)) (hm : m = k.length)
    (hs : a.eval s = v) (hx : a.eval x = .slice A m c) (hbytes : l.length + k.length ≤ 140737488355328) (hbase : base ≤ w.heap.size)
    (h : ∀ v' w', OwnB w' base v' (l ++ k) → w.grownBy w' v.ownBlock → (v'.ownBlock = v.ownBlock ∨ v'.ownBlock = some w.heap.size) → K (a.put o.dst v') w') : o.wp Try.prog a w K Q := by
  obtain ⟨v', w', hrun, h2, h3, h4⟩ := run_app w o.type hown hr (c := c) hm hbytes hbase
  unfold Oper.wp execOp
  simp only [ho, resolve, invoke, builtin, Sem.run_bind, Sem.run_pure, Result.andThen_ok, List.map_toArray, List.map_cons, List.map_nil, hs, hx, hrun]
  exact h v' w' h2 h3 h4
/-- append of a slice. -/
theorem app (hgd : o.guard = none) (ho : o.op = .call { callee := .builtin .append, args := #[s, x], argTypes := #[46, 46] })
    {base : Nat} {v : Value} {l : List UInt8} (hown : OwnB w base v l) {B : Nat} {A : Option Addr} {m c : Nat} {k : List UInt8} (hr : Sl w B A (bv k)) (hm : m = k.length)
    (hs : a.eval s = v) (hx : a.eval x = .slice A m c) (hbytes : l.length + k.length ≤ 140737488355328) (hbase : base ≤ w.heap.size)
    (h : ∀ v' w', OwnB w' base v' (l ++ k) → w.grownBy w' v.ownBlock → (v'.ownBlock = v.ownBlock ∨ v'.ownBlock = some w.heap.size) → wpList Try.prog ops Q rest (a.put o.dst v') w') : wpList Try.prog ops Q (o :: rest) a w :=
  wpList_plain hgd fun _ hK => wp_app ho hown hr hm hs hx hbytes hbase fun v' w' h2 h3 h4 => hK _ _ (h v' w' h2 h3 h4)
/-- append of bytes that are written out: they have just been laid. -/
theorem appN {xs : List Value} (hgd : o.guard = none) (ho : o.op = .call { callee := .builtin .append, args := #[s, x], argTypes := #[46, 46] })
    {base : Nat} {v : Value} {l : List UInt8} (hown : OwnB w base v l) {m c : Nat} {k : List UInt8} (hxs : xs = bv k) (hm : m = k.length)
    (hs : a.eval s = v) (hx : a.eval x = .slice (some ⟨w.heap.size, 0, none⟩) m c) (hbytes : l.length + k.length ≤ 140737488355328) (hbase : base ≤ w.heap.size)
    (h : ∀ v' w', OwnB w' base v' (l ++ k) → w.grownBy w' v.ownBlock → (v'.ownBlock = v.ownBlock ∨ v'.ownBlock = some (w.heap.size + 1)) → wpList Try.prog ops Q rest (a.put o.dst v') w') : wpList Try.prog ops Q (o :: rest) a (w.alloc (.cells xs.toArray 5)) := by
  subst hxs
  refine app hgd ho (hown.alloc _) (B := w.heap.size + 1) (A := some ⟨w.heap.size, 0, none⟩) (k := k) ?_ hm hs hx hbytes (by simp; omega) fun v' w' h2 h3 h4 => ?_
  · have := Sl.new w 5 (bv k).toArray (0, 0)
    simpa using this
  · refine h v' w' h2 ?_ (by simpa using h4)
    exact (World.grownBy_alloc w _ _).trans h3
/-- The same, where the place of the new bytes is spelt otherwise. -/
theorem appM {xs : List Value} {N : Nat} (hgd : o.guard = none) (ho : o.op = .call { callee := .builtin .append, args := #[s, x], argTypes := #[46, 46] })
    {base : Nat} {v : Value} {l : List UInt8} (hown : OwnB w base v l) {m c : Nat} {k : List UInt8} (hxs : xs = bv k) (hm : m = k.length)
    (hs : a.eval s = v) (hx : a.eval x = .slice (some ⟨N, 0, none⟩) m c) (hN : N = w.heap.size) (hbytes : l.length + k.length ≤ 140737488355328) (hbase : base ≤ w.heap.size)
    (h : ∀ v' w', OwnB w' base v' (l ++ k) → w.grownBy w' v.ownBlock → (v'.ownBlock = v.ownBlock ∨ v'.ownBlock = some (w.heap.size + 1)) → wpList Try.prog ops Q rest (a.put o.dst v') w') : wpList Try.prog ops Q (o :: rest) a (w.alloc (.cells xs.toArray 5)) := by
  subst hxs hN
  refine app hgd ho (hown.alloc _) (B := w.heap.size + 1) (A := some ⟨w.heap.size, 0, none⟩) (k := k) ?_ hm hs hx hbytes (by simp; omega) fun v' w' h2 h3 h4 => ?_
  · have := Sl.new w 5 (bv k).toArray (0, 0)
    simpa using this
  · refine h v' w' h2 ?_ (by simpa using h4)
    exact (World.grownBy_alloc w _ _).trans h3
/-- make([]byte, 0, c) -/
theorem mkB {lo co : Operand} (hgd : o.guard = none) (ho : o.op = Op.makeSlice 46 lo co) {kl kc : IntKind} {C : Int} {n : Nat} (hl : a.eval lo = .int kl 0) (hc : a.eval co = .int kc C) (hC : C = (n : Int)) (h1 : n ≤ 281474976710656)
    (h : ∀ w', OwnB w' w.heap.size (.slice (some ⟨w.heap.size, 0, none⟩) 0 n) [] → w.grownBy w' none → wpList Try.prog ops Q rest (a.put o.dst (.slice (some ⟨w.heap.size, 0, none⟩) 0 n)) w') : wpList Try.prog ops Q (o :: rest) a w := by
  obtain ⟨i, hi, hz, hz1, hz2⟩ := info_parts u8info
  exact wpList_make_own w hgd lo co _ ho w.heap.size 5 i (.int .u8 0) 1 Try.underlying46 hi hz hz1 kl kc C n hl hc hC (by rw [hz2]; omega) (by simp only [maxLen]; omega) (Nat.le_refl _) fun w' h1 h2 => h w' h1 h2
/-- make([]byte, n) -/
theorem mkZ {lo co : Operand} (hgd : o.guard = none) (ho : o.op = Op.makeSlice 46 lo co) {kl kc : IntKind} {L C : Int} {n : Nat} (hl : a.eval lo = .int kl L) (hc : a.eval co = .int kc C) (hL : L = (n : Int)) (hC : C = (n : Int)) (h1 : n ≤ 281474976710656)
    (h : ∀ w', OwnB w' w.heap.size (.slice (some ⟨w.heap.size, 0, none⟩) n n) (List.replicate n 0) → w.grownBy w' none → wpList Try.prog ops Q rest (a.put o.dst (.slice (some ⟨w.heap.size, 0, none⟩) n n)) w') : wpList Try.prog ops Q (o :: rest) a w := by
  obtain ⟨i, hi, hz, hz1, hz2⟩ := info_parts u8info
  refine wpList_make_full w hgd lo co _ ho w.heap.size 5 i (.int .u8 0) 1 Try.underlying46 hi hz hz1 kl kc L C n hl hc hL hC (by rw [hz2]; omega) (by simp only [maxLen]; omega) (Nat.le_refl _) fun w' h1 h2 => h w' ?_ h2
  have e : (madeCells (Value.int .u8 0).cells (n * 1)).toList = bv (List.replicate n 0) := by
    show (madeCells #[Value.int .u8 0] (n * 1)).toList = _
    rw [toList_madeCells_one, Nat.mul_one]
    simp [bv, u8v]
  rw [e] at h1
  simpa [OwnB] using h1
end

theorem bv_set (l : List UInt8) (i n : Nat) (h : n < 256) : (bv l).set i (.int .u8 (n : Int)) = bv (l.set i (UInt8.ofNat n)) := by
  simp only [bv, List.map_set]
  congr 1
  simp only [u8v, UInt8.toNat_ofNat']
  congr 2
  omega
/-- bytes that are written out are a row of the call's own -/
theorem OwnB.lit (w : World) (base : Nat) (l : List UInt8) (hb : base ≤ w.heap.size) (hm : l.length ≤ maxLen) : OwnB (w.alloc (.cells (bv l).toArray 5)) base (.slice (some ⟨w.heap.size, 0, none⟩) l.length l.length) l := by
  have := World.ownsRow_lit (base := base) (e := 5) (size := 1) w (bv l).toArray l.length hb hm (by simp)
  simpa [OwnB] using this
theorem two_bv (a b : Nat) (ha : a < 256) (hb : b < 256) : [Value.int .u8 (a : Int), Value.int .u8 (b : Int)] = bv [UInt8.ofNat a, UInt8.ofNat b] := by
  simp only [bv, List.map, u8v, UInt8.toNat_ofNat', Nat.mod_eq_of_lt (show a < 2 ^ 8 by omega), Nat.mod_eq_of_lt (show b < 2 ^ 8 by omega)]
theorem one_bv (a : Nat) (ha : a < 256) : [Value.int .u8 (a : Int)] = bv [UInt8.ofNat a] := by
  simp only [bv, List.map, u8v, UInt8.toNat_ofNat', Nat.mod_eq_of_lt (show a < 2 ^ 8 by omega)]
/-- a store into a row of the call's own -/
theorem OwnB.store {w : World} {base g n cap : Nat} {l : List UInt8} (h : OwnB w base (.slice (some ⟨g, 0, none⟩) n cap) l) (i b : Nat) (hi : i < l.length) (hb : b < 256) :
    w.cell? ⟨g, i, none⟩ = some (.int .u8 ((l[i]?.getD 0).toNat : Int)) ∧ w.frozen? ⟨g, i, none⟩ = false ∧
    OwnB (w.setCell ⟨g, i, none⟩ (.int .u8 (b : Int))) base (.slice (some ⟨g, 0, none⟩) n cap) (l.set i (UInt8.ofNat b)) ∧ w.grownBy (w.setCell ⟨g, i, none⟩ (.int .u8 (b : Int))) (some g) := by
  have hn : n = l.length := by
    rcases h.2 with ⟨h', _⟩ | ⟨_, _, _, h', _⟩
    · simp at h'
    · simp only [Value.slice.injEq] at h'; exact h'.2.1
  subst hn
  refine ⟨(h.cellAt i (by omega)).trans (bv_get l i hi), h.frozenAt i, ?_⟩
  have := h.stored i (.int .u8 (b : Int))
  rw [bv_set l i b hb] at this
  refine ⟨?_, this.2⟩
  have h1 := this.1
  simp only [OwnB, List.length_set]
  exact h1
theorem OwnB.head {w : World} {base : Nat} {v : Value} {l : List UInt8} (h : OwnB w base v l) (hn : 0 < l.length) : ∃ g cap, v = .slice (some ⟨g, 0, none⟩) l.length cap ∧ base ≤ g ∧ g < w.heap.size ∧ l.length ≤ cap ∧ cap ≤ maxLen := by
  rcases h.2 with ⟨_, h0⟩ | ⟨g, cap, cur, rfl, hb, hg, h1, h2, _⟩
  · omega
  · exact ⟨g, cap, rfl, hb, (Array.getElem?_eq_some_iff.1 hg).1, h1, h2⟩
/-- a slice value that reads as these bytes -/
def SlcIs (w : World) (x : Value) (l : List UInt8) : Prop := ∃ A c, x = .slice A l.length c ∧ Sl w w.heap.size A (bv l) ∧ l.length ≤ c ∧ c ≤ maxLen
theorem SlcIs.nil (w : World) : SlcIs w (.slice none 0 0) [] := ⟨none, 0, rfl, Sl.nil, by simp, by simp [maxLen]⟩
theorem SlcIs.of {w : World} {A : Option Addr} {c : Nat} {l : List UInt8} {base : Nat} (h : OwnB w base (.slice A l.length c) l) : SlcIs w (.slice A l.length c) l := by
  obtain ⟨A', c', e, h1, h2, h3, _⟩ := h.form
  injection e with e1 e2 e3
  subst e1 e3
  exact ⟨_, _, rfl, h3, h1, h2⟩
theorem SlcIs.below {w w' : World} {x : Value} {l : List UInt8} (h : SlcIs w x l) (hb : Below w.heap.size w w') : SlcIs w' x l := by
  obtain ⟨A, c, rfl, h1, h2, h3⟩ := h
  exact ⟨A, c, rfl, (h1.below hb).more hb.size, h2, h3⟩
/-- bytes that have just been laid -/
theorem Sl.lit (w : World) (l : List UInt8) : Sl (w.alloc (.cells (bv l).toArray 5)) (w.heap.size + 1) (some ⟨w.heap.size, 0, none⟩) (bv l) := by
  have := Sl.new w 5 (bv l).toArray (0, 0)
  simpa using this
def str (l : List UInt8) : Value := .string ⟨l.toArray⟩
/-- string(b) -/
theorem conv {w : World} {B : Nat} {A : Option Addr} {l : List UInt8} (h : Sl w B A (bv l)) (n c : Nat) (hn : n = l.length) : (convert 46 9 (.slice A n c)).run Try.prog w = .ok (.string ⟨l.toArray⟩) w := by
  subst hn
  rcases h with h | ⟨b, o, e, _, _, hc⟩
  · have hl : l = [] := by simpa [bv] using h
    subst hl
    rcases A with _ | ad
    · exact run_convert_bytes_nil w _ 5 Try.underlying46 Try.underlying5 _ _ _ Try.underlying9
    · exact run_convert_bytes_back w _ _ 5 ad c [] Try.underlying46 Try.underlying5 Try.underlying9 (fun j hj => by simp at hj)
  · subst e
    refine run_convert_bytes_back w _ _ 5 ⟨b, o, none⟩ c l Try.underlying46 Try.underlying5 Try.underlying9 (fun j hj => ?_)
    have h1 : (⟨b, o, none⟩ : Addr).add j = ⟨b, o + j, none⟩ := by
      unfold Addr.add
      split
      · rename_i h0; subst h0; rfl
      · rfl
    rw [h1]
    refine hc j _ ?_
    simp [bv, u8v, List.getElem?_eq_getElem hj]
def uv (l : List Nat) : List Value := l.map (fun (x : Nat) => Value.int .u64 (x : Int))
@[simp] theorem uv_len (l : List Nat) : (uv l).length = l.length := by simp [uv]
theorem uv_get (l : List Nat) (k : Nat) (h : k < l.length) : (uv l)[k]? = some (.int .u64 ((l[k]?.getD 0 : Nat) : Int)) := by
  simp [uv, List.getElem?_map, List.getElem?_eq_getElem h]

/-- A fresh slice of bytes: what a function hands back. -/
def Fresh (w : World) (l : List UInt8) (e : Ending) (w' : World) : Prop :=
  ∃ A c, e = .returned (.slice A l.length c) ∧ OwnB w' w.heap.size (.slice A l.length c) l ∧ Below w.heap.size w w'
theorem Fresh.sl {w w' : World} {l : List UInt8} {A : Option Addr} {c : Nat} (h : OwnB w' w.heap.size (.slice A l.length c) l) : Sl w' w'.heap.size A (bv l) ∧ l.length ≤ c ∧ c ≤ maxLen := by
  obtain ⟨A', c', e, h1, h2, h3, _⟩ := h.form
  injection e with e1 e2 e3
  subst e1 e3
  exact ⟨h3, h1, h2⟩

theorem OwnB.sl {w' : World} {base : Nat} {l : List UInt8} {A : Option Addr} {c : Nat} (h : OwnB w' base (.slice A l.length c) l) : Sl w' w'.heap.size A (bv l) ∧ l.length ≤ c ∧ c ≤ maxLen := by
  obtain ⟨A', c', e, h1, h2, h3, _⟩ := h.form
  injection e with e1 e2 e3
  subst e1 e3
  exact ⟨h3, h1, h2⟩
theorem own_below {w wr w1 : World} {x : Value} {B : Nat} {l : List UInt8} (hb : Below B w wr) (hB : B ≤ wr.heap.size) (hown : OwnB wr B x l) (hg : wr.grownBy w1 x.ownBlock) : Below B w w1 :=
  hb.trans (below_of_grown hg (fun g e => (hown.lt g e).1) hB)

theorem Sl.lit64 (w : World) (l : List Nat) : Sl (w.alloc (.cells (uv l).toArray 71)) (w.heap.size + 1) (some ⟨w.heap.size, 0, none⟩) (uv l) := by
  have := Sl.new w 71 (uv l).toArray (0, 0)
  simpa using this
end Go.Proofs.Ytaflikgdlkaefaa
/- A region that draws its order, where nothing that is there is written: what only reads is taken as soon as it may come up; calls and new blocks come one behind another. -/
namespace Go.Proofs.Ytaflikgdlkaefaa
open Go.RowKit

/-- All that was there stands. -/
def KB (h : Array Obj) (W : World) : Prop := h.size ≤ W.heap.size ∧ ∀ k, k < h.size → W.heap[k]? = h[k]?
theorem KB.refl (w : World) : KB w.heap w := ⟨Nat.le_refl _, fun _ _ => rfl⟩
theorem KB.of {w W : World} (h : Below w.heap.size w W) : KB w.heap W := ⟨h.size, h.block⟩
theorem KB.ofN {w W : World} {_B : Nat} {row : Option Nat} (h : w.grownBy W row) (hr : ∀ g, row = some g → w.heap.size ≤ g) : KB w.heap W := ⟨h.size, fun k hk => h.block k hk (fun e => by have := hr k e.symm; omega)⟩
theorem KB.trans {h : Array Obj} {w W : World} (a : KB h w) (b : KB w.heap W) : KB h W := ⟨Nat.le_trans a.1 b.1, fun k hk => (b.2 k (Nat.lt_of_lt_of_le hk a.1)).trans (a.2 k hk)⟩
theorem KB.alloc (w : World) (o : Obj) : KB w.heap (w.alloc o) := ⟨by simp, fun k hk => Below.heap_alloc w o k hk⟩
theorem KB.cell {w W : World} (h : KB w.heap W) {p : Addr} (hp : p.block < w.heap.size) : W.cell? p = w.cell? p := World.cell?_of_block (w := w) (h.2 p.block hp)
theorem Sl.kb {w W : World} {B : Nat} {A : Option Addr} {xs : List Value} (h : Sl w B A xs) (k : KB w.heap W) : Sl W B A xs := h.keep k.1 fun _ _ hp => k.cell hp
theorem cellB {w : World} {p : Addr} {v : Value} (h : w.cell? p = some v) : ∀ W, KB w.heap W → W.cell? p = some v := fun _W hW => (hW.cell (World.block_lt_of_cell? w p h)).trans h
theorem convB {w : World} {B : Nat} {A : Option Addr} {l : List UInt8} (h : Sl w B A (bv l)) (n c : Nat) (hn : n = l.length) :
    ∀ W, KB w.heap W → (convert 46 9 (.slice A n c)).run Try.prog W = .ok (.string ⟨l.toArray⟩) W := fun _W hW => conv (h.kb hW) n c hn

def wpB (P : Program) (ops : Array Oper) (Q : Exit → Act → World → Prop) (h : Array Obj) (fuel : Nat) (listed : Array Bool) (a : Act) (w : World) : Prop := wpAnyH P .any ops Q (KB h) fuel listed a w
section
variable {P : Program} {ops : Array Oper} {Q : Exit → Act → World → Prop}
theorem wpAnyH_mono {md : Region.Mode} {S S' : World → Prop} (hs : ∀ w, S' w → S w) : ∀ (fuel : Nat) (listed : Array Bool) (a : Act) (w : World), wpAnyH P md ops Q S' fuel listed a w → wpAnyH P md ops Q S fuel listed a w
  | 0, _, _, _, h => h
  | fuel + 1, _, _, _, h => ⟨h.1, fun i hi => wpOp_mono (fun a' w' h' => ⟨hs _ h'.1, wpAnyH_mono hs fuel _ a' w' h'.2⟩) (h.2 i hi)⟩
theorem bstart {id : Nat} {a : Act} {w : World} (hm : P.follows .mixedOrders = true) (h : wpB P ops Q w.heap ops.size (Array.replicate ops.size false) a w.drew) : (Code.region id ops true).wp P Q a w := wp_region_held hm h
/-- The closed facts of a take, in one. -/
def okTake (ops : Array Oper) (listed : Array Bool) (i : Nat) : Bool := Region.noSelect ops && Region.free .any ops listed i && (Region.ready .any ops listed).contains i
theorem btake (i : Nat) {oi : Oper} {v : Value} {h : Array Obj} {fuel : Nat} {listed : Array Bool} {a : Act} {w : World} (hi : ops[i]? = some oi) (hok : okTake ops listed i = true)
    (hQ : ∀ c a w, Q (.panic c) (a.put oi.dst v) w → Q (.panic c) a w) (hS : KB h w)
    (hy : (Region.wanted oi (yielded ops a.tmps) = true ∧ ∀ W, KB h W → (execOp a.eval oi).run P W = .ok (.value v) W) ∨ (Region.wanted oi (yielded ops a.tmps) = false ∧ v = undef))
    (hr : wpB P ops Q h fuel (listed.setIfInBounds i true) (a.put oi.dst v) w) : wpB P ops Q h (fuel + 1) listed a w := by
  simp only [okTake, Bool.and_eq_true] at hok
  exact wpAnyH_take hi hok.1.1 hok.1.2 hok.2 hQ hy hS hr
def okOp (ops : Array Oper) (listed : Array Bool) (i : Nat) : Bool := Region.ready .any ops listed == [i]
theorem bop (i : Nat) {o : Oper} {h : Array Obj} {fuel : Nat} {listed : Array Bool} {a : Act} {w : World} (hi : ops[i]? = some o) (hok : okOp ops listed i = true) (hS : KB h w)
    (hw : Region.wanted o (yielded ops a.tmps) = true)
    (hr : ∀ K : Act → World → Prop, Shut (∀ a' w', KB w.heap w' → wpB P ops Q w'.heap fuel (listed.setIfInBounds i true) a' w' → K a' w') → o.wp P a w K Q) : wpB P ops Q h (fuel + 1) listed a w := by
  have hok' : Region.ready .any ops listed = [i] := by simpa [okOp] using hok
  refine wpAnyH_all hok' (by simp) fun j hj => ?_
  obtain rfl : j = i := by simpa using hj
  unfold wpOp
  simp only [hi, hw, if_true]
  exact .inl (hr _ (fun a' w' hk hb => ⟨hS.trans hk, wpAnyH_mono (fun W hW => (hS.trans hk).trans hW) _ _ _ _ hb⟩))
/-- The same two, for a region that turns memory: what is held is some other heap (what stands below a block). -/
theorem bstartH (h : Array Obj) {id : Nat} {a : Act} {w : World} (hm : P.follows .mixedOrders = true) (hh : wpB P ops Q h ops.size (Array.replicate ops.size false) a w.drew) : (Code.region id ops true).wp P Q a w := wp_region_held hm hh
theorem bopH (i : Nat) {o : Oper} {h : Array Obj} {fuel : Nat} {listed : Array Bool} {a : Act} {w : World} (hi : ops[i]? = some o) (hok : okOp ops listed i = true) (_hS : KB h w)
    (hw : Region.wanted o (yielded ops a.tmps) = true)
    (hr : ∀ K : Act → World → Prop, Shut (∀ a' w', KB h w' → wpB P ops Q h fuel (listed.setIfInBounds i true) a' w' → K a' w') → o.wp P a w K Q) : wpB P ops Q h (fuel + 1) listed a w := by
  have hok' : Region.ready .any ops listed = [i] := by simpa [okOp] using hok
  refine wpAnyH_all hok' (by simp) fun j hj => ?_
  obtain rfl : j = i := by simpa using hj
  unfold wpOp
  simp only [hi, hw, if_true]
  exact .inl (hr _ (fun a' w' hk hb => ⟨hk, hb⟩))
theorem bdone {h : Array Obj} {fuel : Nat} {listed : Array Bool} {a : Act} {w : World} (hr : Region.ready .any ops listed = []) (hq : Q .normal a w) : wpB P ops Q h fuel listed a w := wpAnyH_done hr hq fuel
/-! a call that leaves the world as it is may be taken as soon as it may come up -/
def QuietIf (P : Program) (ops : Array Oper) (S : World → Prop) (o : Oper) (v : Value) (a : Act) : Prop :=
  Region.wanted o (yielded ops a.tmps) = true ∧ ∃ f args, ∀ w, S w → (execOp a.eval o).run P w = .ok (.enter f args) w ∧ Calls P f args w (fun e w' => e = .returned v ∧ w = w')
theorem QuietIf.of_same {S : World → Prop} {o : Oper} {v : Value} {a a' : Act} (hy : QuietIf P ops S o v a) (he : execOp a'.eval o = execOp a.eval o)
    (hw : Region.wanted o (yielded ops a'.tmps) = Region.wanted o (yielded ops a.tmps)) : QuietIf P ops S o v a' := by
  unfold QuietIf at *
  rw [he, hw]
  exact hy
theorem QuietIf.wpOp {S : World → Prop} {i : Nat} {o : Oper} {v : Value} {a : Act} (hi : ops[i]? = some o) (hy : QuietIf P ops S o v a)
    {K : Act → World → Prop} {w : World} (hS : S w) (h : K (a.put o.dst v) w) : wpOp P ops Q i K a w := by
  unfold Go.wpOp
  simp only [hi]
  obtain ⟨hw, f, args, hv⟩ := hy
  simp only [hw, if_true, Oper.wp, (hv w hS).1, Oper.upon]
  refine .inl ((hv w hS).2.mono ?_)
  rintro e w' ⟨rfl, rfl⟩
  exact h
theorem wpOp_putQ {S : World → Prop} {j : Nat} {oi oj : Oper} {v : Value} (hj : ops[j]? = some oj) (hap : oi.apart ops oj = true)
    (hsi : ∀ cs b, oi.op ≠ .select cs b) (hsj : ∀ cs b, oj.op ≠ .select cs b)
    (hQ : ∀ c a w, Q (.panic c) (a.put oi.dst v) w → Q (.panic c) a w) {K : Act → World → Prop} {a : Act} {w : World}
    (hy : QuietIf P ops S oi v a) (h : wpOp P ops Q j K (a.put oi.dst v) w) :
    wpOp P ops Q j (fun a' w' => QuietIf P ops S oi v a' ∧ K (a'.put oi.dst v) w') a w := by
  obtain ⟨h1, h2, h3⟩ := Oper.apart_spec hap
  have keep : ∀ (a : Act), QuietIf P ops S oi v a → ∀ u, QuietIf P ops S oi v (a.put oj.dst u) := fun a hy u =>
    hy.of_same (execOp_put oi hsi a oj.dst u h3) (wanted_put oi a oj.dst u h3)
  have keepD : ∀ d, QuietIf P ops S oi v { a with defers := d :: a.defers } := fun d => hy.of_same rfl rfl
  unfold Go.wpOp at *
  simp only [hj] at *
  rw [wanted_put oj a oi.dst v h1] at h
  split
  · rename_i hw
    simp only [hw, if_true] at h
    rcases h with h | ⟨hasks, hlets⟩
    case inr => exact .inr ⟨by unfold Oper.asks at *; rw [execOp_put oj hsj a oi.dst v h1] at hasks; exact hasks, hlets⟩
    refine .inl ?_
    unfold Oper.wp at *
    rw [execOp_put oj hsj a oi.dst v h1] at h
    generalize (execOp a.eval oj).run P w = r at *
    cases r with
    | ok n w' =>
      cases n <;> simp only [Oper.upon] at h ⊢
      case value u => exact ⟨keep a hy u, by rw [← Act.put_comm a v u h2]; exact h⟩
      case skip => exact ⟨keep a hy _, by rw [← Act.put_comm a v undef h2]; exact h⟩
      case defer d =>
        refine ⟨keep _ (keepD d) _, ?_⟩
        rw [← Act.put_comm _ v undef h2, ← Act.put_defers]
        exact h
      case enter f args =>
        refine Calls.mono h fun e w'' he => ?_
        cases e with
        | returned u => exact ⟨keep a hy u, by rw [← Act.put_comm a v u h2]; exact he⟩
        | panicked c => exact hQ _ _ _ he
        | outgrown => exact he
      case row row args => exact Rows.mono h fun u w'' he => ⟨keep a hy u, by rw [← Act.put_comm a v u h2]; exact he⟩
    | halt x w' =>
      cases x <;> simp only [Oper.upon] at h ⊢
      case panic u => exact hQ _ _ _ h
  · rename_i hw
    simp only [hw] at h
    exact ⟨keep a hy _, by rw [← Act.put_comm a v undef h2]; exact h⟩
theorem wpAnyH_firstQ {md : Region.Mode} {S : World → Prop} {i : Nat} {oi : Oper} {v : Value} (hi : ops[i]? = some oi) (hsel : ∀ (j : Nat) (o : Oper) cs b, ops[j]? = some o → o.op ≠ .select cs b)
    (hQ : ∀ c a w, Q (.panic c) (a.put oi.dst v) w → Q (.panic c) a w) :
    ∀ (fuel : Nat) (listed : Array Bool) (a : Act) (w : World),
      (∀ j oj, ops[j]? = some oj → j ≠ i → listed.getD j true = false → (∀ e ∈ oj.after, Region.binds md e = true → e.on ≠ i) → oi.apart ops oj = true) →
      i ∈ Region.ready md ops listed → QuietIf P ops S oi v a → S w →
      wpAnyH P md ops Q S fuel (listed.setIfInBounds i true) (a.put oi.dst v) w → wpAnyH P md ops Q S (fuel + 1) listed a w := by
  intro fuel
  induction fuel with
  | zero =>
    intro listed a w _ hr hy hS H
    refine ⟨fun h => (by rw [h] at hr; cases hr), fun j hj => ?_⟩
    by_cases hji : j = i
    · subst hji; exact hy.wpOp hi hS ⟨hS, H⟩
    · have := ready_mono hj hji
      rw [H.1] at this
      cases this
  | succ fuel ih =>
    intro listed a w hfree hr hy hS H
    refine ⟨fun h => (by rw [h] at hr; cases hr), fun j hj => ?_⟩
    by_cases hji : j = i
    · subst hji; exact hy.wpOp hi hS ⟨hS, H⟩
    · have h1 := H.2 j (ready_mono hj hji)
      obtain ⟨hjun, oj, hoj, hall⟩ := mem_ready.1 hj
      have hnot : ∀ e ∈ oj.after, Region.binds md e = true → e.on ≠ i := fun e he hb heq => by
        have h1 := hall e he hb
        have h0 := (mem_ready.1 hr).1
        rw [heq] at h1
        rcases Nat.lt_or_ge i listed.size with h' | h'
        · simp [h'] at h0 h1; rw [h0] at h1; cases h1
        · simp [Array.getElem?_eq_none h'] at h1
      have h2 := wpOp_putQ hoj (hfree j oj hoj hji hjun hnot) (fun cs b => hsel i oi cs b hi) (fun cs b => hsel j oj cs b hoj) hQ hy h1
      have hfree' : ∀ k ok, ops[k]? = some ok → k ≠ i → (listed.setIfInBounds j true).getD k true = false →
          (∀ e ∈ ok.after, Region.binds md e = true → e.on ≠ i) → oi.apart ops ok = true := fun k ok hk hki hun hno => by
        refine hfree k ok hk hki ?_ hno
        by_cases hjk : j = k
        · subst hjk; exact hjun
        · rw [getD_set_ne true hjk] at hun; exact hun
      refine wpOp_mono (fun a' w' h3 => ⟨h3.2.1, ih (listed.setIfInBounds j true) a' w' hfree' (ready_mono hr (Ne.symm hji)) h3.1 h3.2.1 ?_⟩) h2
      rw [Array.setIfInBounds_comm _ _ hji]
      exact h3.2.2
theorem bquiet (i : Nat) {oi : Oper} (v : Value) {f : FuncId} {args : Array Value} {h : Array Obj} {fuel : Nat} {listed : Array Bool} {a : Act} {w : World} (hi : ops[i]? = some oi) (hok : okTake ops listed i = true)
    (hQ : ∀ c a w, Q (.panic c) (a.put oi.dst v) w → Q (.panic c) a w) (hS : KB h w)
    (hw : Region.wanted oi (yielded ops a.tmps) = true) (hrun : ∀ W, KB h W → (execOp a.eval oi).run P W = .ok (.enter f args) W)
    (hc : ∀ W, KB h W → Calls P f args W (fun e w' => e = .returned v ∧ W = w'))
    (hr : wpB P ops Q h fuel (listed.setIfInBounds i true) (a.put oi.dst v) w) : wpB P ops Q h (fuel + 1) listed a w := by
  simp only [okTake, Bool.and_eq_true] at hok
  exact wpAnyH_firstQ hi (Region.noSelect_spec hok.1.1) hQ fuel listed a w (Region.free_spec hi hok.1.2) (by simpa using hok.2) ⟨hw, f, args, fun W hW => ⟨hrun W hW, hc W hW⟩⟩ hS hr
end
end Go.Proofs.Ytaflikgdlkaefaa
/- A region that draws its order, with operations that make memory or call in whatever order: each is shown to yield what its own predicate says, once what it waits for does. -/
namespace Go.Proofs.Ytaflikgdlkaefaa
open Go.RowKit

/-- what one operation of a region yields -/
structure Yld where
  j : Nat
  d : Option Tmp
  pr : Value → World → Prop
  st : ∀ (v : Value) (w w' : World), pr v w → KB w.heap w' → pr v w'
def Yld.eq (j : Nat) (d : Option Tmp) (x : Value) : Yld := ⟨j, d, fun v _ => v = x, fun _ _ _ h _ => h⟩
def puts (L : List Yld) (vs : Nat → Value) (a : Act) : Act := L.foldl (fun a s => a.put s.d (vs s.j)) a
def waits (ops : Array Oper) (j : Nat) : List Nat := ((ops[j]?.map (·.after.toList)).getD []).filterMap fun e => if Region.binds .any e = true then some e.on else none
def parOk (ops : Array Oper) (L : List Yld) : Bool :=
  L.all (fun s => (ops[s.j]?.map (·.dst)) == some s.d) && (List.range ops.size).all (fun j => (waits ops j).all (· < j))
theorem put_put (a : Act) (d : Option Tmp) (u v : Value) : (a.put d u).put d v = a.put d v := by
  cases d with
  | none => rfl
  | some d => simp [Act.put]
theorem puts_put : ∀ (L : List Yld) (vs : Nat → Value) (a : Act) (d : Option Tmp) (v : Value), (∀ s ∈ L, ∀ x, d = some x → s.d ≠ some x) → (puts L vs a).put d v = puts L vs (a.put d v)
  | [], _, _, _, _, _ => rfl
  | s :: L, vs, a, d, v, h => by
    show (puts L vs (a.put s.d (vs s.j))).put d v = puts L vs ((a.put d v).put s.d (vs s.j))
    rw [puts_put L vs _ d v fun t ht => h t (List.mem_cons_of_mem _ ht)]
    rw [Act.put_comm a v (vs s.j) fun x hx => h s (List.mem_cons_self ..) x hx]
def upd (vs : Nat → Value) (j : Nat) (v : Value) : Nat → Value := fun i => if i = j then v else vs i
theorem puts_upd_not : ∀ (L : List Yld) (vs : Nat → Value) (a : Act) (j : Nat) (v : Value), (∀ s ∈ L, s.j ≠ j) → puts L (upd vs j v) a = puts L vs a
  | [], _, _, _, _, _ => rfl
  | s :: L, vs, a, j, v, h => by
    show puts L (upd vs j v) (a.put s.d (upd vs j v s.j)) = puts L vs (a.put s.d (vs s.j))
    rw [puts_upd_not L vs _ j v fun t ht => h t (List.mem_cons_of_mem _ ht)]
    have : upd vs j v s.j = vs s.j := if_neg (h s (List.mem_cons_self ..))
    rw [this]
/-- the destinations differ, the places too -/
def parNodup : List Yld → Prop
  | [] => True
  | s :: L => (∀ t ∈ L, t.j ≠ s.j ∧ ∀ x, s.d = some x → t.d ≠ some x) ∧ parNodup L
def parNodupB : List Yld → Bool
  | [] => true
  | s :: L => L.all (fun t => t.j != s.j && (s.d == none || t.d != s.d)) && parNodupB L
theorem parNodup_of : ∀ {L : List Yld}, parNodupB L = true → parNodup L
  | [], _ => trivial
  | s :: L, h => by
    simp only [parNodupB, Bool.and_eq_true, List.all_eq_true] at h
    refine ⟨fun t ht => ?_, parNodup_of h.2⟩
    have := h.1 t ht
    simp only [bne_iff_ne, Bool.or_eq_true, beq_iff_eq] at this
    refine ⟨this.1, fun x hx he => ?_⟩
    rcases this.2 with h' | h'
    · rw [h'] at hx; cases hx
    · exact h' (he.trans hx.symm)
theorem puts_upd : ∀ (L : List Yld) (vs : Nat → Value) (a : Act) (s : Yld) (v : Value), parNodup L → s ∈ L → puts L (upd vs s.j v) a = (puts L vs a).put s.d v
  | [], _, _, _, _, _, h => by cases h
  | t :: L, vs, a, s, v, hn, h => by
    rcases List.mem_cons.1 h with rfl | h
    · show puts L (upd vs s.j v) (a.put s.d (upd vs s.j v s.j)) = (puts L vs (a.put s.d (vs s.j))).put s.d v
      rw [puts_upd_not L vs _ _ _ fun t ht => (hn.1 t ht).1, puts_put L vs _ _ _ fun t ht => (hn.1 t ht).2, put_put]
      have : upd vs s.j v s.j = v := if_pos rfl
      rw [this]
    · show puts L (upd vs s.j v) (a.put t.d (upd vs s.j v t.j)) = (puts L vs (a.put t.d (vs t.j))).put s.d v
      have : upd vs s.j v t.j = vs t.j := if_neg (fun e => (hn.1 s h).1 e.symm)
      rw [this, puts_upd L vs _ s v hn.2 h]
theorem put_self (a : Act) (d : Option Tmp) : a.put d ((d.map (a.tmps.getD · undef)).getD undef) = a := by
  cases d with
  | none => rfl
  | some d =>
    obtain ⟨tmps, defers⟩ := a
    simp only [Act.put, Option.map_some, Option.getD_some, Act.mk.injEq, and_true]
    apply Array.ext_getElem?
    intro i
    rw [Array.getElem?_setIfInBounds]
    split
    · subst_vars
      split
      · rename_i h; simp [h]
      · rename_i h; simp at h; simp [h]
    · rfl
theorem puts_self : ∀ (L : List Yld) (a : Act), parNodup L → ∃ vs, puts L vs a = a
  | [], a, _ => ⟨fun _ => undef, rfl⟩
  | s :: L, a, hn => by
    obtain ⟨vs, h⟩ := puts_self L a hn.2
    refine ⟨upd vs s.j ((s.d.map (a.tmps.getD · undef)).getD undef), ?_⟩
    show puts L (upd vs s.j _) (a.put s.d (upd vs s.j _ s.j)) = a
    have : upd vs s.j ((s.d.map (a.tmps.getD · undef)).getD undef) s.j = (s.d.map (a.tmps.getD · undef)).getD undef := if_pos rfl
    rw [this, put_self, puts_upd_not L vs _ _ _ fun t ht => (hn.1 t ht).1, h]
theorem count_set : ∀ (l : List Bool) (i : Nat), l[i]? = some false → (l.set i true).count false + 1 = l.count false
  | [], _, h => by simp at h
  | b :: l, 0, h => by simp at h; subst h; simp
  | b :: l, i + 1, h => by
    have := count_set l i (by simpa using h)
    simp only [List.set_cons_succ, List.count_cons]
    omega
theorem count_none : ∀ (l : List Bool), l.count false = 0 → ∀ i : Nat, l[i]? ≠ some false
  | [], _, i => by simp
  | b :: l, h, 0 => by
    simp only [List.count_cons] at h
    intro e
    simp at e; subst e; simp at h
  | b :: l, h, i + 1 => by
    simp only [List.count_cons] at h
    simpa using count_none l (by omega) i
theorem getD_false {l : Array Bool} {i : Nat} : l.getD i true = false ↔ l.toList[i]? = some false := by
  simp only [Array.getD_eq_getD_getElem?, Array.getElem?_toList]
  cases h : l[i]? with
  | none => simp
  | some b => simp
section
variable {P : Program} {ops : Array Oper} {Q : Exit → Act → World → Prop}
theorem waits_lt {j : Nat} {o : Oper} (ho : ops[j]? = some o) {L : List Yld} (hok : parOk ops L = true) : ∀ e ∈ o.after, Region.binds .any e = true → e.on < j := by
  intro e he hb
  simp only [parOk, Bool.and_eq_true, List.all_eq_true, List.mem_range, decide_eq_true_eq] at hok
  refine hok.2 j (Array.getElem?_eq_some_iff.1 ho).1 e.on ?_
  unfold waits
  rw [ho]
  simp only [Option.map_some, Option.getD_some, List.mem_filterMap]
  exact ⟨e, by simpa using he, by rw [if_pos hb]⟩
theorem ready_nil {L : List Yld} (hok : parOk ops L = true) {listed : Array Bool} (hs : listed.size = ops.size) (h : Region.ready .any ops listed = []) : ∀ j, listed.getD j true ≠ false := by
  intro j
  induction j using Nat.strongRecOn with
  | _ j ih =>
    intro hj
    have hlt : j < ops.size := by
      have := getD_false.1 hj
      have := (List.getElem?_eq_some_iff.1 this).1
      simp at this; omega
    have : j ∈ Region.ready .any ops listed := by
      refine mem_ready.2 ⟨hj, ops[j], Array.getElem?_eq_getElem hlt, fun e he hb => ?_⟩
      have hlt' := waits_lt (Array.getElem?_eq_getElem hlt) hok e he hb
      have := ih e.on hlt'
      have hsz : e.on < listed.size := by omega
      simp [Array.getD, hsz] at this ⊢
      exact this
    rw [h] at this
    cases this
theorem bpar_aux (L : List Yld) (hok : parOk ops L = true) (hn : parNodup L) {a0 : Act} {h : Array Obj} {w0 : World}
    (hstep : ∀ s ∈ L, ∀ (vs : Nat → Value) (w : World), KB h w → Below w0.heap.size w0 w → (∀ t ∈ L, (waits ops s.j).contains t.j = true → t.pr (vs t.j) w) →
      wpOp P ops Q s.j (fun a' w' => ∃ v, a' = (puts L vs a0).put s.d v ∧ s.pr v w' ∧ Below w.heap.size w w') (puts L vs a0) w)
    (hend : ∀ (vs : Nat → Value) (w : World), KB h w → Below w0.heap.size w0 w → (∀ t ∈ L, t.pr (vs t.j) w) → Q .normal (puts L vs a0) w) :
    ∀ (fuel : Nat) (listed : Array Bool) (vs : Nat → Value) (w : World), listed.size = ops.size → listed.toList.count false ≤ fuel → (∀ j, listed.getD j true = false → ∃ s ∈ L, s.j = j) →
      (∀ t ∈ L, listed.getD t.j true = true → t.pr (vs t.j) w) → KB h w → Below w0.heap.size w0 w → wpB P ops Q h fuel listed (puts L vs a0) w := by
  have all : ∀ (listed : Array Bool) (vs : Nat → Value) (w : World), (∀ j, listed.getD j true ≠ false) → (∀ t ∈ L, listed.getD t.j true = true → t.pr (vs t.j) w) → KB h w → Below w0.heap.size w0 w → Q .normal (puts L vs a0) w := by
    intro listed vs w hall hpr hk hb
    exact hend vs w hk hb fun t ht => hpr t ht (by have := hall t.j; simpa using this)
  intro fuel
  induction fuel with
  | zero =>
    intro listed vs w hs hc hun hpr hk hb
    have hall : ∀ j, listed.getD j true ≠ false := fun j hj => count_none listed.toList (by omega) j (getD_false.1 hj)
    refine ⟨?_, all listed vs w hall hpr hk hb⟩
    cases hr : Region.ready .any ops listed with
    | nil => rfl
    | cons j t => exact absurd (mem_ready.1 (by rw [hr]; exact List.mem_cons_self ..)).1 (hall j)
  | succ fuel ih =>
    intro listed vs w hs hc hun hpr hk hb
    refine ⟨fun hr => all listed vs w (ready_nil hok hs hr) hpr hk hb, fun j hj => ?_⟩
    obtain ⟨hju, o, ho, hdep⟩ := mem_ready.1 hj
    obtain ⟨s, hsL, rfl⟩ := hun j hju
    refine wpOp_mono ?_ (hstep s hsL vs w hk hb fun t ht hw => ?_)
    · rintro a' w' ⟨v, rfl, hv, hbw⟩
      have hkw := KB.of hbw
      refine ⟨hk.trans hkw, ?_⟩
      rw [← puts_upd L vs a0 s v hn hsL]
      refine ih _ _ _ (by simpa using hs) ?_ ?_ ?_ (hk.trans hkw) (bstep hb hbw)
      · have := count_set listed.toList s.j (getD_false.1 hju)
        rw [Array.toList_setIfInBounds]; omega
      · intro i hi
        refine hun i ?_
        by_cases he : s.j = i
        · subst he; exact hju
        · rwa [getD_set_ne true he] at hi
      · intro t ht hl
        by_cases he : t.j = s.j
        · have hts : t = s := by
            by_cases hne : t = s
            · exact hne
            · exfalso
              have : ∀ (M : List Yld), parNodup M → t ∈ M → s ∈ M → False := by
                intro M
                induction M with
                | nil => intro _ h; cases h
                | cons x M ihM =>
                  intro hnM h1 h2
                  rcases List.mem_cons.1 h1 with e1 | g1
                  · rcases List.mem_cons.1 h2 with e2 | g2
                    · exact hne (e1.trans e2.symm)
                    · subst e1; exact (hnM.1 s g2).1 he.symm
                  · rcases List.mem_cons.1 h2 with e2 | g2
                    · subst e2; exact (hnM.1 t g1).1 he
                    · exact ihM hnM.2 g1 g2
              exact this L hn ht hsL
          subst hts
          have : upd vs t.j v t.j = v := if_pos rfl
          rw [this]; exact hv
        · have : upd vs s.j v t.j = vs t.j := if_neg he
          rw [this]
          rw [getD_set_ne true (Ne.symm he)] at hl
          exact t.st _ _ _ (hpr t ht hl) hkw
    · unfold waits at hw
      rw [ho] at hw
      simp only [Option.map_some, Option.getD_some, List.contains_iff_mem, List.mem_filterMap] at hw
      obtain ⟨e, he, heq⟩ := hw
      split at heq
      · rename_i hb
        injection heq with heq
        have := hdep e (by simpa using he) hb
        rw [heq] at this
        refine hpr t ht ?_
        by_cases hb' : t.j < listed.size
        · simp [Array.getD, hb'] at this ⊢; exact this
        · simp [Array.getD, hb'] at this
      · cases heq
/-- The rest of a region, in whatever order. -/
theorem bpar (L : List Yld) (hok : parOk ops L = true) (hn : parNodupB L = true) {a0 : Act} {h : Array Obj} {fuel : Nat} {listed : Array Bool} {w : World}
    (hl : (listed.size == ops.size && decide (listed.toList.count false ≤ fuel) && (List.range ops.size).all (fun j => listed.getD j true || L.any (·.j == j)) && L.all (fun s => !listed.getD s.j true)) = true)
    (hk : KB h w)
    (hstep : ∀ s ∈ L, ∀ (vs : Nat → Value) (W : World), KB h W → Below w.heap.size w W → (∀ t ∈ L, (waits ops s.j).contains t.j = true → t.pr (vs t.j) W) →
      wpOp P ops Q s.j (fun a' w' => ∃ v, a' = (puts L vs a0).put s.d v ∧ s.pr v w' ∧ Below W.heap.size W w') (puts L vs a0) W)
    (hend : ∀ (vs : Nat → Value) (W : World), KB h W → Below w.heap.size w W → (∀ t ∈ L, t.pr (vs t.j) W) → Q .normal (puts L vs a0) W) : wpB P ops Q h fuel listed a0 w := by
  simp only [Bool.and_eq_true, beq_iff_eq, decide_eq_true_eq, List.all_eq_true, List.mem_range, Bool.or_eq_true, List.any_eq_true, Bool.not_eq_true'] at hl
  obtain ⟨vs, hvs⟩ := puts_self L a0 (parNodup_of hn)
  have := bpar_aux (P := P) (Q := Q) L hok (parNodup_of hn) hstep hend fuel listed vs w hl.1.1.1 hl.1.1.2 (fun j hj => ?_) (fun t ht h' => ?_) hk (Below.refl _ _)
  · rwa [hvs] at this
  · have hlt : j < ops.size := by
      have := (List.getElem?_eq_some_iff.1 (getD_false.1 hj)).1
      have h2 := hl.1.1.1
      simp at this; omega
    rcases hl.1.2 j hlt with h' | ⟨s, hs, he⟩
    · rw [hj] at h'; cases h'
    · exact ⟨s, hs, he⟩
  · have := hl.2 t ht
    rw [h'] at this; cases this
theorem wpOp_of {j : Nat} {o : Oper} {K : Act → World → Prop} {a : Act} {w : World} (ho : ops[j]? = some o) (hw : Region.wanted o (yielded ops a.tmps) = true) (h : o.wp P a w K Q) : wpOp P ops Q j K a w := by
  unfold wpOp
  simp only [ho, hw, if_true]
  exact .inl h
theorem wpOp_off {j : Nat} {o : Oper} {K : Act → World → Prop} {a : Act} {w : World} (ho : ops[j]? = some o) (hw : Region.wanted o (yielded ops a.tmps) = false) (h : K (a.put o.dst undef) w) : wpOp P ops Q j K a w := by
  unfold wpOp
  simp only [ho, hw]
  exact h
theorem par_of {j : Nat} {o : Oper} {d : Option Tmp} {pr : Value → World → Prop} {a : Act} {w : World} (ho : ops[j]? = some o) (hw : Region.wanted o (yielded ops a.tmps) = true)
    (h : ∀ K : Act → World → Prop, Shut (∀ (a' : Act) (v : Value) (w' : World), a' = a.put d v → pr v w' → Below w.heap.size w w' → K a' w') → o.wp P a w K Q) :
    wpOp P ops Q j (fun a' w' => ∃ v, a' = a.put d v ∧ pr v w' ∧ Below w.heap.size w w') a w :=
  wpOp_of ho hw (h _ (fun _a' v _w' h1 h2 h3 => ⟨v, h1, h2, h3⟩))
theorem par_off {j : Nat} {o : Oper} {d : Option Tmp} {pr : Value → World → Prop} {a : Act} {w : World} (ho : ops[j]? = some o) (hw : Region.wanted o (yielded ops a.tmps) = false) (hd : o.dst = d)
    (h : pr undef w) : wpOp P ops Q j (fun a' w' => ∃ v, a' = a.put d v ∧ pr v w' ∧ Below w.heap.size w w') a w := by
  subst hd
  exact wpOp_off ho hw ⟨undef, rfl, h, Below.refl _ w⟩
end
section
variable {P : Program} {ops : Array Oper} {Q : Exit → Act → World → Prop}
/-- Two operations may come up now: both ways. -/
theorem bopH2 (i j : Nat) {oi oj : Oper} {h : Array Obj} {fuel : Nat} {listed : Array Bool} {a : Act} {w : World} (hi : ops[i]? = some oi) (hj : ops[j]? = some oj) (hok : (Region.ready .any ops listed == [i, j]) = true) (_hS : KB h w)
    (hwi : Region.wanted oi (yielded ops a.tmps) = true) (hwj : Region.wanted oj (yielded ops a.tmps) = true)
    (hri : ∀ K : Act → World → Prop, Shut (∀ a' w', KB h w' → wpB P ops Q h fuel (listed.setIfInBounds i true) a' w' → K a' w') → oi.wp P a w K Q)
    (hrj : ∀ K : Act → World → Prop, Shut (∀ a' w', KB h w' → wpB P ops Q h fuel (listed.setIfInBounds j true) a' w' → K a' w') → oj.wp P a w K Q) : wpB P ops Q h (fuel + 1) listed a w := by
  have hok' : Region.ready .any ops listed = [i, j] := by simpa using hok
  refine wpAnyH_all hok' (by simp) fun k hk => ?_
  rcases List.mem_cons.1 hk with rfl | hk
  · unfold wpOp
    simp only [hi, hwi, if_true]
    exact .inl (hri _ (fun a' w' hk hb => ⟨hk, hb⟩))
  · obtain rfl : k = j := by simpa using hk
    unfold wpOp
    simp only [hj, hwj, if_true]
    exact .inl (hrj _ (fun a' w' hk hb => ⟨hk, hb⟩))
end
/-! operations under a guard that says yes -/
theorem appG {ops : Array Oper} {rest : List Oper} {o : Oper} {a : Act} {Q : Exit → Act → World → Prop} {w : World} {s x : Operand} (hgd : Region.wanted o (yielded ops a.tmps) = true) (ho : o.op = .call { callee := .builtin .append, args := #[s, x], argTypes := #[46, 46] })
    {base : Nat} {v : Value} {l : List UInt8} (hown : OwnB w base v l) {B : Nat} {A : Option Addr} {m c : Nat} {k : List UInt8} (hr : Sl w B A (bv k)) (hm : m = k.length)
    (hs : a.eval s = v) (hx : a.eval x = .slice A m c) (hbytes : l.length + k.length ≤ 140737488355328) (hbase : base ≤ w.heap.size)
    (h : ∀ v' w', OwnB w' base v' (l ++ k) → w.grownBy w' v.ownBlock → (v'.ownBlock = v.ownBlock ∨ v'.ownBlock = some w.heap.size) → wpList Try.prog ops Q rest (a.put o.dst v') w') : wpList Try.prog ops Q (o :: rest) a w :=
  BigFrame.wpList_want hgd fun _ hK => wp_app ho hown hr hm hs hx hbytes hbase fun v' w' h2 h3 h4 => hK _ _ (h v' w' h2 h3 h4)
theorem OwnB.one (w : World) (a : Nat) (ha : a < 256) : OwnB (w.alloc (.cells #[.int .u8 (a : Int)] 5)) w.heap.size (.slice (some ⟨w.heap.size, 0, none⟩) 1 1) [UInt8.ofNat a] := by
  have := OwnB.lit w w.heap.size [UInt8.ofNat a] (Nat.le_refl _) (by simp [maxLen])
  rw [← one_bv a ha] at this
  exact this
theorem Sl.two (w : World) (a b : Nat) (ha : a < 256) (hb : b < 256) : Sl (w.alloc (.cells #[.int .u8 (a : Int), .int .u8 (b : Int)] 5)) (w.heap.size + 1) (some ⟨w.heap.size, 0, none⟩) (bv [UInt8.ofNat a, UInt8.ofNat b]) := by
  have := Sl.new w 5 #[.int .u8 (a : Int), .int .u8 (b : Int)] (0, 0)
  rw [← two_bv a b ha hb]
  simpa using this
theorem OwnB.lower {w : World} {base base' : Nat} {v : Value} {l : List UInt8} (h : OwnB w base v l) (hb : base' ≤ base) : OwnB w base' v l := by
  refine ⟨h.1, ?_⟩
  rcases h.2 with h' | ⟨g, cap, cur, e, hb', rest⟩
  · exact .inl h'
  · exact .inr ⟨g, cap, cur, e, Nat.le_trans hb hb', rest⟩
theorem OwnB.oneG (w : World) (a : Nat) (ha : a < 256) {base : Nat} (hb : base ≤ w.heap.size) : OwnB (w.alloc (.cells #[.int .u8 (a : Int)] 5)) base (.slice (some ⟨w.heap.size, 0, none⟩) 1 1) [UInt8.ofNat a] := (OwnB.one w a ha).lower hb
theorem OwnB.apartN {w : World} {base n m : Nat} {v : Value} {l : List UInt8} (h : OwnB w base v l) : (Value.slice (some ⟨w.heap.size, 0, none⟩) n m).ownBlock = none ∨ (Value.slice (some ⟨w.heap.size, 0, none⟩) n m).ownBlock ≠ v.ownBlock := by
  right
  intro e
  have := (h.lt w.heap.size (by rw [← e]; rfl)).2
  omega
theorem OwnB.apartO {w w' : World} {base : Nat} {v v' : Value} {l l' : List UInt8} (h : OwnB w base v l) (h' : OwnB w' w.heap.size v' l') : v.ownBlock = none ∨ v.ownBlock ≠ v'.ownBlock := by
  cases hv : v.ownBlock with
  | none => exact .inl rfl
  | some k =>
    right
    intro e
    have h1 := (h.lt k hv).2
    have h2 := (h'.lt k e.symm).1
    omega
end Go.Proofs.Ytaflikgdlkaefaa
/- What structs of two cells share. -/
namespace Go.Proofs.Ytaflikgdlkaefaa
open Go.RowKit
set_option maxRecDepth 20000

def i64in (a : Int) : Prop := -9223372036854775808 ≤ a ∧ a ≤ 9223372036854775807
theorem ret_b {a b : Bool} (h : a = b) : Ending.returned (.bool a) = .returned (.bool b) := by rw [h]
theorem ret_i {k : IntKind} {a b : Int} (h : a = b) : Ending.returned (.int k a) = .returned (.int k b) := by rw [h]
theorem cell2 (w : World) (t : TypeId) (a b : Value) : (w.alloc (.cells #[a, b] t)).cell? ⟨w.heap.size, 0, none⟩ = some a ∧ (w.alloc (.cells #[a, b] t)).cell? ⟨w.heap.size, 1, none⟩ = some b := by
  obtain ⟨b', o, e, _, _, h⟩ := (Sl.new w t #[a, b] (0, 0)).at_ (k := 0) (by simp)
  cases e
  exact ⟨h 0 a rfl, h 1 b rfl⟩
theorem setCell_other (w : World) (g g' o o' : Nat) (v : Value) (h : g ≠ g' ∨ o ≠ o') : (w.setCell ⟨g, o, none⟩ v).cell? ⟨g', o', none⟩ = w.cell? ⟨g', o', none⟩ := World.cell?_setCell_other _ _ _ _ (by
  intro e
  injection e with e1 e2
  rcases h with h | h
  · exact h e1
  · exact h e2)
theorem setCell_frozen (w : World) (g o : Nat) (v : Value) (x : Addr) : (w.setCell ⟨g, o, none⟩ v).frozen? x = w.frozen? x := by
  exact World.frozen?_setCells g [v] o w x
end Go.Proofs.Ytaflikgdlkaefaa
