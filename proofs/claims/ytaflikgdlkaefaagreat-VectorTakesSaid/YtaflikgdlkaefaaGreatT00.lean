/- Words for memory: a slice that reads as a list; a row of bytes of the call's own; append. -/
import Derived.Test.YtaflikgdlkaefaaGreatRows
import Derived.WalkKit
import Derived.ProofKit
import Derived.OpenShut
import Derived.Maps.AppendAt
import Derived.Deep.AppendLies
import Derived.Deep.Draws
import Derived.Lib.Hide
import Derived.Laws.BytesArg
import Derived.Laws.IdiomStrings
import Derived.WalkSpells
import Derived.Lib.SliceRun
import Derived.WalkLawsBesides
import Derived.Deep.RegionHeld
import Derived.Laws.StructEq
import Init
namespace Go.Proofs.YtaflikgdlkaefaaGreat
open Go.RowKit

/-- A number fits 64 bits, 32 bits: behind a name, so that the walk doesn't meet the long numeral. -/
def U64 (n : Nat) : Prop := n < 18446744073709551616
theorem U64.out {n : Nat} (h : U64 n) : n < 18446744073709551616 := h
theorem U64.mk {n : Nat} (h : n < 18446744073709551616) : U64 n := h

/-! ### bytes as cells -/
def u8v (c : UInt8) : Value := .int .u8 (c.toNat : Int)
def bv (l : List UInt8) : List Value := l.map u8v
@[simp] theorem bv_len (l : List UInt8) : (bv l).length = l.length := by simp [bv]
@[simp] theorem bv_nil : bv [] = [] := rfl
@[simp] theorem bv_app (a b : List UInt8) : bv (a ++ b) = bv a ++ bv b := by simp [bv]
theorem bv_take (l : List UInt8) (k : Nat) : (bv l).take k = bv (l.take k) := by simp [bv, List.map_take]
theorem bv_drop (l : List UInt8) (k : Nat) : (bv l).drop k = bv (l.drop k) := by simp [bv, List.map_drop]
theorem bv_get (l : List UInt8) (k : Nat) (h : k < l.length) : (bv l)[k]? = some (.int .u8 ((l[k]?.getD 0).toNat : Int)) := by
 simp [bv, u8v, List.getElem?_map, List.getElem?_eq_getElem h]
theorem bv_one (l : List UInt8) : ∀ u ∈ bv l, u.oneCell' = true := by
 intro u hu
 simp only [bv, List.mem_map] at hu
 obtain ⟨c, _, rfl⟩ := hu
 rfl

/-! ### a slice that reads as a list of cells; all of them below block B -/
def Sl (w : World) (B : Nat) (A : Option Addr) (xs : List Value) : Prop :=
 xs = [] ∨ ∃ b o, A = some ⟨b, o, none⟩ ∧ b < B ∧ b < w.heap.size ∧ ∀ j u, xs[j]? = some u → w.cell? ⟨b, o + j, none⟩ = some u

section
variable {w w' : World} {B B' : Nat} {A : Option Addr} {xs : List Value}
theorem Sl.nil : Sl w B A [] := .inl rfl
theorem Sl.keep (h : Sl w B A xs) (hs : w.heap.size ≤ w'.heap.size) (hk : ∀ p : Addr, p.block < B → p.block < w.heap.size → w'.cell? p = w.cell? p) : Sl w' B A xs := by
 rcases h with h | ⟨b, o, e, hb, hb', hc⟩
 ·exact .inl h
 ·exact .inr ⟨b, o, e, hb, by omega, fun j u hu => (hk _ hb hb').trans (hc j u hu)⟩
theorem Sl.more (h : Sl w B A xs) (hB : B ≤ B') : Sl w B' A xs := by
 rcases h with h | ⟨b, o, e, hb, hb', hc⟩
 ·exact .inl h
 ·exact .inr ⟨b, o, e, by omega, hb', hc⟩
theorem Sl.below (h : Sl w B A xs) (hb : Below B w w') : Sl w' B A xs := h.keep hb.size fun _ hp _ => hb.cell hp
theorem Sl.below' (h : Sl w B A xs) (hb : Below w.heap.size w w') : Sl w' B A xs := h.keep hb.size fun _ _ hp => hb.cell hp
theorem Sl.drew (h : Sl w B A xs) : Sl w.drew B A xs := h
theorem Sl.drewN (h : Sl w B A xs) (n : Nat) : Sl (w.drewN n) B A xs := h
theorem Sl.alloc (h : Sl w B A xs) (o : Obj) : Sl (w.alloc o) B A xs := h.keep (by simp) fun p _ hp => World.cell?_alloc_lt w o p hp
theorem Sl.setCell (h : Sl w B A xs) {p : Addr} (hB : B ≤ p.block) (u : Value) : Sl (w.setCell p u) B A xs :=
 h.keep (by simp) fun q hq _ => World.cell?_setCell_other w p q u (fun e => by subst e; omega)
theorem Sl.grown (h : Sl w B A xs) {row : Option Nat} (hg : w.grownBy w' row) (hr : ∀ g, row = some g → B ≤ g) : Sl w' B A xs :=
 h.keep hg.size fun p hp hp' => World.cell?_of_block (hg.block p.block hp' (fun e => by have := hr _ e.symm; omega))
theorem Sl.at_ (h : Sl w B A xs) {k : Nat} (hk : k < xs.length) : ∃ b o, A = some ⟨b, o, none⟩ ∧ b < B ∧ b < w.heap.size ∧ ∀ j u, xs[j]? = some u → w.cell? ⟨b, o + j, none⟩ = some u := by
 rcases h with rfl | h
 ·simp at hk
 ·exact h
theorem Sl.tk (h : Sl w B A xs) (k : Nat) : Sl w B A (xs.take k) := by
 rcases h with h | ⟨b, o, e, hb, hb', hc⟩
 ·subst h; simp [Sl]
 ·refine .inr ⟨b, o, e, hb, hb', fun j u hu => hc j u ?_⟩
  rw [List.getElem?_take] at hu
  split at hu
  ·exact hu
  ·cases hu
theorem Sl.cut (h : Sl w B A xs) (k cap : Nat) (hc : xs.length ≤ cap) : Sl w B (if cap = k then A else A.map (·.add k)) (xs.drop k) := by
 by_cases hk : xs.length ≤ k
 ·exact .inl (List.drop_eq_nil_of_le hk)
 ·rw [if_neg (by omega)]
  rcases h with h | ⟨b, o, e, hb, hb', hcell⟩
  ·subst h; exact .inl (by simp)
  ·refine .inr ⟨b, o + k, ?_, hb, hb', fun j u hu => ?_⟩
   ·rw [e]; simp only [Option.map_some, Addr.add]
    split
    ·rename_i h0; subst h0; rfl
    ·rfl
   ·rw [List.getElem?_drop] at hu
    rw [Nat.add_assoc]
    exact hcell _ u hu
theorem Sl.new (w : World) (t : TypeId) (cs : Array Value) (fr : Nat × Nat) : Sl (w.alloc (.cells cs t fr)) (w.heap.size + 1) (some ⟨w.heap.size, 0, none⟩) cs.toList := by
 refine .inr ⟨_, _, rfl, by omega, by simp, fun j u hu => ?_⟩
 simp only [World.cell?, World.alloc, Nat.zero_add]
 rw [Array.getElem?_push_size]
 simpa using hu
end

theorem addr0 (g j : Nat) : (⟨g, 0, none⟩ : Addr).add j = ⟨g, j, none⟩ := by
 unfold Addr.add
 split
 ·rename_i h; subst h; rfl
 ·simp

/-! ### a row of bytes of the call's own -/
abbrev OwnB (w : World) (base : Nat) (v : Value) (l : List UInt8) : Prop := w.ownsRow base 5 1 v l.length (bv l)
theorem u8info : (Tryz.prog.info? 5).map (fun i => (i.zero, i.size, i.bytes)) = some (some (.int .u8 0), 1, 1) := by kernel_rfl
theorem OwnB.nil (w : World) (base : Nat) : OwnB w base (.slice none 0 0) [] := World.ownsRow_nil w base _ 1
theorem OwnB.form {w : World} {base : Nat} {v : Value} {l : List UInt8} (h : OwnB w base v l) : ∃ A c, v = .slice A l.length c ∧ l.length ≤ c ∧ c ≤ maxLen ∧ Sl w w.heap.size A (bv l) ∧ (A = none → l = []) ∧ (∀ a, A = some a → base ≤ a.block ∧ a.spot = none ∧ a.off = 0) := by
 rcases h.2 with ⟨rfl, hn⟩ | ⟨g, cap, cur, rfl, hb, hg, hn, hm, hcs, ht⟩
 ·refine ⟨none, 0, by rw [hn], by omega, by simp [maxLen], ?_, fun _ => List.eq_nil_of_length_eq_zero hn, (fun a h => (by cases h))⟩
  exact .inl (by simp [List.eq_nil_of_length_eq_zero hn])
 ·have hlt : g < w.heap.size := (Array.getElem?_eq_some_iff.1 hg).1
  refine ⟨_, cap, rfl, hn, hm, .inr ⟨g, 0, rfl, hlt, hlt, fun j u hu => ?_⟩, (fun h => (by cases h)), (fun a h => by cases h; exact ⟨hb, rfl, rfl⟩)⟩
  have := h.cells (g := g) rfl j u hu
  rw [addr0] at this
  simpa using this
theorem OwnB.base_le {w : World} {base base' : Nat} {v : Value} {l : List UInt8} (h : OwnB w base v l) (hb : base' ≤ base) : OwnB w base' v l := by
 refine ⟨h.1, ?_⟩
 rcases h.2 with h | ⟨g, cap, cur, e, hb', r⟩
 ·exact .inl h
 ·exact .inr ⟨g, cap, cur, e, by omega, r⟩
theorem OwnB.below {w w' : World} {base : Nat} {v : Value} {l : List UInt8} (h : OwnB w base v l) (hb : Below w.heap.size w w') : OwnB w' base v l :=
 h.kept (row := none) ⟨hb.os, hb.tape, hb.output, hb.size, fun k hk _ => hb.block k hk⟩ (by cases hv : v.ownBlock <;> simp)

/-- where a row lies now: where it lay, or in a new block. -/
def Went (w : World) (v v' : Value) : Prop := v'.ownBlock = v.ownBlock ∨ ∃ g, v'.ownBlock = some g ∧ w.heap.size ≤ g
theorem Went.refl (w : World) (v : Value) : Went w v v := .inl rfl
theorem grown_step {a b c : World} {row row' : Option Nat} (h : a.grownBy b row) (k : b.grownBy c row') (hr : row' = row ∨ ∀ g, row' = some g → a.heap.size ≤ g) : a.grownBy c row := by
 refine ⟨k.os.trans h.os, k.tape.trans h.tape, k.output.trans h.output, Nat.le_trans h.size k.size, fun i hi hne => ?_⟩
 refine (k.block i (Nat.lt_of_lt_of_le hi h.size) ?_).trans (h.block i hi hne)
 rcases hr with rfl | hr
 ·exact hne
 ·intro e; have := hr i e.symm; omega
theorem Went.row {w : World} {v v' : Value} (h : Went w v v') : v'.ownBlock = v.ownBlock ∨ ∀ g, v'.ownBlock = some g → w.heap.size ≤ g := by
 rcases h with h | ⟨g, h, hg⟩
 ·exact .inl h
 ·exact .inr fun g' e => by rw [h] at e; cases e; exact hg
theorem Went.step {w b : World} {v v' v'' : Value} {n : Nat} (h : Went w v v') (hs : w.heap.size ≤ b.heap.size) (hn : b.heap.size ≤ n) (k : v''.ownBlock = v'.ownBlock ∨ v''.ownBlock = some n) : Went w v v'' := by
 rcases k with k | k
 ·rcases h with h | ⟨g, h, hg⟩
  ·exact .inl (k.trans h)
  ·exact .inr ⟨g, k.trans h, hg⟩
 ·exact .inr ⟨_, k, by omega⟩
/-- Nothing that was there has turned, where the row was new. -/
theorem below_of_grown {w w' : World} {B : Nat} {row : Option Nat} (h : w.grownBy w' row) (hr : ∀ g, row = some g → B ≤ g) (hB : B ≤ w.heap.size) : Below B w w' :=
 ⟨h.os, h.tape, h.output, h.size, fun k hk => h.block k (by omega) (fun e => by have := hr k e.symm; omega)⟩

theorem balloc {w a : World} (h : Below w.heap.size w a) (o : Obj) : Below w.heap.size w (a.alloc o) := h.alloc h.size o

/-- append: whatever bytes behind a row of the call's own. -/
theorem run_app (w : World) (ty : TypeId) {base : Nat} {v : Value} {l : List UInt8} (hown : OwnB w base v l) {B : Nat} {A : Option Addr} {m c : Nat} {k : List UInt8} (hr : Sl w B A (bv k)) (hm : m = k.length)
    (hbytes : l.length + k.length ≤ 140737488355328) (hbase : base ≤ w.heap.size) :
    ∃ v' w', (Builtin.append_ #[41, 41] ty #[v, .slice A m c]).run Tryz.prog w = .ok v' w' ∧ OwnB w' base v' (l ++ k) ∧ w.grownBy w' v.ownBlock ∧ (v'.ownBlock = v.ownBlock ∨ v'.ownBlock = some w.heap.size) := by
  subst hm
  obtain ⟨i, hi, hz, hz1, hz2⟩ := info_parts u8info
  have key : ∀ (ad : Addr), (∀ j u, (bv k)[j]? = some u → w.cell? (ad.add j) = some u) →
      ∃ v' w', (Builtin.append_ #[41, 41] ty #[v, .slice (some ad) k.length c]).run Tryz.prog w = .ok v' w' ∧ OwnB w' base v' (l ++ k) ∧ w.grownBy w' v.ownBlock ∧ (v'.ownBlock = v.ownBlock ∨ v'.ownBlock = some w.heap.size) := by
    intro ad hc
    obtain ⟨v', w', hrun, h2, h3, _, h5⟩ := run_append_own_at (P := Tryz.prog) w base 41 ty 5 i (.int .u8 0) 1 1 Tryz.underlying41 hi hz hz1 hz2 rfl (by omega) v l.length (bv l) hown ad k.length c (bv k)
      (by simp) hc (bv_one k) (by simp only [maxLen]; omega) (by omega) hbase
    exact ⟨v', w', hrun, by simpa [OwnB] using h2, h3, h5⟩
  rcases A with _ | ad
  · have hk : k = [] := by
      rcases hr with h | ⟨b, o, e, _⟩
      · simpa [bv] using h
      · cases e
    subst hk
    refine ⟨v, w, ?_, by simpa using hown, World.grownBy.refl w _, .inl rfl⟩
    rcases hown.2 with ⟨rfl, h0⟩ | ⟨g, cap, cur, rfl, _, _, hnc, _⟩
    · simp [Builtin.append_, run_underlying Tryz.underlying41, sizeOf, typeInfo, hi, Builtin.lenOf, Builtin.firstCells]
    · simp [Builtin.append_, run_underlying Tryz.underlying41, sizeOf, typeInfo, hi, Builtin.lenOf, Builtin.firstCells, hnc, storeCells]
  · refine key ad fun j u hu => ?_
    rcases hr with h | ⟨b, o, e, _, _, hc⟩
    · rw [h] at hu; cases hu
    · cases e
      have := hc j u hu
      simp only [Addr.add]
      split
      · rename_i h0; subst h0; simpa using this
      · exact this

section
variable {ops : Array Oper} {rest : List Oper} {o : Oper} {a : Act} {Q : Exit → Act → World → Prop} {w : World} {s x : Operand}
theorem wp_app {K : Act → World → Prop} (ho : o.op = .call { callee := .builtin .append, args := #[s, x], argTypes := #[41, 41] })
  {base : Nat} {v : Value} {l : List UInt8} (hown : OwnB w base v l) {B : Nat} {A : Option Addr} {m c : Nat} {k : List UInt8} (hr : Sl w B A (bv k)) (hm : m = k.length)
  (hs : a.eval s = v) (hx : a.eval x = .slice A m c) (hbytes : l.length + k.length ≤ 140737488355328) (hbase : base ≤ w.heap.size)
  (h : ∀ v' w', OwnB w' base v' (l ++ k) → w.grownBy w' v.ownBlock → (v'.ownBlock = v.ownBlock ∨ v'.ownBlock = some w.heap.size) → K (a.put o.dst v') w') : o.wp Tryz.prog a w K Q := by
 obtain ⟨v', w', hrun, h2, h3, h4⟩ := run_app w o.type hown hr (c := c) hm hbytes hbase
 unfold Oper.wp execOp
 simp only [ho, resolve, invoke, builtin, Sem.run_bind, Sem.run_pure, Result.andThen_ok, List.map_toArray, List.map_cons, List.map_nil, hs, hx, hrun]
 exact h v' w' h2 h3 h4
/-- append of a slice. -/
theorem app (hgd : o.guard = none) (ho : o.op = .call { callee := .builtin .append, args := #[s, x], argTypes := #[41, 41] })
  {base : Nat} {v : Value} {l : List UInt8} (hown : OwnB w base v l) {B : Nat} {A : Option Addr} {m c : Nat} {k : List UInt8} (hr : Sl w B A (bv k)) (hm : m = k.length)
  (hs : a.eval s = v) (hx : a.eval x = .slice A m c) (hbytes : l.length + k.length ≤ 140737488355328) (hbase : base ≤ w.heap.size)
  (h : ∀ v' w', OwnB w' base v' (l ++ k) → w.grownBy w' v.ownBlock → (v'.ownBlock = v.ownBlock ∨ v'.ownBlock = some w.heap.size) → wpList Tryz.prog ops Q rest (a.put o.dst v') w') : wpList Tryz.prog ops Q (o :: rest) a w :=
 wpList_plain hgd fun _ hK => wp_app ho hown hr hm hs hx hbytes hbase fun v' w' h2 h3 h4 => hK _ _ (h v' w' h2 h3 h4)
/-- append of bytes that are written out: they have just been laid. -/
theorem appN {xs : List Value} (hgd : o.guard = none) (ho : o.op = .call { callee := .builtin .append, args := #[s, x], argTypes := #[41, 41] })
  {base : Nat} {v : Value} {l : List UInt8} (hown : OwnB w base v l) {m c : Nat} {k : List UInt8} (hxs : xs = bv k) (hm : m = k.length)
  (hs : a.eval s = v) (hx : a.eval x = .slice (some ⟨w.heap.size, 0, none⟩) m c) (hbytes : l.length + k.length ≤ 140737488355328) (hbase : base ≤ w.heap.size)
  (h : ∀ v' w', OwnB w' base v' (l ++ k) → w.grownBy w' v.ownBlock → (v'.ownBlock = v.ownBlock ∨ v'.ownBlock = some (w.heap.size + 1)) → wpList Tryz.prog ops Q rest (a.put o.dst v') w') : wpList Tryz.prog ops Q (o :: rest) a (w.alloc (.cells xs.toArray 5)) := by
 subst hxs
 refine app hgd ho (hown.alloc _) (B := w.heap.size + 1) (A := some ⟨w.heap.size, 0, none⟩) (k := k) ?_ hm hs hx hbytes (by simp; omega) fun v' w' h2 h3 h4 => ?_
 ·have := Sl.new w 5 (bv k).toArray (0, 0)
  simpa using this
 ·refine h v' w' h2 ?_ (by simpa using h4)
  exact (World.grownBy_alloc w _ _).trans h3
/-- make([]byte, 0, c) -/
theorem mkB {lo co : Operand} (hgd : o.guard = none) (ho : o.op = Op.makeSlice 41 lo co) {kl kc : IntKind} {C : Int} {n : Nat} (hl : a.eval lo = .int kl 0) (hc : a.eval co = .int kc C) (hC : C = (n : Int)) (h1 : n ≤ 281474976710656)
  (h : ∀ w', OwnB w' w.heap.size (.slice (some ⟨w.heap.size, 0, none⟩) 0 n) [] → w.grownBy w' none → wpList Tryz.prog ops Q rest (a.put o.dst (.slice (some ⟨w.heap.size, 0, none⟩) 0 n)) w') : wpList Tryz.prog ops Q (o :: rest) a w := by
 obtain ⟨i, hi, hz, hz1, hz2⟩ := info_parts u8info
 exact wpList_make_own w hgd lo co _ ho w.heap.size 5 i (.int .u8 0) 1 Tryz.underlying41 hi hz hz1 kl kc C n hl hc hC (by rw [hz2]; omega) (by simp only [maxLen]; omega) (Nat.le_refl _) fun w' h1 h2 => h w' h1 h2
/-- make([]byte, n) -/
theorem mkZ {lo co : Operand} (hgd : o.guard = none) (ho : o.op = Op.makeSlice 41 lo co) {kl kc : IntKind} {L C : Int} {n : Nat} (hl : a.eval lo = .int kl L) (hc : a.eval co = .int kc C) (hL : L = (n : Int)) (hC : C = (n : Int)) (h1 : n ≤ 281474976710656)
  (h : ∀ w', OwnB w' w.heap.size (.slice (some ⟨w.heap.size, 0, none⟩) n n) (List.replicate n 0) → w.grownBy w' none → wpList Tryz.prog ops Q rest (a.put o.dst (.slice (some ⟨w.heap.size, 0, none⟩) n n)) w') : wpList Tryz.prog ops Q (o :: rest) a w := by
 obtain ⟨i, hi, hz, hz1, hz2⟩ := info_parts u8info
 refine wpList_make_full w hgd lo co _ ho w.heap.size 5 i (.int .u8 0) 1 Tryz.underlying41 hi hz hz1 kl kc L C n hl hc hL hC (by rw [hz2]; omega) (by simp only [maxLen]; omega) (Nat.le_refl _) fun w' h1 h2 => h w' ?_ h2
 have e : (madeCells (Value.int .u8 0).cells (n * 1)).toList = bv (List.replicate n 0) := by
  show (madeCells #[Value.int .u8 0] (n * 1)).toList = _
  rw [toList_madeCells_one, Nat.mul_one]
  simp [bv, u8v]
 rw [e] at h1
 simpa [OwnB] using h1
end

theorem bv_set (l : List UInt8) (i n : Nat) (h : n < 256) : (bv l).set i (.int .u8 (n : Int)) = bv (l.set i (UInt8.ofNat n)) := by
 simp only [bv, List.map_set]
 congr 1
 simp only [u8v, UInt8.toNat_ofNat']
 congr 2
 omega
/-- bytes that are written out are a row of the call's own -/
theorem OwnB.lit (w : World) (base : Nat) (l : List UInt8) (hb : base ≤ w.heap.size) (hm : l.length ≤ maxLen) : OwnB (w.alloc (.cells (bv l).toArray 5)) base (.slice (some ⟨w.heap.size, 0, none⟩) l.length l.length) l := by
 have := World.ownsRow_lit (base := base) (e := 5) (size := 1) w (bv l).toArray l.length hb hm (by simp)
 simpa [OwnB] using this
theorem two_bv (a b : Nat) (ha : a < 256) (hb : b < 256) : [Value.int .u8 (a : Int), Value.int .u8 (b : Int)] = bv [UInt8.ofNat a, UInt8.ofNat b] := by
 simp only [bv, List.map, u8v, UInt8.toNat_ofNat', Nat.mod_eq_of_lt (show a < 2 ^ 8 by omega), Nat.mod_eq_of_lt (show b < 2 ^ 8 by omega)]
theorem one_bv (a : Nat) (ha : a < 256) : [Value.int .u8 (a : Int)] = bv [UInt8.ofNat a] := by
 simp only [bv, List.map, u8v, UInt8.toNat_ofNat', Nat.mod_eq_of_lt (show a < 2 ^ 8 by omega)]
/-- a store into a row of the call's own -/
theorem OwnB.store {w : World} {base g n cap : Nat} {l : List UInt8} (h : OwnB w base (.slice (some ⟨g, 0, none⟩) n cap) l) (i b : Nat) (hi : i < l.length) (hb : b < 256) :
  w.cell? ⟨g, i, none⟩ = some (.int .u8 ((l[i]?.getD 0).toNat : Int)) ∧ w.frozen? ⟨g, i, none⟩ = false ∧
  OwnB (w.setCell ⟨g, i, none⟩ (.int .u8 (b : Int))) base (.slice (some ⟨g, 0, none⟩) n cap) (l.set i (UInt8.ofNat b)) ∧ w.grownBy (w.setCell ⟨g, i, none⟩ (.int .u8 (b : Int))) (some g) := by
 have hn : n = l.length := by
  rcases h.2 with ⟨h', _⟩ | ⟨_, _, _, h', _⟩
  ·simp at h'
  ·simp only [Value.slice.injEq] at h'; exact h'.2.1
 subst hn
 refine ⟨(h.cellAt i (by omega)).trans (bv_get l i hi), h.frozenAt i, ?_⟩
 have := h.stored i (.int .u8 (b : Int))
 rw [bv_set l i b hb] at this
 refine ⟨?_, this.2⟩
 have h1 := this.1
 simp only [OwnB, List.length_set]
 exact h1
theorem OwnB.head {w : World} {base : Nat} {v : Value} {l : List UInt8} (h : OwnB w base v l) (hn : 0 < l.length) : ∃ g cap, v = .slice (some ⟨g, 0, none⟩) l.length cap ∧ base ≤ g ∧ g < w.heap.size ∧ l.length ≤ cap ∧ cap ≤ maxLen := by
 rcases h.2 with ⟨_, h0⟩ | ⟨g, cap, cur, rfl, hb, hg, h1, h2, _⟩
 ·omega
 ·exact ⟨g, cap, rfl, hb, (Array.getElem?_eq_some_iff.1 hg).1, h1, h2⟩
/-- a slice value that reads as these bytes -/
def SlcIs (w : World) (x : Value) (l : List UInt8) : Prop := ∃ A c, x = .slice A l.length c ∧ Sl w w.heap.size A (bv l) ∧ l.length ≤ c ∧ c ≤ maxLen
theorem SlcIs.below {w w' : World} {x : Value} {l : List UInt8} (h : SlcIs w x l) (hb : Below w.heap.size w w') : SlcIs w' x l := by
 obtain ⟨A, c, rfl, h1, h2, h3⟩ := h
 exact ⟨A, c, rfl, (h1.below hb).more hb.size, h2, h3⟩
/-- bytes that have just been laid -/
theorem Sl.lit (w : World) (l : List UInt8) : Sl (w.alloc (.cells (bv l).toArray 5)) (w.heap.size + 1) (some ⟨w.heap.size, 0, none⟩) (bv l) := by
 have := Sl.new w 5 (bv l).toArray (0, 0)
 simpa using this
def str (l : List UInt8) : Value := .string ⟨l.toArray⟩
/-- string(b) -/
theorem conv {w : World} {B : Nat} {A : Option Addr} {l : List UInt8} (h : Sl w B A (bv l)) (n c : Nat) (hn : n = l.length) : (convert 41 9 (.slice A n c)).run Tryz.prog w = .ok (.string ⟨l.toArray⟩) w := by
 subst hn
 rcases h with h | ⟨b, o, e, _, _, hc⟩
 ·have hl : l = [] := by simpa [bv] using h
  subst hl
  rcases A with _ | ad
  ·exact run_convert_bytes_nil w _ 5 Tryz.underlying41 Tryz.underlying5 _ _ _ Tryz.underlying9
  ·exact run_convert_bytes_back w _ _ 5 ad c [] Tryz.underlying41 Tryz.underlying5 Tryz.underlying9 (fun j hj => by simp at hj)
 ·subst e
  refine run_convert_bytes_back w _ _ 5 ⟨b, o, none⟩ c l Tryz.underlying41 Tryz.underlying5 Tryz.underlying9 (fun j hj => ?_)
  have h1 : (⟨b, o, none⟩ : Addr).add j = ⟨b, o + j, none⟩ := by
   unfold Addr.add
   split
   ·rename_i h0; subst h0; rfl
   ·rfl
  rw [h1]
  refine hc j _ ?_
  simp [bv, u8v, List.getElem?_eq_getElem hj]
def uv (l : List Nat) : List Value := l.map (fun (x : Nat) => Value.int .u64 (x : Int))
@[simp] theorem uv_len (l : List Nat) : (uv l).length = l.length := by simp [uv]
theorem uv_get (l : List Nat) (k : Nat) (h : k < l.length) : (uv l)[k]? = some (.int .u64 ((l[k]?.getD 0 : Nat) : Int)) := by
 simp [uv, List.getElem?_map, List.getElem?_eq_getElem h]

/-- A fresh slice of bytes: what a function hands back. -/
def Fresh (w : World) (l : List UInt8) (e : Ending) (w' : World) : Prop :=
 ∃ A c, e = .returned (.slice A l.length c) ∧ OwnB w' w.heap.size (.slice A l.length c) l ∧ Below w.heap.size w w'
theorem Fresh.sl {w w' : World} {l : List UInt8} {A : Option Addr} {c : Nat} (h : OwnB w' w.heap.size (.slice A l.length c) l) : Sl w' w'.heap.size A (bv l) ∧ l.length ≤ c ∧ c ≤ maxLen := by
 obtain ⟨A', c', e, h1, h2, h3, _⟩ := h.form
 injection e with e1 e2 e3
 subst e1 e3
 exact ⟨h3, h1, h2⟩

theorem OwnB.sl {w' : World} {base : Nat} {l : List UInt8} {A : Option Addr} {c : Nat} (h : OwnB w' base (.slice A l.length c) l) : Sl w' w'.heap.size A (bv l) ∧ l.length ≤ c ∧ c ≤ maxLen := by
 obtain ⟨A', c', e, h1, h2, h3, _⟩ := h.form
 injection e with e1 e2 e3
 subst e1 e3
 exact ⟨h3, h1, h2⟩
theorem own_below {w wr w1 : World} {x : Value} {B : Nat} {l : List UInt8} (hb : Below B w wr) (hB : B ≤ wr.heap.size) (hown : OwnB wr B x l) (hg : wr.grownBy w1 x.ownBlock) : Below B w w1 :=
 hb.trans (below_of_grown hg (fun g e => (hown.lt g e).1) hB)

theorem Sl.lit64 (w : World) (l : List Nat) : Sl (w.alloc (.cells (uv l).toArray 45)) (w.heap.size + 1) (some ⟨w.heap.size, 0, none⟩) (uv l) := by
  have := Sl.new w 45 (uv l).toArray (0, 0)
  simpa using this
end Go.Proofs.YtaflikgdlkaefaaGreat
/- A region that draws its order, where nothing that is there is written: what only reads is taken as soon as it may come up; calls and new blocks come one behind another. -/
namespace Go.Proofs.YtaflikgdlkaefaaGreat
open Go.RowKit

/-- All that was there stands. -/
def KB (h : Array Obj) (W : World) : Prop := h.size ≤ W.heap.size ∧ ∀ k, k < h.size → W.heap[k]? = h[k]?
theorem KB.refl (w : World) : KB w.heap w := ⟨Nat.le_refl _, fun _ _ => rfl⟩
theorem KB.of {w W : World} (h : Below w.heap.size w W) : KB w.heap W := ⟨h.size, h.block⟩
theorem KB.trans {h : Array Obj} {w W : World} (a : KB h w) (b : KB w.heap W) : KB h W := ⟨Nat.le_trans a.1 b.1, fun k hk => (b.2 k (Nat.lt_of_lt_of_le hk a.1)).trans (a.2 k hk)⟩
theorem KB.alloc (w : World) (o : Obj) : KB w.heap (w.alloc o) := ⟨by simp, fun k hk => Below.heap_alloc w o k hk⟩
theorem KB.cell {w W : World} (h : KB w.heap W) {p : Addr} (hp : p.block < w.heap.size) : W.cell? p = w.cell? p := World.cell?_of_block (w := w) (h.2 p.block hp)
theorem Sl.kb {w W : World} {B : Nat} {A : Option Addr} {xs : List Value} (h : Sl w B A xs) (k : KB w.heap W) : Sl W B A xs := h.keep k.1 fun _ _ hp => k.cell hp
theorem cellB {w : World} {p : Addr} {v : Value} (h : w.cell? p = some v) : ∀ W, KB w.heap W → W.cell? p = some v := fun W hW => (hW.cell (World.block_lt_of_cell? w p h)).trans h
theorem convB {w : World} {B : Nat} {A : Option Addr} {l : List UInt8} (h : Sl w B A (bv l)) (n c : Nat) (hn : n = l.length) :
  ∀ W, KB w.heap W → (convert 41 9 (.slice A n c)).run Tryz.prog W = .ok (.string ⟨l.toArray⟩) W := fun W hW => conv (h.kb hW) n c hn

def wpB (P : Program) (ops : Array Oper) (Q : Exit → Act → World → Prop) (h : Array Obj) (fuel : Nat) (listed : Array Bool) (a : Act) (w : World) : Prop := wpAnyH P .any ops Q (KB h) fuel listed a w
section
variable {P : Program} {ops : Array Oper} {Q : Exit → Act → World → Prop}
theorem wpAnyH_mono {md : Region.Mode} {S S' : World → Prop} (hs : ∀ w, S' w → S w) : ∀ (fuel : Nat) (listed : Array Bool) (a : Act) (w : World), wpAnyH P md ops Q S' fuel listed a w → wpAnyH P md ops Q S fuel listed a w
 | 0, _, _, _, h => h
 | fuel + 1, _, _, _, h => ⟨h.1, fun i hi => wpOp_mono (fun a' w' h' => ⟨hs _ h'.1, wpAnyH_mono hs fuel _ a' w' h'.2⟩) (h.2 i hi)⟩
theorem bstart {id : Nat} {a : Act} {w : World} (hm : P.follows .mixedOrders = true) (h : wpB P ops Q w.heap ops.size (Array.replicate ops.size false) a w.drew) : (Code.region id ops true).wp P Q a w := wp_region_held hm h
/-- The closed facts of a take, in one. -/
def okTake (ops : Array Oper) (listed : Array Bool) (i : Nat) : Bool := Region.noSelect ops && Region.free .any ops listed i && (Region.ready .any ops listed).contains i
theorem btake (i : Nat) {oi : Oper} {v : Value} {h : Array Obj} {fuel : Nat} {listed : Array Bool} {a : Act} {w : World} (hi : ops[i]? = some oi) (hok : okTake ops listed i = true)
  (hQ : ∀ c a w, Q (.panic c) (a.put oi.dst v) w → Q (.panic c) a w) (hS : KB h w)
  (hy : (Region.wanted oi (yielded ops a.tmps) = true ∧ ∀ W, KB h W → (execOp a.eval oi).run P W = .ok (.value v) W) ∨ (Region.wanted oi (yielded ops a.tmps) = false ∧ v = undef))
  (hr : wpB P ops Q h fuel (listed.setIfInBounds i true) (a.put oi.dst v) w) : wpB P ops Q h (fuel + 1) listed a w := by
 simp only [okTake, Bool.and_eq_true] at hok
 exact wpAnyH_take hi hok.1.1 hok.1.2 hok.2 hQ hy hS hr
def okOp (ops : Array Oper) (listed : Array Bool) (i : Nat) : Bool := Region.ready .any ops listed == [i]
theorem bop (i : Nat) {o : Oper} {h : Array Obj} {fuel : Nat} {listed : Array Bool} {a : Act} {w : World} (hi : ops[i]? = some o) (hok : okOp ops listed i = true) (hS : KB h w)
  (hw : Region.wanted o (yielded ops a.tmps) = true)
  (hr : ∀ K : Act → World → Prop, Shut (∀ a' w', KB w.heap w' → wpB P ops Q w'.heap fuel (listed.setIfInBounds i true) a' w' → K a' w') → o.wp P a w K Q) : wpB P ops Q h (fuel + 1) listed a w := by
 have hok' : Region.ready .any ops listed = [i] := by simpa [okOp] using hok
 refine wpAnyH_all hok' (by simp) fun j hj => ?_
 obtain rfl : j = i := by simpa using hj
 unfold wpOp
 simp only [hi, hw, if_true]
 exact .inl (hr _ (fun a' w' hk hb => ⟨hS.trans hk, wpAnyH_mono (fun W hW => (hS.trans hk).trans hW) _ _ _ _ hb⟩))
/-- The same two, for a region that turns memory: what is held is some other heap (what stands below a block). -/
theorem bstartH (h : Array Obj) {id : Nat} {a : Act} {w : World} (hm : P.follows .mixedOrders = true) (hh : wpB P ops Q h ops.size (Array.replicate ops.size false) a w.drew) : (Code.region id ops true).wp P Q a w := wp_region_held hm hh
theorem bopH (i : Nat) {o : Oper} {h : Array Obj} {fuel : Nat} {listed : Array Bool} {a : Act} {w : World} (hi : ops[i]? = some o) (hok : okOp ops listed i = true) (hS : KB h w)
  (hw : Region.wanted o (yielded ops a.tmps) = true)
  (hr : ∀ K : Act → World → Prop, Shut (∀ a' w', KB h w' → wpB P ops Q h fuel (listed.setIfInBounds i true) a' w' → K a' w') → o.wp P a w K Q) : wpB P ops Q h (fuel + 1) listed a w := by
 have hok' : Region.ready .any ops listed = [i] := by simpa [okOp] using hok
 refine wpAnyH_all hok' (by simp) fun j hj => ?_
 obtain rfl : j = i := by simpa using hj
 unfold wpOp
 simp only [hi, hw, if_true]
 exact .inl (hr _ (fun a' w' hk hb => ⟨hk, hb⟩))
theorem bdone {h : Array Obj} {fuel : Nat} {listed : Array Bool} {a : Act} {w : World} (hr : Region.ready .any ops listed = []) (hq : Q .normal a w) : wpB P ops Q h fuel listed a w := wpAnyH_done hr hq fuel
/-! a call that leaves the world as it is may be taken as soon as it may come up -/
def QuietIf (P : Program) (ops : Array Oper) (S : World → Prop) (o : Oper) (v : Value) (a : Act) : Prop :=
 Region.wanted o (yielded ops a.tmps) = true ∧ ∃ f args, ∀ w, S w → (execOp a.eval o).run P w = .ok (.enter f args) w ∧ Calls P f args w (fun e w' => e = .returned v ∧ w = w')
end
end Go.Proofs.YtaflikgdlkaefaaGreat
/- A region that draws its order, with operations that make memory or call in whatever order: each is shown to yield what its own predicate says, once what it waits for does. -/
namespace Go.Proofs.YtaflikgdlkaefaaGreat
open Go.RowKit

/-- what one operation of a region yields -/
structure Yld where
 j : Nat
 d : Option Tmp
 pr : Value → World → Prop
 st : ∀ (v : Value) (w w' : World), pr v w → KB w.heap w' → pr v w'
def Yld.eq (j : Nat) (d : Option Tmp) (x : Value) : Yld := ⟨j, d, fun v _ => v = x, fun _ _ _ h _ => h⟩
def puts (L : List Yld) (vs : Nat → Value) (a : Act) : Act := L.foldl (fun a s => a.put s.d (vs s.j)) a
def waits (ops : Array Oper) (j : Nat) : List Nat := ((ops[j]?.map (·.after.toList)).getD []).filterMap fun e => if Region.binds .any e = true then some e.on else none
def parOk (ops : Array Oper) (L : List Yld) : Bool :=
 L.all (fun s => (ops[s.j]?.map (·.dst)) == some s.d) && (List.range ops.size).all (fun j => (waits ops j).all (· < j))
def upd (vs : Nat → Value) (j : Nat) (v : Value) : Nat → Value := fun i => if i = j then v else vs i
/-- the destinations differ, the places too -/
def parNodup : List Yld → Prop
 | [] => True
 | s :: L => (∀ t ∈ L, t.j ≠ s.j ∧ ∀ x, s.d = some x → t.d ≠ some x) ∧ parNodup L
def parNodupB : List Yld → Bool
 | [] => true
 | s :: L => L.all (fun t => t.j != s.j && (s.d == none || t.d != s.d)) && parNodupB L
section
variable {P : Program} {ops : Array Oper} {Q : Exit → Act → World → Prop}
end
section
variable {P : Program} {ops : Array Oper} {Q : Exit → Act → World → Prop}
/-- Two operations may come up now: both ways. -/
theorem bopH2 (i j : Nat) {oi oj : Oper} {h : Array Obj} {fuel : Nat} {listed : Array Bool} {a : Act} {w : World} (hi : ops[i]? = some oi) (hj : ops[j]? = some oj) (hok : (Region.ready .any ops listed == [i, j]) = true) (hS : KB h w)
  (hwi : Region.wanted oi (yielded ops a.tmps) = true) (hwj : Region.wanted oj (yielded ops a.tmps) = true)
  (hri : ∀ K : Act → World → Prop, Shut (∀ a' w', KB h w' → wpB P ops Q h fuel (listed.setIfInBounds i true) a' w' → K a' w') → oi.wp P a w K Q)
  (hrj : ∀ K : Act → World → Prop, Shut (∀ a' w', KB h w' → wpB P ops Q h fuel (listed.setIfInBounds j true) a' w' → K a' w') → oj.wp P a w K Q) : wpB P ops Q h (fuel + 1) listed a w := by
 have hok' : Region.ready .any ops listed = [i, j] := by simpa using hok
 refine wpAnyH_all hok' (by simp) fun k hk => ?_
 rcases List.mem_cons.1 hk with rfl | hk
 ·unfold wpOp
  simp only [hi, hwi, if_true]
  exact .inl (hri _ (fun a' w' hk hb => ⟨hk, hb⟩))
 ·obtain rfl : k = j := by simpa using hk
  unfold wpOp
  simp only [hj, hwj, if_true]
  exact .inl (hrj _ (fun a' w' hk hb => ⟨hk, hb⟩))
end
/-! operations under a guard that says yes -/
theorem Sl.two (w : World) (a b : Nat) (ha : a < 256) (hb : b < 256) : Sl (w.alloc (.cells #[.int .u8 (a : Int), .int .u8 (b : Int)] 5)) (w.heap.size + 1) (some ⟨w.heap.size, 0, none⟩) (bv [UInt8.ofNat a, UInt8.ofNat b]) := by
 have := Sl.new w 5 #[.int .u8 (a : Int), .int .u8 (b : Int)] (0, 0)
 rw [← two_bv a b ha hb]
 simpa using this
end Go.Proofs.YtaflikgdlkaefaaGreat
/- What structs of two cells share. -/
namespace Go.Proofs.YtaflikgdlkaefaaGreat
open Go.RowKit
set_option maxRecDepth 20000

def i64in (a : Int) : Prop := -9223372036854775808 ≤ a ∧ a ≤ 9223372036854775807
theorem ret_b {a b : Bool} (h : a = b) : Ending.returned (.bool a) = .returned (.bool b) := by rw [h]
theorem ret_i {k : IntKind} {a b : Int} (h : a = b) : Ending.returned (.int k a) = .returned (.int k b) := by rw [h]
theorem cell2 (w : World) (t : TypeId) (a b : Value) : (w.alloc (.cells #[a, b] t)).cell? ⟨w.heap.size, 0, none⟩ = some a ∧ (w.alloc (.cells #[a, b] t)).cell? ⟨w.heap.size, 1, none⟩ = some b := by
 obtain ⟨b', o, e, _, _, h⟩ := (Sl.new w t #[a, b] (0, 0)).at_ (k := 0) (by simp)
 cases e
 exact ⟨h 0 a rfl, h 1 b rfl⟩
theorem setCell_other (w : World) (g g' o o' : Nat) (v : Value) (h : g ≠ g' ∨ o ≠ o') : (w.setCell ⟨g, o, none⟩ v).cell? ⟨g', o', none⟩ = w.cell? ⟨g', o', none⟩ := World.cell?_setCell_other _ _ _ _ (by
 intro e
 injection e with e1 e2
 rcases h with h | h
 ·exact h e1
 ·exact h e2)
theorem setCell_frozen (w : World) (g o : Nat) (v : Value) (x : Addr) : (w.setCell ⟨g, o, none⟩ v).frozen? x = w.frozen? x := by
 exact World.frozen?_setCells g [v] o w x
end Go.Proofs.YtaflikgdlkaefaaGreat
namespace Go.Proofs.YtaflikgdlkaefaaGreat.Pl

/-- The bytes of a number: seven bits a byte, the lowest first; each byte but the last bears the bit 128. -/
def encF : Nat → Nat → List UInt8
 | 0, v => [UInt8.ofNat v]
 | k + 1, v => if v < 128 then [UInt8.ofNat v] else UInt8.ofNat (v % 128 + 128) :: encF k (v / 128)
def enc (v : Nat) : List UInt8 := encF 9 v

/-- How many bytes ahead bear the bit 128. -/
def run : List UInt8 → Nat
 | [] => 0
 | c :: t => if 128 ≤ c.toNat then run t + 1 else 0
/-- The number of the lowest seven bits of each byte. -/
def val : List UInt8 → Nat
 | [] => 0
 | c :: t => c.toNat % 128 + 128 * val t
/-- What a byte is at a place, 0 beyond the end. -/
def at_ (l : List UInt8) (i : Nat) : Nat := (l[i]?.getD 0).toNat
/-- The number at the beginning, how many bytes it has, the error. -/
def takeS (l : List UInt8) : Nat × Nat × Nat :=
 if 10 ≤ run l then (0, 0, 21)
 else if run l = l.length then (0, 0, 20)
 else if (0 < run l ∧ at_ l (run l) = 0) ∨ (run l = 9 ∧ 1 < at_ l (run l)) then (0, 0, 21)
 else (val (l.take (run l + 1)), run l + 1, 0)

theorem takeS_at (l : List UInt8) (k : Nat) (hk : run l = k) : takeS l =
  if 10 ≤ k then (0, 0, 21) else if k = l.length then (0, 0, 20)
  else if (0 < k ∧ at_ l k = 0) ∨ (k = 9 ∧ 1 < at_ l k) then (0, 0, 21) else (val (l.take (k + 1)), k + 1, 0) := by subst hk; rfl

theorem toNat_ofNat {n : Nat} (h : n < 256) : (UInt8.ofNat n).toNat = n := by
 rw [UInt8.toNat_ofNat']; omega

theorem encF_len_pos (k v : Nat) : 1 ≤ (encF k v).length := by
 cases k with
 | zero => simp [encF]
 | succ k => simp only [encF]; split <;> simp
theorem encF_len_le : ∀ (k v : Nat), (encF k v).length ≤ k + 1
 | 0, v => by simp [encF]
 | k + 1, v => by
  simp only [encF]; split
  ·simp
  ·have := encF_len_le k (v / 128); simp only [List.length_cons]; omega
theorem div_lt_pow {k v : Nat} (h : v < 128 ^ (k + 1 + 1)) : v / 128 < 128 ^ (k + 1) := by
 rw [Nat.pow_succ] at h; exact Nat.div_lt_of_lt_mul (by rw [Nat.mul_comm]; exact h)

theorem run_le (l : List UInt8) : run l ≤ l.length := by
 induction l with
 | nil => simp [run]
 | cons c t ih => simp only [run, List.length_cons]; split <;> omega

theorem lt_pow_of_lt {v : Nat} (h : v < 18446744073709551616) : v < 128 ^ (9 + 1) := Nat.lt_of_lt_of_le h (by decide)

/-- Bytes that are read as a number are those that are laid for it. -/
theorem encF_of : ∀ (k : Nat) (l : List UInt8), run l < l.length → run l ≤ k → (0 < run l → at_ l (run l) ≠ 0) → encF k (val (l.take (run l + 1))) = l.take (run l + 1) ∧ val (l.take (run l + 1)) < 128 ^ (run l + 1)
 | k, [], h, _, _ => by simp [run] at h
 | k, c :: t, h, hk, h0 => by
  by_cases hc : 128 ≤ c.toNat
  ·have er : run (c :: t) = run t + 1 := by simp only [run]; rw [if_pos hc]
   rw [er] at h hk h0 ⊢
   simp only [List.length_cons] at h
   obtain ⟨k, rfl⟩ : ∃ k', k = k' + 1 := ⟨k - 1, by omega⟩
   have hat : at_ (c :: t) (run t + 1) = at_ t (run t) := by simp [at_]
   rw [hat] at h0
   have ih := encF_of k t (by omega) (by omega) (fun _ => h0 (by omega))
   have hcl := c.toNat_lt
   have hv : 1 ≤ val (t.take (run t + 1)) := by
    have hne := h0 (by omega)
    clear ih
    revert hne h
    clear hat h0 hk er
    intro h hne
    have hgen : ∀ (s : List UInt8), run s < s.length → at_ s (run s) ≠ 0 → at_ s (run s) < 128 → 1 ≤ val (s.take (run s + 1)) := by
     intro s
     induction s with
     | nil => intro h; simp at h
     | cons d s ih =>
      intro h hne hlt
      by_cases hd : 128 ≤ d.toNat
      ·have e : run (d :: s) = run s + 1 := by simp only [run]; rw [if_pos hd]
       have hat : at_ (d :: s) (run s + 1) = at_ s (run s) := by simp [at_]
       rw [e] at h hne hlt ⊢
       rw [hat] at hne hlt
       have := ih (by simpa using h) hne hlt
       simp only [List.take_succ_cons, val]
       omega
      ·have e : run (d :: s) = 0 := by simp only [run]; rw [if_neg hd]
       rw [e] at hne hlt ⊢
       simp [at_] at hne hlt
       simp [val]
       omega
    refine hgen t (by omega) hne ?_
    have hlt : ∀ (s : List UInt8), run s < s.length → at_ s (run s) < 128 := by
     intro s
     induction s with
     | nil => intro h; simp at h
     | cons d s ih =>
      intro h
      by_cases hd : 128 ≤ d.toNat
      ·have e : run (d :: s) = run s + 1 := by simp only [run]; rw [if_pos hd]
       have hat : at_ (d :: s) (run s + 1) = at_ s (run s) := by simp [at_]
       rw [e, hat]; rw [e] at h; exact ih (by simpa using h)
      ·have e : run (d :: s) = 0 := by simp only [run]; rw [if_neg hd]
       rw [e]; simp [at_]; omega
    exact hlt t (by omega)
   simp only [List.take_succ_cons, val, encF]
   rw [if_neg (by omega)]
   have e1 : (c.toNat % 128 + 128 * val (t.take (run t + 1))) / 128 = val (t.take (run t + 1)) := by omega
   have e2 : (c.toNat % 128 + 128 * val (t.take (run t + 1))) % 128 + 128 = c.toNat := by omega
   rw [e1, e2, ih.1]
   refine ⟨by simp, ?_⟩
   have := ih.2
   rw [Nat.pow_succ 128 (run t + 1)]
   omega
  ·have er : run (c :: t) = 0 := by simp only [run]; rw [if_neg hc]
   rw [er]
   have e : c.toNat % 128 + 128 * 0 = c.toNat := by omega
   simp only [Nat.zero_add, List.take_succ_cons, List.take_zero, val]
   rw [e]
   cases k with
   | zero => simp [encF]; omega
   | succ k => simp only [encF]; rw [if_pos (by omega)]; simp; omega

theorem val_lt_last : ∀ (l : List UInt8), run l < l.length → val (l.take (run l + 1)) < 128 ^ run l * (at_ l (run l) + 1)
 | [], h => by simp at h
 | c :: t, h => by
  by_cases hc : 128 ≤ c.toNat
  ·have er : run (c :: t) = run t + 1 := by simp only [run]; rw [if_pos hc]
   rw [er] at h ⊢
   have hat : at_ (c :: t) (run t + 1) = at_ t (run t) := by simp [at_]
   rw [hat]
   have ih := val_lt_last t (by simpa using h)
   simp only [List.take_succ_cons, val]
   rw [Nat.pow_succ, Nat.mul_right_comm]
   omega
  ·have er : run (c :: t) = 0 := by simp only [run]; rw [if_neg hc]
   rw [er]
   simp [val, at_]
   omega

theorem takeS_ok (l : List UInt8) (h : (takeS l).2.2 = 0) :
  1 ≤ (takeS l).2.1 ∧ (takeS l).2.1 ≤ 10 ∧ (takeS l).2.1 ≤ l.length ∧ enc (takeS l).1 = l.take (takeS l).2.1 ∧ (takeS l).1 < 18446744073709551616 := by
 have hr := run_le l
 unfold takeS at h ⊢
 by_cases h1 : 10 ≤ run l
 ·rw [if_pos h1] at h; simp at h
 ·rw [if_neg h1] at h ⊢
  by_cases h2 : run l = l.length
  ·rw [if_pos h2] at h; simp at h
  ·rw [if_neg h2] at h ⊢
   by_cases h3 : (0 < run l ∧ at_ l (run l) = 0) ∨ (run l = 9 ∧ 1 < at_ l (run l))
   ·rw [if_pos h3] at h; simp at h
   ·rw [if_neg h3]
    have ho := encF_of 9 l (by omega) (by omega) (fun a b => h3 (.inl ⟨a, b⟩))
    refine ⟨by simp, by simp; omega, by simp; omega, ho.1, ?_⟩
    by_cases h9 : run l = 9
    ·have := val_lt_last l (by omega)
     have hle : at_ l (run l) ≤ 1 := by
      rcases Nat.lt_or_ge 1 (at_ l (run l)) with h | h
      ·exact absurd (.inr ⟨h9, h⟩) h3
      ·exact h
     refine Nat.lt_of_lt_of_le this ?_
     rw [h9] at hle ⊢
     exact Nat.le_trans (Nat.mul_le_mul_left _ (Nat.add_le_add_right hle 1)) (by decide)
    ·refine Nat.lt_of_lt_of_le ho.2 (Nat.le_trans (Nat.pow_le_pow_right (by decide) (show run l + 1 ≤ 9 by omega)) (by decide))
theorem takeS_bad (l : List UInt8) (h : (takeS l).2.2 ≠ 0) : (takeS l).1 = 0 ∧ (takeS l).2.1 = 0 := by
 unfold takeS at h ⊢
 split
 ·simp
 ·split
  ·simp
  ·split
   ·simp
   ·rename_i h1 h2 h3
    rw [if_neg h1, if_neg h2, if_neg h3] at h
    exact absurd rfl h
theorem takeS_lt (l : List UInt8) : (takeS l).1 < 18446744073709551616 := by
 by_cases h : (takeS l).2.2 = 0
 ·exact (takeS_ok l h).2.2.2.2
 ·rw [(takeS_bad l h).1]; decide
theorem enc_len (v : Nat) : 1 ≤ (enc v).length ∧ (enc v).length ≤ 10 := ⟨encF_len_pos 9 v, encF_len_le 9 v⟩

/-- Numbers, one behind another. -/
def encs : List Nat → List UInt8
 | [] => []
 | v :: t => enc v ++ encs t
theorem encs_append (a b : List Nat) : encs (a ++ b) = encs a ++ encs b := by
 induction a with
 | nil => rfl
 | cons v t ih => simp [encs, ih]
theorem encs_snoc (a : List Nat) (v : Nat) : encs (a ++ [v]) = encs a ++ enc v := by rw [encs_append]; simp [encs]
theorem encs_len (a : List Nat) : (encs a).length ≤ 10 * a.length := by
 induction a with
 | nil => simp [encs]
 | cons v t ih => have := (enc_len v).2; simp [encs]; omega

/-! the lowest bytes, the highest of them first -/
def fixF (v : Nat) : Nat → List UInt8
 | 0 => []
 | k + 1 => UInt8.ofNat (v / 256 ^ k) :: fixF v k
def bigF (a : Nat) : List UInt8 → Nat
 | [] => a
 | c :: t => bigF (a * 256 + c.toNat) t
def big (l : List UInt8) : Nat := bigF 0 (l.take 8)
end Go.Proofs.YtaflikgdlkaefaaGreat.Pl
namespace Go.Proofs.YtaflikgdlkaefaaGreat.Pl
theorem run_step (l : List UInt8) : ∀ k, k ≤ run l → k < l.length → (128 ≤ at_ l k → k + 1 ≤ run l) ∧ (at_ l k < 128 → run l = k) := by
 induction l with
 | nil => intro k _ h; simp at h
 | cons c t ih =>
  intro k hk hl
  by_cases hc : 128 ≤ c.toNat
  ·have er : run (c :: t) = run t + 1 := by simp only [run]; rw [if_pos hc]
   rw [er] at hk ⊢
   cases k with
   | zero => simp [at_]; omega
   | succ k =>
    have hat : at_ (c :: t) (k + 1) = at_ t k := by simp [at_]
    rw [hat]
    have := ih k (by omega) (by simpa using hl)
    omega
  ·have er : run (c :: t) = 0 := by simp only [run]; rw [if_neg hc]
   rw [er] at hk ⊢
   obtain rfl : k = 0 := by omega
   simp [at_]; omega
theorem val_snoc (l : List UInt8) (c : UInt8) : val (l ++ [c]) = val l + c.toNat % 128 * 128 ^ l.length := by
 induction l with
 | nil => simp [val]
 | cons d t ih =>
  simp only [List.cons_append, val, List.length_cons, ih]
  have e : c.toNat % 128 * 128 ^ (t.length + 1) = 128 * (c.toNat % 128 * 128 ^ t.length) := by
   rw [Nat.pow_succ, ← Nat.mul_assoc, Nat.mul_comm]
  rw [e]; omega
theorem val_lt (l : List UInt8) : val l < 128 ^ l.length := by
 induction l with
 | nil => simp [val]
 | cons c t ih => simp only [val, List.length_cons, Nat.pow_succ]; omega
theorem val_take_succ (l : List UInt8) (k : Nat) (h : k < l.length) : val (l.take (k + 1)) = val (l.take k) + at_ l k % 128 * 128 ^ k := by
 rw [List.take_add_one, List.getElem?_eq_getElem h]
 simp only [Option.toList_some]
 rw [val_snoc, List.length_take, Nat.min_eq_left (by omega)]
 simp [at_, List.getElem?_eq_getElem h]
theorem val_take_lt (l : List UInt8) (k : Nat) (h : k ≤ l.length) : val (l.take k) < 128 ^ k := by
 have := val_lt (l.take k)
 rwa [List.length_take, Nat.min_eq_left h] at this
theorem takeS_ten (l : List UInt8) (h : 10 ≤ run l) : takeS l = (0, 0, 21) := by rw [takeS_at l _ rfl, if_pos h]
theorem takeS_short (l : List UInt8) (h : run l = l.length) (h' : l.length < 10) : takeS l = (0, 0, 20) := by rw [takeS_at l _ h, if_neg (by omega), if_pos rfl]
theorem takeS_end (l : List UInt8) (k : Nat) (h : run l = k) (hk : k < l.length) (h' : k < 10) :
  takeS l = if (0 < k ∧ at_ l k = 0) ∨ (k = 9 ∧ 1 < at_ l k) then (0, 0, 21) else (val (l.take (k + 1)), k + 1, 0) := by
 rw [takeS_at l _ h, if_neg (by omega), if_neg (by omega)]
theorem pow7 (k : Nat) : 2 ^ (7 * k) = 128 ^ k := by rw [Nat.pow_mul]
end Go.Proofs.YtaflikgdlkaefaaGreat.Pl
namespace Go.Proofs.YtaflikgdlkaefaaGreat.Pl
theorem val_drop (l : List UInt8) (j : Nat) (h : j < l.length) : val (l.drop j) = at_ l j % 128 + 128 * val (l.drop (j + 1)) := by
 rw [List.drop_eq_getElem_cons h]
 simp [val, at_, List.getElem?_eq_getElem h]
theorem val_drop_le (l : List UInt8) : ∀ j, val (l.drop j) ≤ val l := by
 induction l with
 | nil => intro j; simp
 | cons c t ih =>
  intro j
  cases j with
  | zero => simp
  | succ j => simp only [List.drop_succ_cons, val]; have := ih j; omega
theorem at_take (l : List UInt8) (k j : Nat) (h : j < k) : at_ (l.take k) j = at_ l j := by
 simp only [at_, List.getElem?_take]; rw [if_pos h]
end Go.Proofs.YtaflikgdlkaefaaGreat.Pl
namespace Go.Proofs.YtaflikgdlkaefaaGreat.Pl
end Go.Proofs.YtaflikgdlkaefaaGreat.Pl
namespace Go.Proofs.YtaflikgdlkaefaaGreat.Pl
end Go.Proofs.YtaflikgdlkaefaaGreat.Pl
/- Ranges: plain mathematics: lists of ranges as sets of numbers. -/
namespace Go.Proofs.YtaflikgdlkaefaaGreat.Sp

structure Rg where
 a : Int
 b : Int
deriving DecidableEq
instance : Inhabited Rg := ⟨⟨0, 0⟩⟩
/-- the greatest number -/
def mx : Int := 1099511627775
def Rg.in_ (r : Rg) (n : Int) : Bool := decide (r.a ≤ n) && decide (n ≤ r.b)
def Rg.ok (r : Rg) : Bool := decide (1 ≤ r.a ∧ r.a ≤ r.b ∧ r.b ≤ mx)
/-- right, from lo on -/
def okR (lo : Int) : List Rg → Bool
 | [] => true
 | r :: t => decide (lo ≤ r.a) && r.ok && okR (r.b + 2) t
def right (l : List Rg) : Bool := okR 1 l
def has (l : List Rg) (n : Int) : Bool := l.any (·.in_ n)
theorem in_iff {r : Rg} {n : Int} : r.in_ n = true ↔ r.a ≤ n ∧ n ≤ r.b := by simp [Rg.in_]
theorem ok_iff {r : Rg} : r.ok = true ↔ 1 ≤ r.a ∧ r.a ≤ r.b ∧ r.b ≤ mx := by simp [Rg.ok]
theorem okR_cons {lo : Int} {r : Rg} {t : List Rg} : okR lo (r :: t) = true ↔ lo ≤ r.a ∧ r.ok = true ∧ okR (r.b + 2) t = true := by simp [okR, and_assoc]
theorem has_cons (r : Rg) (t : List Rg) (n : Int) : has (r :: t) n = (r.in_ n || has t n) := by simp [has]
theorem has_nil (n : Int) : has [] n = false := rfl
theorem has_append (l m : List Rg) (n : Int) : has (l ++ m) n = (has l n || has m n) := by simp [has]
theorem okR_mono {lo lo' : Int} (h : lo' ≤ lo) : ∀ {l : List Rg}, okR lo l = true → okR lo' l = true
 | [], _ => rfl
 | r :: t, hl => by
  rw [okR_cons] at hl ⊢
  exact ⟨by omega, hl.2⟩
/-- all numbers of a right list stand from lo on, and are numbers -/
theorem has_lo : ∀ {l : List Rg} {lo : Int}, okR lo l = true → ∀ n, has l n = true → lo ≤ n ∧ 1 ≤ n ∧ n ≤ mx
 | [], lo, _, n, h => by simp [has] at h
 | r :: t, lo, hl, n, h => by
  rw [okR_cons, ok_iff] at hl
  rw [has_cons, Bool.or_eq_true, in_iff] at h
  rcases h with h | h
  ·omega
  ·have := has_lo hl.2.2 n h; omega
/-- a right list is the one of its numbers -/
theorem one : ∀ {l m : List Rg} {lo lo' : Int}, okR lo l = true → okR lo' m = true → (∀ n, has l n = has m n) → l = m
 | [], [], _, _, _, _, _ => rfl
 | [], s :: u, _, _, _, hm, h => by
  have := h s.a
  rw [okR_cons, ok_iff] at hm
  rw [has_nil, has_cons, in_iff.2 ⟨Int.le_refl _, hm.2.1.2.1⟩] at this
  cases this
 | r :: t, [], _, _, hl, _, h => by
  have := h r.a
  rw [okR_cons, ok_iff] at hl
  rw [has_nil, has_cons, in_iff.2 ⟨Int.le_refl _, hl.2.1.2.1⟩] at this
  cases this
 | r :: t, s :: u, lo, lo', hl, hm, h => by
  have hl' := hl
  have hm' := hm
  rw [okR_cons, ok_iff] at hl hm
  have inl : ∀ n, has (r :: t) n = true → r.a ≤ n ∧ (n ≤ r.b ∨ r.b + 2 ≤ n ∧ has t n = true) := fun n hn => by
   rw [has_cons, Bool.or_eq_true, in_iff] at hn
   rcases hn with hn | hn
   ·omega
   ·have := has_lo hl.2.2 n hn; exact ⟨by omega, .inr ⟨this.1, hn⟩⟩
  have inm : ∀ n, has (s :: u) n = true → s.a ≤ n ∧ (n ≤ s.b ∨ s.b + 2 ≤ n ∧ has u n = true) := fun n hn => by
   rw [has_cons, Bool.or_eq_true, in_iff] at hn
   rcases hn with hn | hn
   ·omega
   ·have := has_lo hm.2.2 n hn; exact ⟨by omega, .inr ⟨this.1, hn⟩⟩
  have pl : ∀ n, r.a ≤ n → n ≤ r.b → has (s :: u) n = true := fun n h1 h2 => by rw [← h, has_cons, in_iff.2 ⟨h1, h2⟩]; rfl
  have pm : ∀ n, s.a ≤ n → n ≤ s.b → has (r :: t) n = true := fun n h1 h2 => by rw [h, has_cons, in_iff.2 ⟨h1, h2⟩]; rfl
  have ea : r.a = s.a := by
   have h1 := (inm _ (pl r.a (Int.le_refl _) hl.2.1.2.1)).1
   have h2 := (inl _ (pm s.a (Int.le_refl _) hm.2.1.2.1)).1
   omega
  have eb : r.b = s.b := by
   rcases Int.lt_trichotomy r.b s.b with hlt | he | hgt
   ·have := (inl _ (pm (r.b + 1) (by omega) (by omega))).2; omega
   ·exact he
   ·have := (inm _ (pl (s.b + 1) (by omega) (by omega))).2; omega
  have e : r = s := by
   obtain ⟨a, b⟩ := r
   obtain ⟨a', b'⟩ := s
   simp only at ea eb
   rw [ea, eb]
  subst e
  congr 1
  refine one hl.2.2 hm.2.2 fun n => ?_
  have hn := h n
  rw [has_cons, has_cons] at hn
  rcases h1 : has t n with _ | _ <;> rcases h2 : has u n with _ | _
  ·rfl
  ·rw [h1, h2, Bool.or_false, Bool.or_true] at hn
   have g := has_lo hm.2.2 n h2
   have := in_iff.1 hn
   omega
  ·rw [h1, h2, Bool.or_false, Bool.or_true] at hn
   have g := has_lo hl.2.2 n h1
   have := in_iff.1 hn.symm
   omega
  ·rfl
theorem right_one {l m : List Rg} (hl : right l = true) (hm : right m = true) (h : ∀ n, has l n = has m n) : l = m := one hl hm h
/-! ### one range behind others -/
theorem okR_snoc : ∀ {l : List Rg} {lo : Int} {r : Rg}, okR lo (l ++ [r]) = true ↔ okR lo l = true ∧ r.ok = true ∧ lo ≤ r.a ∧ (∀ x, l.getLast? = some x → x.b + 2 ≤ r.a)
 | [], lo, r => by
  rw [List.nil_append, okR_cons]
  simp [okR]
  exact And.comm
 | x :: l, lo, r => by
  rw [List.cons_append, okR_cons, okR_snoc, okR_cons]
  constructor
  ·rintro ⟨h1, h2, h3, h4, h5, h6⟩
   refine ⟨⟨h1, h2, h3⟩, h4, ?_, fun y hy => ?_⟩
   ·have := ok_iff.1 h2; omega
   ·cases l with
    | nil => simp at hy; subst hy; exact h5
    | cons z l => exact h6 y (by rw [List.getLast?_cons_cons] at hy; exact hy)
  ·rintro ⟨⟨h1, h2, h3⟩, h4, h5, h6⟩
   refine ⟨h1, h2, h3, h4, ?_, fun y hy => ?_⟩
   ·cases l with
    | nil => exact h6 x rfl
    | cons z l =>
     obtain ⟨y, hy⟩ : ∃ y, (z :: l).getLast? = some y := by
      rw [List.getLast?_eq_some_getLast (by simp)]; exact ⟨_, rfl⟩
     have h7 := h6 y (by rw [List.getLast?_cons_cons]; exact hy)
     have hb := okR_last h3 hy
     omega
   ·cases l with
    | nil => simp at hy
    | cons z l => exact h6 y (by rw [List.getLast?_cons_cons]; exact hy)
 where okR_last : ∀ {l : List Rg} {lo : Int} {y : Rg}, okR lo l = true → l.getLast? = some y → lo ≤ y.a ∧ y.ok = true ∧ lo ≤ y.b
 | [], _, _, _, h => by simp at h
 | [x], lo, y, hl, h => by
  simp at h
  subst h
  rw [okR_cons] at hl
  have := ok_iff.1 hl.2.1
  exact ⟨hl.1, hl.2.1, by omega⟩
 | x :: z :: l, lo, y, hl, h => by
  rw [okR_cons] at hl
  rw [List.getLast?_cons_cons] at h
  have h1 := okR_last hl.2.2 h
  have h2 := ok_iff.1 hl.2.1
  exact ⟨by omega, h1.2.1, by omega⟩
theorem last_split {l : List Rg} {x : Rg} (h : l.getLast? = some x) : l = l.dropLast ++ [x] := by
 have hne : l ≠ [] := by intro e; rw [e] at h; cases h
 rw [List.getLast?_eq_some_getLast hne] at h
 injection h with h
 rw [← h, List.dropLast_concat_getLast]
def putR (o : List Rg) (r : Rg) : List Rg :=
 match o.getLast? with
 | none => o ++ [r]
 | some x => if r.a ≤ x.b + 1 then o.dropLast ++ [⟨x.a, max x.b r.b⟩] else o ++ [r]
theorem putR_ok {o : List Rg} {r : Rg} (ho : right o = true) (hr : r.ok = true) (hs : ∀ x, o.getLast? = some x → x.a ≤ r.a) :
  right (putR o r) = true ∧ (∀ n, has (putR o r) n = (has o n || r.in_ n)) ∧ ∀ x, (putR o r).getLast? = some x → x.a ≤ r.a := by
 have hr' := ok_iff.1 hr
 cases hl : o.getLast? with
 | none =>
  have : o = [] := List.getLast?_eq_none_iff.1 hl
  subst this
  refine ⟨by simp [putR, right, okR, hr]; omega, fun n => by simp [putR, has], fun x hx => by simp [putR] at hx; subst hx; omega⟩
 | some x =>
  have hx := hs x hl
  have hsp := last_split hl
  have hok := ho
  rw [hsp, right, okR_snoc] at hok
  obtain ⟨h1, h2, h3, h4⟩ := hok
  have h2' := ok_iff.1 h2
  by_cases hc : r.a ≤ x.b + 1
  ·have e : putR o r = o.dropLast ++ [⟨x.a, max x.b r.b⟩] := by rw [putR, hl]; simp only; rw [if_pos hc]
   rw [e]
   refine ⟨?_, fun n => ?_, fun y hy => by simp at hy; subst hy; exact hx⟩
   ·rw [right, okR_snoc]
    exact ⟨h1, ok_iff.2 ⟨by simp only; omega, by simp only; omega, by simp only; omega⟩, h3, h4⟩
   ·have e2 : has o n = (has o.dropLast n || x.in_ n) := by
     conv => lhs; rw [hsp, has_append]
     simp [has]
    rw [has_append, e2, Bool.or_assoc]
    congr 1
    rw [Bool.eq_iff_iff, has_cons, has_nil, Bool.or_false, Bool.or_eq_true, in_iff, in_iff, in_iff]
    simp only
    omega
  ·have e : putR o r = o ++ [r] := by rw [putR, hl]; simp only; rw [if_neg hc]
   rw [e]
   refine ⟨?_, fun n => by simp [has_append, has], fun y hy => by simp at hy; subst hy; omega⟩
   rw [right, okR_snoc]
   refine ⟨ho, hr, by omega, fun y hy => ?_⟩
   rw [hl] at hy
   injection hy with hy
   subst hy
   omega
/-- ranges in the order of where they begin, put together -/
theorem fold_put : ∀ {l o : List Rg}, right o = true → (∀ r ∈ l, r.ok = true) → (l.Pairwise fun r s => r.a ≤ s.a) → (∀ x, o.getLast? = some x → ∀ r ∈ l, x.a ≤ r.a) →
  right (l.foldl putR o) = true ∧ ∀ n, has (l.foldl putR o) n = (has o n || has l n)
 | [], o, ho, _, _, _ => ⟨ho, fun n => by simp [has]⟩
 | r :: l, o, ho, hl, hp, hs => by
  obtain ⟨hr, hp'⟩ := List.pairwise_cons.1 hp
  obtain ⟨h1, h2, h3⟩ := putR_ok ho (hl r (by simp)) (fun x hx => hs x hx r (by simp))
  obtain ⟨k1, k2⟩ := fold_put h1 (fun s hs' => hl s (by simp [hs'])) hp' (fun x hx s hs' => by have := h3 x hx; have := hr s hs'; omega)
  refine ⟨k1, fun n => ?_⟩
  rw [List.foldl_cons, k2, h2, has_cons, Bool.or_assoc]
/-! ### the document's add -/
def mergeR : List Rg → Rg → Rg × List Rg
 | [], r => (r, [])
 | x :: t, r => if x.a ≤ r.b + 1 then mergeR t ⟨min r.a x.a, max r.b x.b⟩ else (r, x :: t)
def addR : List Rg → Rg → List Rg
 | [], r => [r]
 | x :: t, r => if x.b < r.a - 1 then x :: addR t r else (mergeR (x :: t) r).1 :: (mergeR (x :: t) r).2
theorem mergeR_ok : ∀ {l : List Rg} {lo : Int} {r : Rg}, okR lo l = true → r.ok = true → (∀ x, l.head? = some x → r.a ≤ x.b + 1) →
  (mergeR l r).1.ok = true ∧ okR ((mergeR l r).1.b + 2) (mergeR l r).2 = true ∧ ((mergeR l r).1.a = r.a ∨ lo ≤ (mergeR l r).1.a) ∧ ∀ n, ((mergeR l r).1.in_ n || has (mergeR l r).2 n) = (r.in_ n || has l n)
 | [], lo, r, _, hr, _ => ⟨hr, rfl, .inl rfl, fun n => rfl⟩
 | x :: t, lo, r, hl, hr, hx => by
  have hx' := hx x rfl
  rw [okR_cons] at hl
  have h1 := ok_iff.1 hl.2.1
  have h2 := ok_iff.1 hr
  by_cases hc : x.a ≤ r.b + 1
  ·have hr2 : Rg.ok ⟨min r.a x.a, max r.b x.b⟩ = true := ok_iff.2 ⟨by simp only; omega, by simp only; omega, by simp only; omega⟩
   have ih := mergeR_ok (l := t) (lo := x.b + 2) (r := ⟨min r.a x.a, max r.b x.b⟩) hl.2.2 hr2 (fun y hy => by
    cases t with
    | nil => cases hy
    | cons z t =>
     simp at hy
     subst hy
     have h3 := hl.2.2
     rw [okR_cons, ok_iff] at h3
     simp only
     omega)
   have e : mergeR (x :: t) r = mergeR t ⟨min r.a x.a, max r.b x.b⟩ := by rw [mergeR, if_pos hc]
   rw [e]
   obtain ⟨k1, k2, k3, k4⟩ := ih
   refine ⟨k1, k2, ?_, fun n => ?_⟩
   ·simp only at k3; omega
   ·rw [k4, has_cons, ← Bool.or_assoc]
    congr 1
    rw [Bool.eq_iff_iff, Bool.or_eq_true, in_iff, in_iff, in_iff]
    simp only
    omega
  ·have e : mergeR (x :: t) r = (r, x :: t) := by rw [mergeR, if_neg hc]
   rw [e]
   exact ⟨hr, by rw [okR_cons]; exact ⟨by show r.b + 2 ≤ x.a; omega, hl.2⟩, .inl rfl, fun n => rfl⟩
theorem addR_ok : ∀ {l : List Rg} {lo : Int} {r : Rg}, okR lo l = true → r.ok = true → lo ≤ r.a → okR lo (addR l r) = true ∧ ∀ n, has (addR l r) n = (has l n || r.in_ n)
 | [], lo, r, _, hr, h => ⟨by simp [addR, okR, hr, h], fun n => by simp [addR, has]⟩
 | x :: t, lo, r, hl, hr, h => by
  by_cases hc : x.b < r.a - 1
  ·rw [okR_cons] at hl
   obtain ⟨k1, k2⟩ := addR_ok (l := t) (lo := x.b + 2) (r := r) hl.2.2 hr (by omega)
   rw [addR, if_pos hc]
   exact ⟨by rw [okR_cons]; exact ⟨hl.1, hl.2.1, k1⟩, fun n => by rw [has_cons, k2, has_cons, Bool.or_assoc]⟩
  ·obtain ⟨k1, k2, k3, k4⟩ := mergeR_ok (r := r) hl hr (fun y hy => by simp at hy; subst hy; omega)
   rw [addR, if_neg hc]
   exact ⟨by rw [okR_cons]; exact ⟨by omega, k1, k2⟩, fun n => by rw [has_cons, k4, Bool.or_comm]⟩
def joinR (a b : List Rg) : List Rg := b.foldl addR a
theorem right_ok : ∀ {l : List Rg} {lo : Int}, okR lo l = true → ∀ r ∈ l, r.ok = true
 | x :: t, lo, h, r, hr => by
  rw [okR_cons] at h
  rcases List.mem_cons.1 hr with e | hr
  ·subst e; exact h.2.1
  ·exact right_ok h.2.2 r hr
/-! ### what is taken away -/
def cut1 (o x : Rg) : List Rg := (if o.a ≤ min o.b (x.a - 1) then [⟨o.a, min o.b (x.a - 1)⟩] else []) ++ (if max o.a (x.b + 1) ≤ o.b then [⟨max o.a (x.b + 1), o.b⟩] else [])
def cutR (l : List Rg) (x : Rg) : List Rg := l.flatMap fun o => cut1 o x
def minusR (a b : List Rg) : List Rg := b.foldl cutR a
/-- the program's way: one range and what is taken of it -/
def piece (r : Rg) : List Rg → List Rg
 | [] => if r.a ≤ r.b then [r] else []
 | x :: t => if x.a > r.b then (if r.a ≤ r.b then [r] else []) else (if x.a > r.a then [⟨r.a, x.a - 1⟩] else []) ++ piece ⟨x.b + 1, r.b⟩ t
def minP : List Rg → List Rg → List Rg
 | [], _ => []
 | r :: t, b => piece r (b.dropWhile fun x => decide (x.b < r.a)) ++ minP t (b.dropWhile fun x => decide (x.b < r.a))
end Go.Proofs.YtaflikgdlkaefaaGreat.Sp
/- Ranges: the program's minus, counts, what is first. -/
namespace Go.Proofs.YtaflikgdlkaefaaGreat.Sp

/-- how many -/
def countR (l : List Rg) : Int := (l.map fun r => r.b - r.a + 1).foldr (· + ·) 0
theorem countR_cons (r : Rg) (t : List Rg) : countR (r :: t) = (r.b - r.a + 1) + countR t := rfl
def cnt (p : Int → Bool) (lo : Int) : Nat → Int
 | 0 => 0
 | k + 1 => (if p lo = true then 1 else 0) + cnt p (lo + 1) k
theorem countR_nonneg : ∀ {l : List Rg} {lo : Int}, okR lo l = true → 0 ≤ countR l
 | [], _, _ => by simp [countR]
 | r :: t, lo, h => by
  rw [okR_cons, ok_iff] at h
  have := countR_nonneg h.2.2
  rw [countR_cons]
  omega
theorem countR_le : ∀ {l : List Rg} {lo : Int}, okR lo l = true → lo ≤ mx + 2 → countR l ≤ mx + 2 - lo
 | [], lo, _, hlo => by simp [countR]; omega
 | r :: t, lo, h, _ => by
  rw [okR_cons, ok_iff] at h
  have := countR_le h.2.2 (by omega)
  rw [countR_cons]
  omega
/-- up to which number all are there -/
def firstR (l : List Rg) : Int := match l with
 | [] => 0
 | r :: _ => if r.a = 1 then r.b else 0
end Go.Proofs.YtaflikgdlkaefaaGreat.Sp
/- Ranges: the forms that the walks step through; the laws' sets. -/
namespace Go.Proofs.YtaflikgdlkaefaaGreat.Sp

theorem add_at : ∀ (l : List Rg) (r : Rg) (i : Nat), i ≤ l.length → (∀ j, j < i → (l[j]?.getD ⟨0, 0⟩).b < r.a - 1) → (i = l.length ∨ ¬ (l[i]?.getD ⟨0, 0⟩).b < r.a - 1) →
    addR l r = l.take i ++ (mergeR (l.drop i) r).1 :: (mergeR (l.drop i) r).2
  | [], r, i, hi, _, _ => by
    obtain rfl : i = 0 := by simpa using hi
    rfl
  | x :: t, r, 0, _, _, h => by
    have : ¬ x.b < r.a - 1 := by rcases h with h | h; · simp at h
                                 · simpa using h
    rw [addR, if_neg this]; rfl
  | x :: t, r, i + 1, hi, hj, h => by
    have h0 : x.b < r.a - 1 := by simpa using hj 0 (by omega)
    rw [addR, if_pos h0, add_at t r i (by simpa using hi) (fun j hj' => by simpa using hj (j + 1) (by omega)) (by simpa using h)]
    rfl
theorem merge_step {l : List Rg} {r : Rg} {i : Nat} (hi : i < l.length) (h : (l[i]?.getD ⟨0, 0⟩).a ≤ r.b + 1) :
  mergeR (l.drop i) r = mergeR (l.drop (i + 1)) ⟨min r.a (l[i]?.getD ⟨0, 0⟩).a, max r.b (l[i]?.getD ⟨0, 0⟩).b⟩ := by
 rw [List.getElem?_eq_getElem hi, Option.getD_some] at h ⊢
 rw [List.drop_eq_getElem_cons hi, mergeR, if_pos h]
theorem merge_stop {l : List Rg} {r : Rg} {i : Nat} (h : i = l.length ∨ i < l.length ∧ ¬ (l[i]?.getD ⟨0, 0⟩).a ≤ r.b + 1) : mergeR (l.drop i) r = (r, l.drop i) := by
 rcases h with h | ⟨hi, h⟩
 ·rw [h, List.drop_length]; rfl
 ·rw [List.getElem?_eq_getElem hi, Option.getD_some] at h
  rw [List.drop_eq_getElem_cons hi, mergeR, if_neg h]
/-! ### joined, taken away: right lists of the sets -/
def joinS (a b : List Rg) : List Rg := if right a = true ∧ right b = true then b.foldl addR a else []
def minusS (a b : List Rg) : List Rg := if right a = true ∧ right b = true then minusR a b else []
def hasS (l : List Rg) (n : Int) : Bool := right l && has l n
def countS (l : List Rg) : Int := if right l = true then countR l else 0
def firstS (l : List Rg) : Int := if right l = true then firstR l else 0
/-- the list of some numbers -/
def numOk (n : Int) : Bool := decide (1 ≤ n ∧ n ≤ mx)
def ofS (l : List Int) : List Rg := l.foldl (fun o n => if numOk n = true then addR o ⟨n, n⟩ else o) []
theorem ofS_gen : ∀ (l : List Int) (o : List Rg), right o = true → right (l.foldl (fun o n => if numOk n = true then addR o ⟨n, n⟩ else o) o) = true ∧
  ∀ n, has (l.foldl (fun o n => if numOk n = true then addR o ⟨n, n⟩ else o) o) n = (has o n || (numOk n && l.contains n))
 | [], o, ho => ⟨ho, fun n => by simp⟩
 | x :: l, o, ho => by
  rw [List.foldl_cons]
  by_cases hx : numOk x = true
  ·rw [if_pos hx]
   have hx' := hx
   rw [numOk, decide_eq_true_eq] at hx'
   obtain ⟨k1, k2⟩ := addR_ok (r := ⟨x, x⟩) (lo := 1) ho (ok_iff.2 ⟨hx'.1, Int.le_refl _, hx'.2⟩) hx'.1
   obtain ⟨j1, j2⟩ := ofS_gen l _ k1
   refine ⟨j1, fun n => ?_⟩
   rw [j2, k2, Bool.or_assoc]
   congr 1
   rw [List.contains_cons, Bool.eq_iff_iff]
   simp only [Bool.or_eq_true, Bool.and_eq_true, in_iff, beq_iff_eq]
   constructor
   ·rintro (⟨h1, h2⟩ | ⟨h1, h2⟩)
    ·have e : n = x := by omega
     subst e
     exact ⟨hx, .inl rfl⟩
    ·exact ⟨h1, .inr h2⟩
   ·rintro ⟨h1, h2 | h2⟩
    ·subst h2; exact .inl ⟨Int.le_refl _, Int.le_refl _⟩
    ·exact .inr ⟨h1, h2⟩
  ·rw [if_neg hx]
   obtain ⟨j1, j2⟩ := ofS_gen l o ho
   refine ⟨j1, fun n => ?_⟩
   rw [j2, List.contains_cons]
   congr 1
   rw [Bool.eq_iff_iff]
   simp only [Bool.and_eq_true, Bool.or_eq_true, beq_iff_eq]
   constructor
   ·rintro ⟨h1, h2⟩; exact ⟨h1, .inr h2⟩
   ·rintro ⟨h1, h2 | h2⟩
    ·subst h2; exact absurd h1 hx
    ·exact ⟨h1, h2⟩
theorem ofS_right (l : List Int) : right (ofS l) = true := (ofS_gen l [] rfl).1
theorem ofS_has (l : List Int) (n : Int) : has (ofS l) n = (numOk n && l.contains n) := by rw [ofS, (ofS_gen l [] rfl).2, has_nil, Bool.false_or]
/-- the program's list of numbers: sorted one by one, put together -/
theorem all_of {xs : List Int} {l : List Rg} (hm : ∀ r, r ∈ l ↔ ∃ n ∈ xs, numOk n = true ∧ r = ⟨n, n⟩) (hs : l.Pairwise fun r s => r.a ≤ s.a) : l.foldl putR [] = ofS xs := by
 have hok : ∀ r ∈ l, r.ok = true := fun r hr => by
  obtain ⟨n, _, h1, rfl⟩ := (hm r).1 hr
  rw [numOk, decide_eq_true_eq] at h1
  exact ok_iff.2 ⟨h1.1, Int.le_refl _, h1.2⟩
 obtain ⟨k1, k2⟩ := fold_put (o := []) rfl hok hs (fun x hx => by cases hx)
 refine right_one k1 (ofS_right xs) fun n => ?_
 rw [k2, ofS_has, has_nil, Bool.false_or, Bool.eq_iff_iff, Bool.and_eq_true, List.contains_iff_mem]
 simp only [has, List.any_eq_true]
 constructor
 ·rintro ⟨r, h1, h2⟩
  obtain ⟨m, h3, h4, rfl⟩ := (hm r).1 h1
  rw [in_iff] at h2
  have e : n = m := by simp only at h2; omega
  subst e
  exact ⟨h4, h3⟩
 ·rintro ⟨h1, h2⟩
  exact ⟨⟨n, n⟩, (hm _).2 ⟨n, h2, h1, rfl⟩, in_iff.2 ⟨Int.le_refl _, Int.le_refl _⟩⟩
end Go.Proofs.YtaflikgdlkaefaaGreat.Sp
/- Ranges as values, and as cells of memory. -/
namespace Go.Proofs.YtaflikgdlkaefaaGreat
open Go.RowKit Go.Proofs.YtaflikgdlkaefaaGreat.Sp
set_option maxRecDepth 20000

def _root_.Go.Proofs.YtaflikgdlkaefaaGreat.Sp.Rg.v (d : Rg) : Value := .agg #[.int .i64 d.a, .int .i64 d.b]
def _root_.Go.Proofs.YtaflikgdlkaefaaGreat.Sp.Rg.cells (d : Rg) : List Value := [.int .i64 d.a, .int .i64 d.b]
def _root_.Go.Proofs.YtaflikgdlkaefaaGreat.Sp.Rg.wfR (d : Rg) : Prop := i64in d.a ∧ i64in d.b
/-- a range's box -/
def StandsR (w : World) (g : Nat) (s : Rg) : Prop := g < w.heap.size ∧ w.cell? ⟨g, 0, none⟩ = some (.int .i64 s.a) ∧ w.cell? ⟨g, 1, none⟩ = some (.int .i64 s.b) ∧ w.frozen? ⟨g, 0, none⟩ = false ∧ w.frozen? ⟨g, 1, none⟩ = false
theorem StandsR.below {w w' : World} {g : Nat} {s : Rg} (h : StandsR w g s) (hb : Below w.heap.size w w') : StandsR w' g s := by
 obtain ⟨h1, h2, h3, h5, h6⟩ := h
 exact ⟨Nat.lt_of_lt_of_le h1 hb.size, (hb.cell h1).trans h2, (hb.cell h1).trans h3, (hb.frozen h1).trans h5, (hb.frozen h1).trans h6⟩
theorem StandsR.alloc {w : World} {g : Nat} {s : Rg} (h : StandsR w g s) (o : Obj) : StandsR (w.alloc o) g s := h.below (balloc (Below.refl _ _) o)
theorem StandsR.new (w : World) (t : TypeId) (s : Rg) : StandsR (w.alloc (.cells #[.int .i64 s.a, .int .i64 s.b] t)) w.heap.size s := by
 obtain ⟨h1, h2⟩ := cell2 w t (.int .i64 s.a) (.int .i64 s.b)
 exact ⟨by simp, h1, h2, by rw [frozen?_alloc_cells]; simp [World.frozen?], by rw [frozen?_alloc_cells]; simp [World.frozen?]⟩
/-- the two stores of a dot -/
def put2R (w : World) (g : Nat) (s : Rg) : World := (w.setCell ⟨g, 0, none⟩ (.int .i64 s.a)).setCell ⟨g, 1, none⟩ (.int .i64 s.b)
theorem StandsR.put {w : World} {g : Nat} {m : Rg} (h : StandsR w g m) (s : Rg) : StandsR (put2R w g s) g s := by
 obtain ⟨h1, h2, h3, h5, h6⟩ := h
 unfold put2R
 refine ⟨by simpa using h1, ?_, ?_, by simp only [setCell_frozen]; exact h5, by simp only [setCell_frozen]; exact h6⟩
 ·rw [setCell_other _ _ _ _ _ _ (.inr (by omega)), World.cell?_setCell_same _ _ _ h2]
 ·rw [World.cell?_setCell_same _ _ _ (u := .int .i64 m.b) (by rw [setCell_other _ _ _ _ _ _ (.inr (by omega))]; exact h3)]
theorem eq2R (w : World) (a b : Rg) : (binOp .eql 58 a.v b.v).run Tryz.prog w = .ok (.bool (decide (a = b))) w := by
 unfold Rg.v
 rw [run_eql_struct]
 obtain ⟨p, l⟩ := a
 obtain ⟨p', l'⟩ := b
 go_simp
 by_cases h1 : p = p' <;> by_cases h2 : l = l' <;> simp [h1, h2]
theorem ne2R (w : World) (a b : Rg) : (binOp .neq 58 a.v b.v).run Tryz.prog w = .ok (.bool (!decide (a = b))) w := by
 unfold Rg.v
 rw [run_neq_struct]
 obtain ⟨p, l⟩ := a
 obtain ⟨p', l'⟩ := b
 go_simp
 by_cases h1 : p = p' <;> by_cases h2 : l = l' <;> simp [h1, h2]
/-! ### rows of ranges -/
def rv (ls : List Rg) : List Value := ls.flatMap Rg.cells
theorem rv_get : ∀ (ls : List Rg) (k j : Nat) (s : Rg), ls[k]? = some s → j < 2 → (rv ls)[k * 2 + j]? = s.cells[j]?
 | [], k, j, s, h, _ => by simp at h
 | x :: ls, 0, j, s, h, hj => by
  simp at h; subst h
  show (x.cells ++ rv ls)[0 * 2 + j]? = _
  rw [List.getElem?_append_left (by simp [Rg.cells]; omega)]; congr 1; omega
 | x :: ls, k + 1, j, s, h, hj => by
  show (x.cells ++ rv ls)[(k + 1) * 2 + j]? = _
  rw [List.getElem?_append_right (by simp [Rg.cells]; omega), show (k + 1) * 2 + j - x.cells.length = k * 2 + j by simp [Rg.cells]; omega]
  exact rv_get ls k j s (by simpa using h) hj
theorem rv_len (ls : List Rg) : (rv ls).length = ls.length * 2 := by
 induction ls with
 | nil => rfl
 | cons x t ih => simp [rv, Rg.cells] at *; omega
theorem rv_append (a b : List Rg) : rv (a ++ b) = rv a ++ rv b := by simp [rv]
theorem rgAt {w : World} {B : Nat} {A : Option Addr} {ls : List Rg} (h : Sl w B A (rv ls)) {k : Nat} (hk : k < ls.length) :
  ∃ b o, A = some ⟨b, o, none⟩ ∧ b < B ∧ b < w.heap.size ∧ w.cell? ⟨b, o + k * 2, none⟩ = some (.int .i64 (ls[k]?.getD ⟨0, 0⟩).a) ∧ w.cell? ⟨b, o + k * 2 + 1, none⟩ = some (.int .i64 (ls[k]?.getD ⟨0, 0⟩).b) := by
 obtain ⟨b, o, e, h1, h2, hc⟩ := h.at_ (k := k * 2) (by rw [rv_len]; omega)
 have hs : ls[k]? = some (ls[k]'hk) := List.getElem?_eq_getElem hk
 rw [hs]
 exact ⟨b, o, e, h1, h2, hc (k * 2 + 0) _ (rv_get ls k 0 _ hs (by omega)), hc (k * 2 + 1) _ (rv_get ls k 1 _ hs (by omega))⟩
end Go.Proofs.YtaflikgdlkaefaaGreat
