/- Ranges: the document's SpanAdd of whatever list, SpanOf, SpanJoin. -/
import Derived.WalkSmall
import Derived.Laws.BitsAllLaws
import Derived.Maps.OwnSet
import Derived.Maps.RangeWalk
import Derived.Maps.Ext
import Derived.RangeFuncSeq
import Derived.Sort.MapsRangeIn
import Derived.Maps.AppendAt
import Derived.Lib.SliceRun
import Derived.Laws.IdiomCopy
import Derived.ArgAppend
import Derived.Deep.Upon
import Derived.Laws.Tables
import Derived.Great.BuildSlice
import Derived.Test.YtaflikgdlkaefaaGreatT00
import Derived.Test.YtaflikgdlkaefaaGreatT01
import Derived.Test.YtaflikgdlkaefaaGreatT02
import Derived.Test.YtaflikgdlkaefaaGreatT04
namespace Go.Proofs.YtaflikgdlkaefaaGreat
open Go.RowKit Go.Proofs.YtaflikgdlkaefaaGreat.Pl Go.Proofs.YtaflikgdlkaefaaGreat.Sp
set_option maxRecDepth 20000

theorem mergeR_len : ∀ (l : List Rg) (r : Rg), (mergeR l r).2.length ≤ l.length
 | [], r => by simp [mergeR]
 | x :: t, r => by
  rw [mergeR]
  split
  ·have := mergeR_len t ⟨min r.a x.a, max r.b x.b⟩
   rw [List.length_cons]; omega
  ·exact Nat.le_refl _
theorem addR_len : ∀ (l : List Rg) (r : Rg), (addR l r).length ≤ l.length + 1
 | [], r => by simp [addR]
 | x :: t, r => by
  rw [addR]
  split
  ·have := addR_len t r
   rw [List.length_cons, List.length_cons]; omega
  ·have := mergeR_len (x :: t) r
   rw [List.length_cons]; omega
def addS (l : List Rg) (r : Rg) : List Rg := if right l = true ∧ r.ok = true then addR l r else []
set_option maxRecDepth 100000 in
theorem RRAdd_any (w : World) (A : Option Addr) (n c : Nat) (l : List Rg) (r : Rg) (hb : Sl w w.heap.size A (rv l)) (h0 : n = l.length) (hl : n ≤ 10000000) (hc : n ≤ c) (hcm : c ≤ maxLen) :
  Calls Tryz.prog 70 #[.slice A n c, r.v] w (RAns w (addS l r)) := by
 obtain ⟨p, hp⟩ : ∃ p, right l = p := ⟨_, rfl⟩
 obtain ⟨q, hq⟩ : ∃ q, r.ok = q := ⟨_, rfl⟩
 have hb0 := boxR w r
 have hst0 := StandsR.new w 58 r
 have HL := Lib.hid (fun W (hW : Below w.heap.size w W) => RRRight_any W A n c l ((hb.below hW).more hW.size) h0 (by omega))
 have HR := Lib.hid (fun W g (hW : Sl W W.heap.size (some ⟨g, 0, none⟩) (rv [r])) => RRRight_any W (some ⟨g, 0, none⟩) 1 1 [r] hW rfl (by omega))
 rw [right_one_ok, hq] at HR
 rw [hp] at HL
 cases p with
 | false =>
  have HJ := Lib.hid (show addS l r = [] by rw [addS, if_neg (by rw [hp]; simp)])
  clear hp hq hb h0 HR hc hcm hst0
  unfold Rg.v
  go_enter Tryz.func70, Tryz.ntmps70
  go_wp2_with fail
  refine (HL.out _ hb0).mono ?_
  rintro e w1 ⟨rfl, h1⟩
  have hbz := hb0.trans (h1.mono hb0.size)
  go_wp2_with fail
  go_ret
  rw [HJ.out]
  exact RAns.nil hbz
 | true =>
  cases q with
  | false =>
   have HJ := Lib.hid (show addS l r = [] by rw [addS, if_neg (by rw [hq]; simp)])
   clear hp hq hb h0 hc hcm
   unfold Rg.v
   go_enter Tryz.func70, Tryz.ntmps70
   go_wp2_with fail
   refine (HL.out _ hb0).mono ?_
   rintro e w1 ⟨rfl, h1⟩
   have hst1 := hst0.below h1
   have hbz1 := hb0.trans (h1.mono hb0.size)
   clear hst0 hb0 h1
   generalize hgb : w.heap.size = gb at hst1 ⊢
   have m0 := hst1.2.1
   have m1 := hst1.2.2.1
   go_wp2_with fail
   refine (HR.out _ _ (Sl.oneR w1 r)).mono ?_
   rintro e w2 ⟨rfl, h2⟩
   have hb1 := hbz1.alloc hbz1.size (.cells #[.int .i64 r.a, .int .i64 r.b] 58)
   have hbz2 := hb1.trans (h2.mono hb1.size)
   clear h2 hb1 hst1 m0 m1 hbz1 hgb
   go_wp2_with fail
   go_ret
   rw [HJ.out]
   exact RAns.nil hbz2
  | true =>
   rw [addS, if_pos ⟨hp, hq⟩]
   exact RRAddOk_any w A n c l r hb h0 hl hc hcm hp hq
theorem ofS_len (l : List Int) : (ofS l).length ≤ l.length := by
 have h : ∀ (l : List Int) (o : List Rg), (l.foldl (fun o n => if numOk n = true then addR o ⟨n, n⟩ else o) o).length ≤ o.length + l.length := by
  intro l
  induction l with
  | nil => intro o; simp
  | cons x t ih =>
   intro o
   rw [List.foldl_cons, List.length_cons]
   have h1 := ih (if numOk x = true then addR o ⟨x, x⟩ else o)
   have h2 := addR_len o ⟨x, x⟩
   split at h1 <;> split <;> first | omega | contradiction
 have := h l []
 unfold ofS
 simpa using this
end Go.Proofs.YtaflikgdlkaefaaGreat
/- Ranges: the document's SpanJoin. -/
namespace Go.Proofs.YtaflikgdlkaefaaGreat
open Go.RowKit Go.Proofs.YtaflikgdlkaefaaGreat.Pl Go.Proofs.YtaflikgdlkaefaaGreat.Sp
set_option maxRecDepth 20000

end Go.Proofs.YtaflikgdlkaefaaGreat
/- Ranges: the document's SpanMinus. -/
namespace Go.Proofs.YtaflikgdlkaefaaGreat
open Go.RowKit Go.Proofs.YtaflikgdlkaefaaGreat.Pl Go.Proofs.YtaflikgdlkaefaaGreat.Sp
set_option maxRecDepth 20000

end Go.Proofs.YtaflikgdlkaefaaGreat
/- Rows of int64 of the call's own: append. -/
namespace Go.Proofs.YtaflikgdlkaefaaGreat
open Go.RowKit Go.Proofs.YtaflikgdlkaefaaGreat.Pl Go.Proofs.YtaflikgdlkaefaaGreat.Sp
set_option maxRecDepth 20000

abbrev OwnZ (w : World) (base : Nat) (v : Value) (l : List Int) : Prop := w.ownsRow base 2 1 v l.length (zv l)
theorem zinfo : (Tryz.prog.info? 2).map (fun i => (i.zero, i.size, i.bytes)) = some (some (.int .i64 0), 1, 8) := by kernel_rfl
theorem OwnZ.nil (w : World) (base : Nat) : OwnZ w base (.slice none 0 0) [] := World.ownsRow_nil w base _ 1
theorem zv_app (a b : List Int) : zv (a ++ b) = zv a ++ zv b := by simp [zv]
theorem zv_one (l : List Int) : ∀ u ∈ zv l, u.oneCell' = true := by
 intro u hu
 simp only [zv, List.mem_map] at hu
 obtain ⟨c, _, rfl⟩ := hu
 rfl
theorem OwnZ.form {w : World} {base : Nat} {v : Value} {l : List Int} (h : OwnZ w base v l) : ∃ A c, v = .slice A l.length c ∧ Sl w w.heap.size A (zv l) ∧ l.length ≤ c ∧ c ≤ maxLen := by
 rcases h.2 with ⟨rfl, hn⟩ | ⟨g, cap, cur, rfl, hb, hg, hn, hm, hcs, ht⟩
 ·have := List.eq_nil_of_length_eq_zero hn
  subst this
  exact ⟨none, 0, rfl, .inl rfl, by simp, by simp [maxLen]⟩
 ·have hlt : g < w.heap.size := (Array.getElem?_eq_some_iff.1 hg).1
  refine ⟨_, cap, rfl, .inr ⟨g, 0, rfl, hlt, hlt, fun j u hu => ?_⟩, hn, hm⟩
  have := h.cells (g := g) rfl j u hu
  rw [Nat.zero_add]
  rw [addr0] at this
  exact this
theorem OwnZ.below {w w' : World} {base : Nat} {v : Value} {l : List Int} (h : OwnZ w base v l) (hb : Below w.heap.size w w') : OwnZ w' base v l :=
 h.kept (row := none) ⟨hb.os, hb.tape, hb.output, hb.size, fun k hk _ => hb.block k hk⟩ (by cases hv : v.ownBlock <;> simp)
theorem run_appZ (w : World) (ty : TypeId) {base : Nat} {v : Value} {l : List Int} (hown : OwnZ w base v l) {B : Nat} {A : Option Addr} {m c : Nat} {k : List Int} (hr : Sl w B A (zv k)) (hm : m = k.length)
  (hl : l.length + k.length ≤ 1000000000) (hbase : base ≤ w.heap.size) :
  ∃ v' w', (Builtin.append_ #[89, 89] ty #[v, .slice A m c]).run Tryz.prog w = .ok v' w' ∧ OwnZ w' base v' (l ++ k) ∧ w.grownBy w' v.ownBlock ∧ (v'.ownBlock = v.ownBlock ∨ v'.ownBlock = some w.heap.size) := by
 subst hm
 obtain ⟨i, hi, hz, hz1, hz2⟩ := info_parts zinfo
 rcases A with _ | ad
 ·have hk : k = [] := by
   rcases hr with h | ⟨b, o, h, _⟩
   ·have := zv_len k
    rw [h] at this
    exact List.eq_nil_of_length_eq_zero (by simp at this; omega)
   ·cases h
  subst hk
  refine ⟨v, w, ?_, by simpa using hown, World.grownBy.refl w _, .inl rfl⟩
  rcases hown.2 with ⟨e, h0⟩ | ⟨g, cap', cur, e, hb0, hg0, hnc0, _⟩
  ·subst e
   simp [Builtin.append_, run_underlying Tryz.underlying89, sizeOf, typeInfo, hi, Builtin.lenOf, Builtin.firstCells, loadCells, loadCellsFrom]
  ·subst e
   simp [Builtin.append_, run_underlying Tryz.underlying89, sizeOf, typeInfo, hi, Builtin.lenOf, Builtin.firstCells, loadCells, loadCellsFrom, hnc0, storeCells]
 ·obtain ⟨v', w', hrun, h2, h3, _, h5⟩ := run_append_own_at (P := Tryz.prog) w base 89 ty 2 i (.int .i64 0) 1 8 Tryz.underlying89 hi hz hz1 hz2 rfl (by omega) v l.length (zv l) hown ad k.length c (zv k)
   (by rw [zv_len, Nat.mul_one]) (fun j u hu => by
    rcases hr with h | ⟨b, o, h, _, _, hc⟩
    ·rw [h] at hu; simp at hu
    ·injection h with h
     subst h
     have : (⟨b, o, none⟩ : Addr).add j = ⟨b, o + j, none⟩ := by
      unfold Addr.add
      split
      ·rename_i h0; subst h0; rfl
      ·rfl
     rw [this]; exact hc j u hu) (zv_one k) (by simp only [maxLen]; omega) (by omega) hbase
  exact ⟨v', w', hrun, by rw [OwnZ, zv_app, List.length_append]; exact h2, h3, h5⟩
section
variable {ops : Array Oper} {rest : List Oper} {o : Oper} {a : Act} {Q : Exit → Act → World → Prop} {w : World} {s x : Operand}
theorem wp_appZ {K : Act → World → Prop} (ho : o.op = .call { callee := .builtin .append, args := #[s, x], argTypes := #[89, 89] })
  {base : Nat} {v : Value} {l : List Int} (hown : OwnZ w base v l) {B : Nat} {A : Option Addr} {m c : Nat} {k : List Int} (hr : Sl w B A (zv k)) (hm : m = k.length)
  (hs : a.eval s = v) (hx : a.eval x = .slice A m c) (hl : l.length + k.length ≤ 1000000000) (hbase : base ≤ w.heap.size)
  (h : ∀ v' w', OwnZ w' base v' (l ++ k) → w.grownBy w' v.ownBlock → (v'.ownBlock = v.ownBlock ∨ v'.ownBlock = some w.heap.size) → K (a.put o.dst v') w') : o.wp Tryz.prog a w K Q := by
 obtain ⟨v', w', hrun, h2, h3, h4⟩ := run_appZ w o.type hown hr hm hl hbase (c := c)
 unfold Oper.wp execOp
 simp only [ho, resolve, invoke, builtin, Sem.run_bind, Sem.run_pure, Result.andThen_ok, List.map_toArray, List.map_cons, List.map_nil, hs, hx, hrun]
 exact h v' w' h2 h3 h4
end
theorem boxZ (w : World) (x : Int) : Below w.heap.size w (w.alloc (.cells #[.int .i64 x] 2)) := balloc (Below.refl _ _) _
theorem Sl.oneZ (w : World) (x : Int) : Sl (w.alloc (.cells #[.int .i64 x] 2)) (w.alloc (.cells #[.int .i64 x] 2)).heap.size (some ⟨w.heap.size, 0, none⟩) (zv [x]) :=
 (Sl.new w 2 #[.int .i64 x] (0, 0)).more (by simp)
end Go.Proofs.YtaflikgdlkaefaaGreat
/- Ranges: bits. -/
namespace Go.Proofs.YtaflikgdlkaefaaGreat
open Go.RowKit Go.Proofs.YtaflikgdlkaefaaGreat.Pl Go.Proofs.YtaflikgdlkaefaaGreat.Sp
set_option maxRecDepth 20000

def bit (x i : Nat) : Bool := decide (x / 2 ^ i % 2 = 1)
def bl (x : Nat) (base : Int) (k : Nat) : List Int := ((List.range k).filter (bit x)).map fun (i : Nat) => base + 1 + (i : Int)
def bitsR (x : Nat) (base : Int) : List Rg := ofS (bl x base 64)
end Go.Proofs.YtaflikgdlkaefaaGreat
/- Ranges: plain facts for the laws. -/
namespace Go.Proofs.YtaflikgdlkaefaaGreat.Sp
open Go.Proofs.YtaflikgdlkaefaaGreat

end Go.Proofs.YtaflikgdlkaefaaGreat.Sp
/- Ranges: plain facts for 'SpanSets'. -/
namespace Go.Proofs.YtaflikgdlkaefaaGreat.Sp
open Go.Proofs.YtaflikgdlkaefaaGreat

end Go.Proofs.YtaflikgdlkaefaaGreat.Sp
/- Dots: plain mathematics of their bytes and their order. -/
namespace Go.Proofs.YtaflikgdlkaefaaGreat.Dt
open Go.Proofs.YtaflikgdlkaefaaGreat.Pl

structure D2 where
 r : Int
 q : Int
deriving DecidableEq
instance : Inhabited D2 := ⟨⟨0, 0⟩⟩
def D2.right (d : D2) : Bool := decide (0 ≤ d.r ∧ d.r < 64 ∧ 1 ≤ d.q ∧ d.q ≤ 1099511627775)
def D2.lt (a b : D2) : Bool := decide (a.r < b.r ∨ a.r = b.r ∧ a.q < b.q)
def D2.bytes (d : D2) : List UInt8 := if d.right = true then UInt8.ofNat d.r.toNat :: enc d.q.toNat else []
def takeD (b : List UInt8) : D2 × Nat × Nat :=
 match b with
 | [] => (⟨0, 0⟩, 0, 20)
 | c :: t => if 64 ≤ c.toNat then (⟨0, 0⟩, 0, 21) else if (takeS t).2.2 ≠ 0 then (⟨0, 0⟩, 0, (takeS t).2.2)
  else if (takeS t).1 < 1 ∨ (takeS t).1 > 1099511627775 then (⟨0, 0⟩, 0, 21) else (⟨(c.toNat : Int), ((takeS t).1 : Int)⟩, (takeS t).2.1 + 1, 0)
theorem right_iff {d : D2} : d.right = true ↔ 0 ≤ d.r ∧ d.r < 64 ∧ 1 ≤ d.q ∧ d.q ≤ 1099511627775 := by simp [D2.right]
/-! ### the order -/
theorem lt_iff {a b : D2} : a.lt b = true ↔ a.r < b.r ∨ a.r = b.r ∧ a.q < b.q := by simp [D2.lt]
theorem lt_trans {a b c : D2} (h : a.lt b = true) (h' : b.lt c = true) : a.lt c = true := by rw [lt_iff] at *; omega
/-- rising: each above the one ahead -/
def Rise (l : List D2) : Prop := l.Pairwise fun a b => a.lt b = true
/-- one dot into a rising list -/
def insD : List D2 → D2 → List D2
 | [], x => [x]
 | y :: l, x => if y.lt x = true then y :: insD l x else if y = x then y :: l else x :: y :: l
def sortD (l : List D2) : List D2 := l.foldl insD []
/-- neighbours that are one, once -/
def cmpD : List D2 → List D2
 | [] => []
 | [x] => [x]
 | x :: y :: l => if x = y then cmpD (y :: l) else x :: cmpD (y :: l)
end Go.Proofs.YtaflikgdlkaefaaGreat.Dt
/- Maps whose elements are plain values, as lists of pairs. -/
namespace Go.Proofs.YtaflikgdlkaefaaGreat
open Go.RowKit Go.Maps

/-- a map's type: how its keys and its elements stand as values of Lean's -/
structure MT (P : Program) (t k e : TypeId) (α β : Type) where
 mkK : α → Value
 okK : α → Prop
 litK : α → Lit
 mkV : β → Value
 enc : β → DataW Unit
 dec : Value → Option β
 zero : β
 ty : P.underlying t = some (.map k e)
 keyed : Keyed P k
 key : ∀ x, okK x → keyOf P k (mkK x) = some (litK x)
 keyInv : ∀ v l, keyOf P k v = some l → ∃ x, okK x ∧ v = mkK x
 litInj : ∀ x y, okK x → okK y → litK x = litK y → x = y
 decMk : ∀ c, dec (mkV c) = some c
 mkDec : ∀ v c, dec v = some c → v = mkV c
 encInj : ∀ c d, enc c = enc d → c = d
 zeroV : ∀ w, (zeroValue e).run P w = .ok (mkV zero) w

section
variable {P : Program} {t k e : TypeId} {α β : Type}
def MT.R (T : MT P t k e α β) (v : Value) : Option (DataW Unit × List MemPlace) := (T.dec v).map fun c => (T.enc c, [])
def MT.ent (T : MT P t k e α β) (p : α × β) : Lit × DataW Unit := (T.litK p.1, T.enc p.2)
def MapIs (T : MT P t k e α β) (w : World) (b : Nat) (L : List (α × β)) : Prop := (∀ p ∈ L, T.okK p.1) ∧ ∃ es, w.ownsMap P k T.R b L.length (.map es) ∧ es.Perm (L.map T.ent)
def look [DecidableEq α] (L : List (α × β)) (x : α) : Option β := (L.find? fun p => p.1 = x).map (·.2)
def putA [DecidableEq α] (L : List (α × β)) (x : α) (c : β) : List (α × β) := (x, c) :: L.filter fun p => p.1 ≠ x
variable {T : MT P t k e α β} {w w' : World} {b : Nat} {L : List (α × β)}
theorem owns_len {R : Value → Option (DataW Unit × List MemPlace)} {n : Nat} {es : List (Lit × DataW Unit)} (h : w.ownsMap P k R b n (.map es)) : w.ownsMap P k R b es.length (.map es) := by
 obtain ⟨a, clock, h1, h2, _, h4⟩ := h
 refine ⟨a, clock, h1, h2, ?_, h4⟩
 injection h4 with h5
 rw [h5, length_sorted]
 simp
theorem MT.isKey (T : MT P t k e α β) {x : α} (hx : T.okK x) : WideAt.IsKeyLit (T.litK x) := T.keyed.key (T.key x hx)
theorem MapIs.lt (h : MapIs T w b L) : b < w.heap.size := by obtain ⟨_, es, h1, _⟩ := h; exact h1.lt
theorem MapIs.kept (h : MapIs T w b L) {row : Option Nat} (hg : w.grownBy w' row) (hne : some b ≠ row) : MapIs T w' b L := by
 obtain ⟨h0, es, h1, h2⟩ := h
 exact ⟨h0, es, h1.kept hg hne, h2⟩
theorem MapIs.below (h : MapIs T w b L) (hb : Below w.heap.size w w') : MapIs T w' b L :=
 h.kept (row := none) ⟨hb.os, hb.tape, hb.output, hb.size, fun i hi _ => hb.block i hi⟩ (by simp)
theorem MapIs.setCell (h : MapIs T w b L) {a : Addr} (ha : b ≠ a.block) (u : Value) : MapIs T (w.setCell a u) b L := by
 obtain ⟨h0, es, h1, h2⟩ := h
 exact ⟨h0, es, h1.setCell ha u, h2⟩
theorem MapIs.made (T : MT P t k e α β) (w : World) : MapIs T (w.alloc (.map #[] 0)) w.heap.size [] :=
 ⟨fun p h => by simp at h, [], w.ownsMap_made P k T.R, List.Perm.nil⟩
theorem MapIs.apart (h : MapIs T w b L) : L.Pairwise fun p q => p.1 ≠ q.1 := by
 obtain ⟨h0, es, h1, h2⟩ := h
 obtain ⟨es', e1, hap, _⟩ := h1.entries T.keyed
 injection e1 with e1
 subst e1
 have h3 := (h2.pairwise_iff (R := fun p q : Lit × DataW Unit => p.1 ≠ q.1) (fun {_ _} h => Ne.symm h)).1 hap
 rw [List.pairwise_map] at h3
 exact h3.imp fun {p q} hne e => hne (by simp only [MT.ent]; rw [e])
theorem find_mem [DecidableEq α] {x : α} {c : β} (hap : L.Pairwise fun p q => p.1 ≠ q.1) (h : (x, c) ∈ L) : look L x = some c := by
 unfold look
 cases hf : L.find? (fun p => p.1 = x) with
 | none => exact absurd (List.find?_eq_none.1 hf _ h) (by simp)
 | some q =>
  have hq := List.mem_of_find?_eq_some hf
  have hqx : q.1 = x := by simpa using List.find?_some hf
  have : q = (x, c) := by
   have key : ∀ {l : List (α × β)}, l.Pairwise (fun p q => p.1 ≠ q.1) → ∀ {a b}, a ∈ l → b ∈ l → a.1 = b.1 → a = b := by
    intro l
    induction l with
    | nil => intro _ a b ha; cases ha
    | cons y l ih =>
     intro hp a b ha hb e
     obtain ⟨h1, h2⟩ := List.pairwise_cons.1 hp
     rcases List.mem_cons.1 ha with ea | ha'
     ·rcases List.mem_cons.1 hb with eb | hb'
      ·rw [ea, eb]
      ·exact absurd (ea ▸ e) (h1 b hb')
     ·rcases List.mem_cons.1 hb with eb | hb'
      ·exact absurd (eb ▸ e).symm (h1 a ha')
      ·exact ih h2 ha' hb' e
   exact key hap hq h (by rw [hqx])
  simp [this]
theorem look_mem [DecidableEq α] {x : α} {c : β} (h : look L x = some c) : (x, c) ∈ L := by
 unfold look at h
 cases hf : L.find? (fun p => p.1 = x) with
 | none => rw [hf] at h; cases h
 | some q =>
  rw [hf] at h
  simp only [Option.map_some, Option.some.injEq] at h
  have hq := List.mem_of_find?_eq_some hf
  have hqx : q.1 = x := by simpa using List.find?_some hf
  rw [← hqx, ← h]
  exact hq
theorem look_none [DecidableEq α] {x : α} (h : look L x = none) : ∀ p ∈ L, p.1 ≠ x := by
 unfold look at h
 simp only [Option.map_eq_none_iff] at h
 intro p hp e
 exact absurd (List.find?_eq_none.1 h p hp) (by simp [e])
/-- m[x] = c -/
theorem MapIs.store_run [DecidableEq α] (h : MapIs T w b L) (hn : L.length < maxLen) {x : α} (hx : T.okK x) (c : β) : ∃ w', (Instr.mapUpdate t (.map (some b)) (T.mkK x) (T.mkV c)).run P w = .ok () w' ∧ MapIs T w' b (putA L x c) ∧ w.mapTurned w' b := by
 obtain ⟨h0, es, h1, h2⟩ := h
 obtain ⟨w', hrun, ho, ht⟩ := h1.store T.keyed T.ty hn (T.key x hx) (val := T.mkV c) (d := T.enc c) (ps := []) (by simp [MT.R, T.decMk])
 have hD : (DataW.map es).put (T.litK x) (T.enc c) = .map (DataW.insert (T.litK x, T.enc c) (es.filter fun p => !p.1.sameKey (T.litK x))) := rfl
 rw [hD] at ho
 have hp : (DataW.insert (T.litK x, T.enc c) (es.filter fun p => !p.1.sameKey (T.litK x))).Perm ((putA L x c).map T.ent) := by
  refine (WideShapes.insert_perm _ _).trans ?_
  unfold putA
  rw [List.map_cons]
  refine List.Perm.cons _ ?_
  refine (h2.filter _).trans ?_
  rw [List.filter_map]
  refine List.Perm.of_eq ?_
  congr 1
  refine List.filter_congr fun p hp => ?_
  simp only [Function.comp, MT.ent]
  by_cases e : p.1 = x
  ·subst e
   simp [WideAt.sameKey_self (T.isKey hx)]
  ·have : (T.litK p.1).sameKey (T.litK x) = false := by
    cases hs : (T.litK p.1).sameKey (T.litK x)
    ·rfl
    ·exact absurd (T.litInj _ _ (h0 p hp) hx (WideAt.sameKey_eq hs)) e
   simp [this, e]
 refine ⟨w', hrun, ⟨?_, _, ?_, hp⟩, ht⟩
 ·intro p hp
  rcases List.mem_cons.1 hp with rfl | hp
  ·exact hx
  ·exact h0 p (List.mem_filter.1 hp).1
 ·have := owns_len ho
  rw [hp.length_eq, List.length_map] at this
  exact this
/-- a range over a map under way: rem are the keys to come -/
def RangeIs [DecidableEq α] (T : MT P t k e α β) (w : World) (b r : Nat) (L : List (α × β)) (rem : List α) : Prop := (∀ p ∈ L, T.okK p.1) ∧ ∃ es left cnt, w.ranges P k T.R b r L.length (.map es) left cnt ∧ es.Perm (L.map T.ent) ∧ rem.Nodup ∧ (∀ x ∈ rem, ∃ c, (x, c) ∈ L) ∧ (∀ x, T.okK x → left (T.litK x) = decide (x ∈ rem))
theorem RangeIs.owns [DecidableEq α] {r : Nat} {rem : List α} (h : RangeIs T w b r L rem) : MapIs T w b L := by
 obtain ⟨h0, es, left, cnt, h1, h2, _⟩ := h
 exact ⟨h0, es, h1.owns, h2⟩
theorem RangeIs.kept [DecidableEq α] {r : Nat} {rem : List α} (h : RangeIs T w b r L rem) {row : Option Nat} (hg : w.grownBy w' row) (hne : some b ≠ row) (hne2 : some r ≠ row) : RangeIs T w' b r L rem := by
 obtain ⟨h0, es, left, cnt, h1, h2⟩ := h
 exact ⟨h0, es, left, cnt, h1.kept hg hne hne2, h2⟩
theorem RangeIs.lt [DecidableEq α] {r : Nat} {rem : List α} (h : RangeIs T w b r L rem) : r < w.heap.size := by obtain ⟨_, _, _, _, h1, _⟩ := h; exact h1.lt
/-- range m -/
theorem MapIs.range_run [DecidableEq α] (h : MapIs T w b L) : ∃ w', (Instr.range t (.map (some b))).run P w = .ok (.pointer (some ⟨w.heap.size, 0, none⟩)) w' ∧ RangeIs T w' b w.heap.size L (L.map (·.1)) ∧ w.grownBy w' none ∧ w'.heap.size = w.heap.size + 1 := by
 have hap := h.apart
 obtain ⟨h0, es, h1, h2⟩ := h
 obtain ⟨w', hrun, hr, hg, hs⟩ := h1.range T.keyed T.ty
 obtain ⟨es', e1, hape, _⟩ := h1.entries T.keyed
 injection e1 with e1
 subst e1
 refine ⟨w', hrun, ⟨h0, es, _, _, hr, h2, ?_, ?_, ?_⟩, hg, hs⟩
 ·exact List.pairwise_map.2 hap
 ·intro x hx
  obtain ⟨p, hp, rfl⟩ := List.mem_map.1 hx
  exact ⟨p.2, hp⟩
 ·intro x hx
  by_cases hm : x ∈ L.map (·.1)
  ·rw [decide_eq_true hm]
   obtain ⟨p, hp, rfl⟩ := List.mem_map.1 hm
   have hme : (T.litK p.1, T.enc p.2) ∈ es := h2.mem_iff.2 (List.mem_map.2 ⟨p, hp, rfl⟩)
   exact Maps.has_true_of_atKey fun z => WideAt.atKey_mem z (T.isKey hx) hape hme
  ·rw [decide_eq_false hm]
   refine Maps.has_false_of_atKey fun z => WideAt.atKey_none z fun q hq e => hm ?_
   obtain ⟨p, hp, rfl⟩ := List.mem_map.1 (h2.mem_iff.1 hq)
   exact List.mem_map.2 ⟨p, hp, T.litInj _ _ (h0 p hp) hx e⟩
/-- the step -/
theorem RangeIs.next_run [DecidableEq α] {r : Nat} {rem : List α} (h : RangeIs T w b r L rem) (ty : TypeId) :
  (rem = [] ∧ (Instr.next (.pointer (some ⟨r, 0, none⟩)) false ty).run P w = .ok (.tuple #[.bool false]) w) ∨
  ∃ x c w', x ∈ rem ∧ T.okK x ∧ look L x = some c ∧ (Instr.next (.pointer (some ⟨r, 0, none⟩)) false ty).run P w = .ok (.tuple #[.bool true, T.mkK x, T.mkV c]) w' ∧
   RangeIs T w' b r L (rem.erase x) ∧ w.grownBy w' (some r) ∧ w'.heap.size = w.heap.size ∧ (Instr.entry (.pointer (some ⟨r, 0, none⟩))).run P w' = .ok (.tuple #[T.mkK x, T.mkV c]) w' ∧ w'.rangeLeft b r < w.rangeLeft b r := by
 have hap := h.owns.apart
 obtain ⟨h0, es, left, cnt, h1, h2, h3, h4, h5⟩ := h
 obtain ⟨es', e1, hape, _⟩ := h1.owns.entries T.keyed
 injection e1 with e1
 subst e1
 rcases h1.next T.keyed ty with ⟨_, hl, hrun⟩ | ⟨key, v, kl, y, w', cnt', hkey, hlk, hv, hat, hrun, hrg, hlt, hgr, hsz, hen⟩
 ·refine .inl ⟨?_, hrun⟩
  cases rem with
  | nil => rfl
  | cons x rem =>
   obtain ⟨c, hc⟩ := h4 x (by simp)
   have := h5 x (h0 _ hc)
   rw [hl] at this
   simp at this
 ·obtain ⟨x, hx, rfl⟩ := T.keyInv key kl hkey
  have hkl : kl = T.litK x := Option.some.inj (hkey.symm.trans (T.key x hx))
  subst hkl
  have hxr : x ∈ rem := by
   have := h5 x hx
   rw [hlk] at this
   simpa using this.symm
  obtain ⟨c, hc⟩ := h4 x hxr
  simp only [MT.R, Option.map_eq_some_iff] at hv
  obtain ⟨d, hd, hd2⟩ := hv
  have hv2 := T.mkDec v d hd
  have hme : (T.litK x, T.enc c) ∈ es := h2.mem_iff.2 (List.mem_map.2 ⟨(x, c), hc, rfl⟩)
  have hac := WideAt.atKey_mem (H := Unit) .nil (T.isKey hx) hape hme
  have hdc : d = c := T.encInj _ _ (by
   have h6 := (hat .nil).symm.trans hac
   rw [← hd2] at h6
   exact h6)
  subst hdc
  rw [hv2] at hrun hen
  refine .inr ⟨x, d, w', hxr, hx, find_mem hap hc, hrun, ⟨h0, es, _, _, hrg, h2, h3.erase x, fun y hy => h4 y (List.mem_of_mem_erase hy), fun y hy => ?_⟩, hgr, hsz, hen, by rw [hrg.left_eq, h1.left_eq]; exact hlt⟩
  show (left (T.litK y) && !(T.litK y).sameKey (T.litK x)) = _
  rw [h5 y hy]
  by_cases e : y = x
  ·subst e
   have : ¬ y ∈ rem.erase y := fun hm => (h3.mem_erase_iff.1 hm).1 rfl
   simp [WideAt.sameKey_self (T.isKey hx), this]
  ·have h7 : (T.litK y).sameKey (T.litK x) = false := by
    cases hs : (T.litK y).sameKey (T.litK x)
    ·rfl
    ·exact absurd (T.litInj _ _ hy hx (WideAt.sameKey_eq hs)) e
   rw [h7]
   simp [h3.mem_erase_iff, e]
end
end Go.Proofs.YtaflikgdlkaefaaGreat
/- Maps as lists of pairs: the operations in the walk. -/
namespace Go.Proofs.YtaflikgdlkaefaaGreat
open Go.RowKit Go.Maps

section
variable {P : Program} {t k e : TypeId} {α β : Type} {T : MT P t k e α β} {w w' : World} {b : Nat} {L : List (α × β)}
/-- v := m[x] -/
theorem MapIs.look1_run [DecidableEq α] (h : MapIs T w b L) {x : α} (hx : T.okK x) : (Instr.lookup t (.map (some b)) (T.mkK x) false).run P w = .ok (T.mkV ((look L x).getD T.zero)) w := by
 have hap := h.apart
 obtain ⟨h0, es, h1, h2⟩ := h
 have hR0 : T.R (T.mkV T.zero) = some (T.enc T.zero, []) := by simp [MT.R, T.decMk]
 obtain ⟨v, ps, hrun, hv⟩ := h1.lookup T.keyed T.ty (T.zeroV w) hR0 (T.key x hx)
 obtain ⟨es', e1, hape, _⟩ := h1.entries T.keyed
 injection e1 with e1
 subst e1
 simp only [MT.R, Option.map_eq_some_iff] at hv
 obtain ⟨d, hd, hd2⟩ := hv
 have hv2 := T.mkDec v d hd
 simp only [Prod.mk.injEq] at hd2
 rw [hrun]
 cases hl : look L x with
 | none =>
  have hno : ∀ q ∈ es, q.1 ≠ T.litK x := by
   intro q hq e
   obtain ⟨p, hp, rfl⟩ := List.mem_map.1 (h2.mem_iff.1 hq)
   exact look_none hl p hp (T.litInj _ _ (h0 p hp) hx e)
  rw [WideAt.atKey_none _ hno] at hd2
  have hdz : d = T.zero := T.encInj _ _ hd2.1
  rw [hv2, hdz]
  rfl
 | some y =>
  have hm : (T.litK x, T.enc y) ∈ es := h2.mem_iff.2 (List.mem_map.2 ⟨(x, y), look_mem hl, rfl⟩)
  rw [WideAt.atKey_mem _ (T.isKey hx) hape hm] at hd2
  have hdz : d = y := T.encInj _ _ hd2.1.symm |>.symm ▸ rfl
  rw [hv2, hdz]
  rfl
def delA [DecidableEq α] (L : List (α × β)) (x : α) : List (α × β) := L.filter fun p => p.1 ≠ x
theorem MapIs.drew (h : MapIs T w b L) : MapIs T w.drew b L := h
theorem MapIs.notCells (h : MapIs T w b L) {cs : Array Value} {ty : TypeId} {fr : Nat × Nat} : w.heap[b]? ≠ some (.cells cs ty fr) := by
 obtain ⟨_, es, ⟨es', clock, hb, _⟩, _⟩ := h
 rw [hb]; simp
theorem decOf_ex {β : Type} (mk : β → Value) : ∃ dec : Value → Option β, (∀ v c, dec v = some c → v = mk c) ∧ ((∀ a b, mk a = mk b → a = b) → ∀ c, dec (mk c) = some c) := by
 classical
 refine ⟨fun v => if h : ∃ c, mk c = v then some h.choose else none, fun v c h => ?_, fun hi c => ?_⟩
 ·dsimp only at h
  split at h
  ·rename_i hh
   have := hh.choose_spec
   injection h with h
   rw [h] at this
   exact this.symm
  ·cases h
 ·have hh : ∃ c', mk c' = mk c := ⟨c, rfl⟩
  dsimp only
  rw [dif_pos hh]
  exact congrArg some (hi _ _ hh.choose_spec)
noncomputable def decOf {β : Type} (mk : β → Value) : Value → Option β := (decOf_ex mk).choose
theorem mk_decOf {β : Type} {mk : β → Value} {v : Value} {c : β} (h : decOf mk v = some c) : v = mk c := (decOf_ex mk).choose_spec.1 v c h
theorem decOf_mk {β : Type} {mk : β → Value} (hi : ∀ a b, mk a = mk b → a = b) (c : β) : decOf mk (mk c) = some c := (decOf_ex mk).choose_spec.2 hi c
/-! ### at the operation -/
section
variable {ops : Array Oper} {rest : List Oper} {o : Oper} {a : Act} {Q : Exit → Act → World → Prop} {m x y : Operand}
theorem mput [DecidableEq α] (hg : o.guard = none) (ho : o.op = .mapUpdate t m x y) (h : MapIs T w b L) (hn : L.length < maxLen) (hm : a.eval m = .map (some b)) {c : α} (hx : a.eval x = T.mkK c) (hc : T.okK c) {d : β} (hy : a.eval y = T.mkV d)
  (hK : ∀ w', MapIs T w' b (putA L c d) → w.mapTurned w' b → wpList P ops Q rest (a.put o.dst undef) w') : wpList P ops Q (o :: rest) a w := by
 refine wpList_plain hg fun K' hK' => ?_
 obtain ⟨w', hrun, h1, h2⟩ := h.store_run hn hc d
 unfold Oper.wp
 simp [execOp, ho, hm, hx, hy, hrun, Result.andThen]
 exact hK' _ _ (hK w' h1 h2)
theorem wp_mput [DecidableEq α] {K : Act → World → Prop} (ho : o.op = .mapUpdate t m x y) (h : MapIs T w b L) (hn : L.length < maxLen) (hm : a.eval m = .map (some b)) {c : α} (hx : a.eval x = T.mkK c) (hc : T.okK c) {d : β} (hy : a.eval y = T.mkV d)
  (hK : ∀ w', MapIs T w' b (putA L c d) → w.mapTurned w' b → K (a.put o.dst undef) w') : o.wp P a w K Q := by
 obtain ⟨w', hrun, h1, h2⟩ := h.store_run hn hc d
 unfold Oper.wp
 simp [execOp, ho, hm, hx, hy, hrun, Result.andThen]
 exact hK w' h1 h2
theorem mrange [DecidableEq α] (hg : o.guard = none) (ho : o.op = .range t m) (h : MapIs T w b L) (hm : a.eval m = .map (some b))
  (hK : ∀ w', RangeIs T w' b w.heap.size L (L.map (·.1)) → w.grownBy w' none → w'.heap.size = w.heap.size + 1 → wpList P ops Q rest (a.put o.dst (.pointer (some ⟨w.heap.size, 0, none⟩))) w') : wpList P ops Q (o :: rest) a w := by
 refine wpList_plain hg fun K' hK' => ?_
 obtain ⟨w', hrun, h1, h2, h3⟩ := h.range_run
 unfold Oper.wp
 simp [execOp, ho, hm, hrun, Result.andThen]
 exact hK' _ _ (hK w' h1 h2 h3)
theorem mnext [DecidableEq α] (hg : o.guard = none) (ho : o.op = .next x false) {r : Nat} {rem : List α} (h : RangeIs T w b r L rem) (hx : a.eval x = .pointer (some ⟨r, 0, none⟩))
  (hD : rem = [] → wpList P ops Q rest (a.put o.dst (.tuple #[.bool false])) w)
  (hM : ∀ c d w', c ∈ rem → T.okK c → look L c = some d → RangeIs T w' b r L (rem.erase c) → w.grownBy w' (some r) → w'.heap.size = w.heap.size → (Instr.entry (.pointer (some ⟨r, 0, none⟩))).run P w' = .ok (.tuple #[T.mkK c, T.mkV d]) w' → w'.rangeLeft b r < w.rangeLeft b r →
   wpList P ops Q rest (a.put o.dst (.tuple #[.bool true, T.mkK c, T.mkV d])) w') : wpList P ops Q (o :: rest) a w := by
 refine wpList_plain hg fun K' hK' => ?_
 unfold Oper.wp
 rcases h.next_run o.type with ⟨h0, hrun⟩ | ⟨c, d, w', hc, hok, hl, hrun, hr, hgr, hsz, hen, hlt⟩
 ·simp [execOp, ho, hx, hrun, Result.andThen]
  exact hK' _ _ (hD h0)
 ·simp [execOp, ho, hx, hrun, Result.andThen]
  exact hK' _ _ (hM c d w' hc hok hl hr hgr hsz hen hlt)
variable {F : Fence} {n : Nat}
end
end
end Go.Proofs.YtaflikgdlkaefaaGreat
/- Vectors: plain mathematics. -/
namespace Go.Proofs.YtaflikgdlkaefaaGreat.Ve
open Go.Proofs.YtaflikgdlkaefaaGreat.Sp Go.Proofs.YtaflikgdlkaefaaGreat.Dt

/-- a vector: its rows -/
abbrev VL := List (Int × List Rg)
def okV (last : Int) : VL → Bool
 | [] => true
 | p :: t => decide (last < p.1) && decide (p.1 < 64) && !p.2.isEmpty && right p.2 && okV p.1 t
def rightV (V : VL) : Bool := okV (-1) V
/-- a replica's ranges -/
def partV (V : VL) (r : Int) : List Rg := (look V r).getD []
def hasV (V : VL) (d : D2) : Bool := rightV V && d.right && hasS (partV V d.r) d.q
def sumV : VL → Int
 | [] => 0
 | p :: t => countS p.2 + sumV t
def countV (V : VL) : Int := if rightV V = true then sumV V else 0
def baseV (V : VL) (r : Int) : Int := if rightV V = true then firstS (partV V r) else 0
/-- the ranges behind the one that begins with 1 -/
def extraS (l : List Rg) : List Rg := if 0 < firstS l then l.drop 1 else l
def extraV (V : VL) (r : Int) : List Rg := if rightV V = true then extraS (partV V r) else []
/-- the vector of each replica's ranges, from lo on, n of them -/
def rowsF (f : Int → List Rg) (lo : Int) : Nat → VL
 | 0 => []
 | n + 1 => if f lo = [] then rowsF f (lo + 1) n else (lo, f lo) :: rowsF f (lo + 1) n
def vecOf (f : Int → List Rg) : VL := rowsF f 0 64
def joinV (a b : VL) : VL := if rightV a = true ∧ rightV b = true then vecOf fun i => joinS (partV a i) (partV b i) else []
def minusV (a b : VL) : VL := if rightV a = true ∧ rightV b = true then vecOf fun i => minusS (partV a i) (partV b i) else []
def seqsOf (l : List D2) (r : Int) : List Int := (l.filter fun d => d.right && decide (d.r = r)).map (·.q)
def ofV (l : List D2) : VL := vecOf fun i => ofS (seqsOf l i)
def addV (V : VL) (d : D2) : VL := if d.right = true then joinV V (ofV [d]) else []
/-- rows rise, none is empty -/
structure Up (V : VL) : Prop where
 rise : V.Pairwise fun p q => p.1 < q.1
 some : ∀ p ∈ V, p.2 ≠ []
theorem okV_cons {last : Int} {p : Int × List Rg} {t : VL} : okV last (p :: t) = true ↔ last < p.1 ∧ p.1 < 64 ∧ p.2 ≠ [] ∧ right p.2 = true ∧ okV p.1 t = true := by
 simp only [okV, Bool.and_eq_true, decide_eq_true_eq, Bool.not_eq_true', List.isEmpty_eq_false_iff, and_assoc]
theorem okV_lt : ∀ {V : VL} {last : Int}, okV last V = true → ∀ p ∈ V, last < p.1 ∧ p.1 < 64 ∧ p.2 ≠ [] ∧ right p.2 = true
 | [], _, _, p, hp => by simp at hp
 | q :: t, last, h, p, hp => by
  obtain ⟨h1, h2, h3, h4, h5⟩ := okV_cons.1 h
  rcases List.mem_cons.1 hp with rfl | hp
  ·exact ⟨h1, h2, h3, h4⟩
  ·have := okV_lt h5 p hp
   exact ⟨by omega, this.2⟩
theorem okV_up : ∀ {V : VL} {last : Int}, okV last V = true → Up V
 | [], _, _ => ⟨.nil, by simp⟩
 | q :: t, last, h => by
  obtain ⟨h1, h2, h3, h4, h5⟩ := okV_cons.1 h
  obtain ⟨k1, k2⟩ := okV_up h5
  refine ⟨.cons (fun p hp => (okV_lt h5 p hp).1) k1, fun p hp => ?_⟩
  rcases List.mem_cons.1 hp with rfl | hp
  ·exact h3
  ·exact k2 p hp
theorem look_cons (p : Int × List Rg) (V : VL) (r : Int) : look (p :: V) r = if p.1 = r then Option.some p.2 else look V r := by
 unfold look
 rw [List.find?_cons]
 by_cases e : p.1 = r <;> simp [e]
theorem look_low {V : VL} {r : Int} (h : ∀ p ∈ V, r < p.1) : look V r = none := by
 induction V with
 | nil => rfl
 | cons p V ih =>
  have h1 := h p (by simp)
  rw [look_cons, if_neg (by omega)]
  exact ih fun q hq => h q (by simp [hq])
/-- a rising vector is told by its parts -/
theorem up_one : ∀ {V W : VL}, Up V → Up W → (∀ r, partV V r = partV W r) → V = W
 | [], [], _, _, _ => rfl
 | [], q :: W, _, h, hp => by
  have := hp q.1
  rw [partV, partV, look_cons, if_pos rfl] at this
  exact absurd this.symm (h.some q (by simp))
 | p :: V, [], h, _, hp => by
  have := hp p.1
  rw [partV, partV, look_cons, if_pos rfl] at this
  exact absurd this (h.some p (by simp))
 | p :: V, q :: W, h, k, hp => by
  obtain ⟨h1, h2⟩ := List.pairwise_cons.1 h.rise
  obtain ⟨k1, k2⟩ := List.pairwise_cons.1 k.rise
  have e : p.1 = q.1 := by
   rcases Int.lt_trichotomy p.1 q.1 with hlt | he | hlt
   ·have := hp p.1
    rw [partV, partV, look_cons, if_pos rfl, look_low (V := q :: W) (fun x hx => by rcases List.mem_cons.1 hx with rfl | hx; exact hlt; exact Int.lt_trans hlt (k1 x hx))] at this
    exact absurd this (h.some p (by simp))
   ·exact he
   ·have := hp q.1
    rw [partV, partV, look_cons (p := q), if_pos rfl, look_low (V := p :: V) (fun x hx => by rcases List.mem_cons.1 hx with rfl | hx; exact hlt; exact Int.lt_trans hlt (h1 x hx))] at this
    exact absurd this.symm (k.some q (by simp))
  have e2 : p.2 = q.2 := by
   have := hp p.1
   rw [partV, partV, look_cons, if_pos rfl, look_cons, if_pos e.symm] at this
   exact this
  have e3 : V = W := up_one ⟨h2, fun x hx => h.some x (by simp [hx])⟩ ⟨k2, fun x hx => k.some x (by simp [hx])⟩ fun r => by
   by_cases hr : p.1 = r
   ·rw [partV, partV, look_low (fun x hx => hr ▸ h1 x hx), look_low (fun x hx => (hr.symm.trans e) ▸ k1 x hx)]
   ·have := hp r
    rw [partV, partV, look_cons, if_neg hr, look_cons, if_neg (fun h => hr (e.trans h))] at this
    exact this
  obtain ⟨p1, p2⟩ := p
  obtain ⟨q1, q2⟩ := q
  simp only at e e2
  rw [e, e2, e3]
theorem rowsF_mem {f : Int → List Rg} : ∀ {n : Nat} {lo : Int} {p : Int × List Rg}, p ∈ rowsF f lo n → lo ≤ p.1 ∧ p.1 < lo + n ∧ p.2 = f p.1 ∧ p.2 ≠ []
 | 0, lo, p, h => by simp [rowsF] at h
 | n + 1, lo, p, h => by
  unfold rowsF at h
  split at h
  ·have := rowsF_mem h
   exact ⟨by omega, by omega, this.2.2⟩
  ·rename_i hne
   rcases List.mem_cons.1 h with rfl | h
   ·exact ⟨by dsimp only; omega, by dsimp only; omega, rfl, hne⟩
   ·have := rowsF_mem h
    exact ⟨by omega, by omega, this.2.2⟩
theorem rowsF_up (f : Int → List Rg) : ∀ (n : Nat) (lo : Int), Up (rowsF f lo n)
 | 0, lo => ⟨.nil, by simp [rowsF]⟩
 | n + 1, lo => by
  obtain ⟨h1, h2⟩ := rowsF_up f n (lo + 1)
  unfold rowsF
  split
  ·exact ⟨h1, h2⟩
  ·rename_i hne
   refine ⟨.cons (fun p hp => by have := (rowsF_mem hp).1; dsimp only; omega) h1, fun p hp => ?_⟩
   rcases List.mem_cons.1 hp with rfl | hp
   ·exact hne
   ·exact h2 p hp
theorem rowsF_part {f : Int → List Rg} : ∀ {n : Nat} {lo r : Int}, partV (rowsF f lo n) r = if lo ≤ r ∧ r < lo + n then f r else []
 | 0, lo, r => by rw [if_neg (by omega)]; rfl
 | n + 1, lo, r => by
  have ih := rowsF_part (f := f) (n := n) (lo := lo + 1) (r := r)
  unfold rowsF
  split
  ·rename_i he
   rw [ih]
   by_cases h : lo = r
   ·subst h; rw [if_neg (by omega), if_pos (by omega), he]
   ·by_cases h2 : lo + 1 ≤ r ∧ r < lo + 1 + (n : Int)
    ·rw [if_pos h2, if_pos (by omega)]
    ·rw [if_neg h2, if_neg (by omega)]
  ·rw [partV, look_cons]
   by_cases h : lo = r
   ·subst h; rw [if_pos rfl, if_pos (by omega)]; rfl
   ·rw [if_neg h]
    change partV (rowsF f (lo + 1) n) r = _
    rw [ih]
    by_cases h2 : lo + 1 ≤ r ∧ r < lo + 1 + (n : Int)
    ·rw [if_pos h2, if_pos (by omega)]
    ·rw [if_neg h2, if_neg (by omega)]
theorem vecOf_part (f : Int → List Rg) (r : Int) : partV (vecOf f) r = if 0 ≤ r ∧ r < 64 then f r else [] := by
 rw [vecOf, rowsF_part]
 by_cases h : 0 ≤ r ∧ r < 64
 ·rw [if_pos (by omega), if_pos h]
 ·rw [if_neg (by omega), if_neg h]
theorem up_ok {V : VL} (h : Up V) {last : Int} (hl : ∀ p ∈ V, last < p.1 ∧ p.1 < 64 ∧ right p.2 = true) : okV last V = true := by
 induction V generalizing last with
 | nil => rfl
 | cons p V ih =>
  obtain ⟨h1, h2⟩ := List.pairwise_cons.1 h.rise
  have hp := hl p (by simp)
  exact okV_cons.2 ⟨hp.1, hp.2.1, h.some p (by simp), hp.2.2, ih ⟨h2, fun x hx => h.some x (by simp [hx])⟩ fun q hq => ⟨h1 q hq, (hl q (by simp [hq])).2⟩⟩
theorem vecOf_right {f : Int → List Rg} (h : ∀ r, 0 ≤ r → r < 64 → right (f r) = true) : rightV (vecOf f) = true :=
 up_ok (rowsF_up f 64 0) fun p hp => by
  obtain ⟨h1, h2, h3, _⟩ := rowsF_mem hp
  exact ⟨by omega, by omega, by rw [h3]; exact h _ h1 (by omega)⟩
theorem ofV_right (l : List D2) : rightV (ofV l) = true := vecOf_right fun r _ _ => ofS_right _
end Go.Proofs.YtaflikgdlkaefaaGreat.Ve
/- Rows of elements of whatever cells (plain ones): rows of the call's own, append, rows turned where they lie. -/
namespace Go.Proofs.YtaflikgdlkaefaaGreat
open Go.RowKit

/-- an element's type: its cells -/
structure ET (P : Program) (t e : TypeId) (α : Type) where
 n : Nat
 bytes : Nat
 cells : α → List Value
 zero : α
 z : Value
 ty : P.underlying t = some (.slice e)
 info : (P.info? e).map (fun i => (i.zero, i.size, i.bytes)) = some (some z, n, bytes)
 zc : z.cells.size = n
 pos : 0 < n
 len : ∀ x, (cells x).length = n
 one : ∀ x, ∀ u ∈ cells x, u.oneCell' = true
 small : bytes ≤ 1000
 ncap : n ≤ 1000 := by omega
section
variable {P : Program} {t e : TypeId} {α : Type}
def ET.dv (E : ET P t e α) (l : List α) : List Value := l.flatMap E.cells
def ET.Own (E : ET P t e α) (w : World) (base : Nat) (v : Value) (l : List α) : Prop := w.ownsRow base e E.n v l.length (E.dv l)
variable {E : ET P t e α}
theorem ET.dv_len (l : List α) : (E.dv l).length = l.length * E.n := by
 induction l with
 | nil => simp [ET.dv]
 | cons x l ih =>
  have : E.dv (x :: l) = E.cells x ++ E.dv l := by simp [ET.dv]
  rw [this, List.length_append, ih, E.len, List.length_cons, Nat.add_mul]
  omega
theorem ET.dv_append (l k : List α) : E.dv (l ++ k) = E.dv l ++ E.dv k := by simp [ET.dv]
theorem ET.dv_cons (x : α) (l : List α) : E.dv (x :: l) = E.cells x ++ E.dv l := by simp [ET.dv]
theorem ET.dv_one (l : List α) : ∀ u ∈ E.dv l, u.oneCell' = true := by
 intro u hu
 obtain ⟨d, _, h⟩ := List.mem_flatMap.1 hu
 exact E.one d u h
theorem ET.dv_get : ∀ (l : List α) (k j : Nat) (s : α), l[k]? = some s → j < E.n → (E.dv l)[k * E.n + j]? = (E.cells s)[j]?
 | [], k, j, s, h, _ => by simp at h
 | x :: l, 0, j, s, h, hj => by
  obtain rfl : x = s := by simpa using h
  rw [ET.dv_cons, Nat.zero_mul, Nat.zero_add, List.getElem?_append_left (by rw [E.len]; exact hj)]
 | x :: l, k + 1, j, s, h, hj => by
  have h' : l[k]? = some s := by simpa using h
  rw [ET.dv_cons, List.getElem?_append_right (by rw [E.len, Nat.add_mul]; omega), E.len]
  rw [show (k + 1) * E.n + j - E.n = k * E.n + j by rw [Nat.add_mul]; omega]
  exact ET.dv_get l k j s h' hj
theorem ET.dv_take (l : List α) (k : Nat) : (E.dv l).take (k * E.n) = E.dv (l.take k) := by
 induction l generalizing k with
 | nil => simp [ET.dv]
 | cons x l ih =>
  cases k with
  | zero => simp [ET.dv]
  | succ k =>
   rw [List.take_succ_cons, ET.dv_cons, ET.dv_cons, ← ih, List.take_append, E.len]
   rw [List.take_of_length_le (by rw [E.len, Nat.add_mul]; omega)]
   congr 2
   rw [Nat.add_mul]; omega
theorem ET.dv_nil_of {l : List α} (h : E.dv l = []) : l = [] := by
 have h1 := E.dv_len l
 rw [h] at h1
 have h2 := E.pos
 cases l with
 | nil => rfl
 | cons x l => rw [List.length_cons, Nat.add_mul] at h1; simp at h1; omega
variable {w w' : World} {base : Nat} {v : Value} {l : List α}
theorem ET.Own.nil (w : World) (base : Nat) : E.Own w base (.slice none 0 0) [] := World.ownsRow_nil w base _ E.n
theorem ET.Own.form (h : E.Own w base v l) : ∃ A c, v = .slice A l.length c ∧ l.length ≤ c ∧ c ≤ maxLen ∧ Sl w w.heap.size A (E.dv l) ∧ (A = none → l = [] ∧ c = 0) ∧ (∀ a, A = some a → base ≤ a.block ∧ a.off = 0 ∧ a.spot = none) := by
 rcases h.2 with ⟨rfl, hn⟩ | ⟨g, cap, cur, rfl, hb, hg, hn, hm, hcs, ht⟩
 ·have := List.eq_nil_of_length_eq_zero hn
  subst this
  exact ⟨none, 0, rfl, by simp, by simp [maxLen], .inl rfl, (fun _ => ⟨rfl, rfl⟩), (fun a h => (by cases h))⟩
 ·have hlt : g < w.heap.size := (Array.getElem?_eq_some_iff.1 hg).1
  refine ⟨_, cap, rfl, hn, hm, .inr ⟨g, 0, rfl, hlt, hlt, fun j u hu => ?_⟩, (fun h => (by cases h)), (fun a h => by cases h; exact ⟨hb, rfl, rfl⟩)⟩
  have := h.cells (g := g) rfl j u hu
  rw [Nat.zero_add]
  rw [addr0] at this
  exact this
theorem ET.Own.below (h : E.Own w base v l) (hb : Below w.heap.size w w') : E.Own w' base v l :=
 World.ownsRow.kept h (row := none) ⟨hb.os, hb.tape, hb.output, hb.size, fun k hk _ => hb.block k hk⟩ (by cases hv : v.ownBlock <;> simp)
theorem ET.Own.keep (h : E.Own w base v l) {row : Option Nat} (hg : w.grownBy w' row) (hne : v.ownBlock = none ∨ v.ownBlock ≠ row) : E.Own w' base v l := World.ownsRow.kept h hg hne
theorem ET.Own.lt' (h : E.Own w base v l) : ∀ g, v.ownBlock = some g → base ≤ g ∧ g < w.heap.size := fun g hg => World.ownsRow.lt h g hg
theorem ET.Own.below_of {wr w1 : World} {x : Value} {B : Nat} {l : List α} (hown : E.Own wr B x l) (hb : Below B w wr) (hB : B ≤ wr.heap.size) (hg : wr.grownBy w1 x.ownBlock) : Below B w w1 :=
 hb.trans (below_of_grown hg (fun g e => (hown.lt' g e).1) hB)
theorem ET.Own.lower {base' : Nat} (h : E.Own w base v l) (hb : base' ≤ base) : E.Own w base' v l := by
 refine ⟨h.1, ?_⟩
 rcases h.2 with h' | ⟨g, cap, cur, e, hg, h'⟩
 ·exact .inl h'
 ·exact .inr ⟨g, cap, cur, e, Nat.le_trans hb hg, h'⟩
theorem ET.Own.lit (w : World) (l : List α) (hm : l.length ≤ maxLen) {us : Array Value} (hu : us.toList = E.dv l) : E.Own (w.alloc (.cells us e)) w.heap.size (.slice (some ⟨w.heap.size, 0, none⟩) l.length l.length) l := by
 have h1 : us.size = l.length * E.n := by rw [← Array.length_toList, hu, E.dv_len]
 have := World.ownsRow_lit (base := w.heap.size) (e := e) (size := E.n) w us l.length (Nat.le_refl _) hm h1
 rw [hu] at this
 exact this
theorem run_appE (w : World) (ty : TypeId) (hown : E.Own w base v l) {B : Nat} {A : Option Addr} {m c : Nat} {k : List α} (hr : Sl w B A (E.dv k)) (hm : m = k.length)
  (hl : l.length + k.length ≤ 100000000000) (hbase : base ≤ w.heap.size) :
  ∃ v' w', (Builtin.append_ #[t, t] ty #[v, .slice A m c]).run P w = .ok v' w' ∧ E.Own w' base v' (l ++ k) ∧ w.grownBy w' v.ownBlock ∧ (v' = .slice none 0 0 ↔ v = .slice none 0 0 ∧ m = 0) ∧ (v'.ownBlock = v.ownBlock ∨ v'.ownBlock = some w.heap.size) := by
 subst hm
 obtain ⟨i, hi, hz, hz1, hz2⟩ := info_parts E.info
 rcases A with _ | ad
 ·have hk : k = [] := by
   rcases hr with h | ⟨b, o, h, _⟩
   ·exact E.dv_nil_of h
   ·cases h
  subst hk
  refine ⟨v, w, ?_, by simpa using hown, World.grownBy.refl w _, by simp, .inl rfl⟩
  rcases hown.2 with ⟨e, h0⟩ | ⟨g, cap', cur, e, hb0, hg0, hnc0, _⟩
  ·subst e
   simp [Builtin.append_, run_underlying E.ty, sizeOf, typeInfo, hi, Builtin.lenOf, Builtin.firstCells, loadCells, loadCellsFrom]
  ·subst e
   simp [Builtin.append_, run_underlying E.ty, sizeOf, typeInfo, hi, Builtin.lenOf, Builtin.firstCells, loadCells, loadCellsFrom, hnc0, storeCells]
 ·have hsm := E.small
  obtain ⟨v', w', hrun, h2, h3, h4, h5⟩ := run_append_own_at (P := P) w base t ty e i E.z E.n E.bytes E.ty hi hz hz1 hz2 E.zc E.pos v l.length (E.dv l) hown ad k.length c (E.dv k)
   (E.dv_len k) (fun j u hu => by
    rcases hr with h | ⟨b, o, h, _, _, hc⟩
    ·rw [h] at hu; simp at hu
    ·injection h with h
     subst h
     have : (⟨b, o, none⟩ : Addr).add j = ⟨b, o + j, none⟩ := by
      unfold Addr.add
      split
      ·rename_i h0; subst h0; rfl
      ·rfl
     rw [this]; exact hc j u hu) (E.dv_one k) (by simp only [maxLen]; omega) (Nat.le_trans (Nat.mul_le_mul_left _ hsm) (by omega)) hbase
  exact ⟨v', w', hrun, by rw [ET.Own, ET.dv_append, List.length_append]; exact h2, h3, h4, h5⟩
section
variable {ops : Array Oper} {rest : List Oper} {o : Oper} {a : Act} {Q : Exit → Act → World → Prop} {w : World} {s x : Operand}
theorem wp_appE {K : Act → World → Prop} (ho : o.op = .call { callee := .builtin .append, args := #[s, x], argTypes := #[t, t] })
  {base : Nat} {v : Value} {l : List α} (hown : E.Own w base v l) {B : Nat} {A : Option Addr} {m c : Nat} {k : List α} (hr : Sl w B A (E.dv k)) (hm : m = k.length)
  (hs : a.eval s = v) (hx : a.eval x = .slice A m c) (hl : l.length + k.length ≤ 100000000000) (hbase : base ≤ w.heap.size)
  (h : ∀ v' w', E.Own w' base v' (l ++ k) → w.grownBy w' v.ownBlock → (v'.ownBlock = v.ownBlock ∨ v'.ownBlock = some w.heap.size) → K (a.put o.dst v') w') : o.wp P a w K Q := by
 obtain ⟨v', w', hrun, h2, h3, _, h4⟩ := run_appE w o.type hown hr hm hl hbase (c := c)
 unfold Oper.wp execOp
 simp only [ho, resolve, invoke, builtin, Sem.run_bind, Sem.run_pure, Result.andThen_ok, List.map_toArray, List.map_cons, List.map_nil, hs, hx, hrun]
 exact h v' w' h2 h3 h4
theorem appE (hgd : o.guard = none) (ho : o.op = .call { callee := .builtin .append, args := #[s, x], argTypes := #[t, t] })
  {base : Nat} {v : Value} {l : List α} (hown : E.Own w base v l) {B : Nat} {A : Option Addr} {m c : Nat} {k : List α} (hr : Sl w B A (E.dv k)) (hm : m = k.length)
  (hs : a.eval s = v) (hx : a.eval x = .slice A m c) (hl : l.length + k.length ≤ 100000000000) (hbase : base ≤ w.heap.size)
  (h : ∀ v' w', E.Own w' base v' (l ++ k) → w.grownBy w' v.ownBlock → (v'.ownBlock = v.ownBlock ∨ v'.ownBlock = some w.heap.size) → wpList P ops Q rest (a.put o.dst v') w') : wpList P ops Q (o :: rest) a w :=
 wpList_plain hgd fun _ hK => wp_appE ho hown hr hm hs hx hl hbase fun v' w' h2 h3 h4 => hK _ _ (h v' w' h2 h3 h4)
end
/-! ### a row that may be turned where it lies -/
def ET.Row (E : ET P t e α) (w : World) (g : Nat) (l : List α) : Prop := g < w.heap.size ∧ ∀ j u, (E.dv l)[j]? = some u → w.cell? ⟨g, j, none⟩ = some u ∧ w.frozen? ⟨g, j, none⟩ = false
theorem ET.Row.below {g : Nat} (h : E.Row w g l) (hb : Below w.heap.size w w') : E.Row w' g l :=
 ⟨Nat.lt_of_lt_of_le h.1 hb.size, fun j u hj => by
  obtain ⟨h1, h2⟩ := h.2 j u hj
  exact ⟨(hb.cell h.1).trans h1, (hb.frozen h.1).trans h2⟩⟩
theorem ET.Row.sl {g : Nat} (h : E.Row w g l) : Sl w w.heap.size (some ⟨g, 0, none⟩) (E.dv l) := At.sl h
theorem ET.Row.take {g : Nat} (h : E.Row w g l) (n : Nat) : E.Row w g (l.take n) := by
 refine ⟨h.1, fun j u hj => h.2 j u ?_⟩
 rw [← ET.dv_take, List.getElem?_take] at hj
 split at hj
 ·exact hj
 ·cases hj
theorem ET.Own.row {g c : Nat} (h : E.Own w base (.slice (some ⟨g, 0, none⟩) l.length c) l) : E.Row w g l := by
 refine ⟨(h.lt' g rfl).2, fun j u hj => ?_⟩
 have hlt : j < (E.dv l).length := (List.getElem?_eq_some_iff.1 hj).1
 rw [E.dv_len] at hlt
 have c0 := World.ownsRow.cellAt h j hlt
 exact ⟨c0.trans hj, World.ownsRow.frozenAt h _⟩
/-- an element's cells in a slice -/
theorem ET.cell_at {B : Nat} {A : Option Addr} (h : Sl w B A (E.dv l)) {k : Nat} {s : α} (hs : l[k]? = some s) : ∃ b o, A = some ⟨b, o, none⟩ ∧ b < w.heap.size ∧ b < B ∧ ∀ j u, (E.cells s)[j]? = some u → w.cell? ⟨b, o + (k * E.n + j), none⟩ = some u := by
 have hk : k < l.length := (List.getElem?_eq_some_iff.1 hs).1
 obtain ⟨b, o, e, h1, h2, hc⟩ := h.at_ (k := 0) (by rw [E.dv_len]; exact Nat.mul_pos (by omega) E.pos)
 refine ⟨b, o, e, h2, h1, fun j u hu => hc _ _ ?_⟩
 have hj : j < E.n := by rw [← E.len s]; exact (List.getElem?_eq_some_iff.1 hu).1
 rw [E.dv_get l k j s hs hj, hu]
theorem ET.dv_set {l : List α} {k : Nat} (hk : k < l.length) (s : α) (j : Nat) : (E.dv (l.set k s))[j]? = if k * E.n ≤ j ∧ j < k * E.n + E.n then (E.cells s)[j - k * E.n]? else (E.dv l)[j]? := by
 have hp := E.pos
 have hlen : (l.set k s).length = l.length := List.length_set
 by_cases hj : j < l.length * E.n
 ·have hq : j / E.n < l.length := by rw [Nat.div_lt_iff_lt_mul hp]; exact hj
  have hm := Nat.mod_lt j hp
  have e : j / E.n * E.n + j % E.n = j := by rw [Nat.mul_comm]; exact Nat.div_add_mod j E.n
  by_cases h : j / E.n = k
  ·have h1 : (l.set k s)[j / E.n]? = some s := by rw [h, List.getElem?_set_self hk]
   have h2 := E.dv_get (l.set k s) (j / E.n) (j % E.n) s h1 hm
   rw [e] at h2
   rw [h] at e
   rw [if_pos (by omega), h2]
   congr 1
   omega
  ·have h1 : (l.set k s)[j / E.n]? = l[j / E.n]? := by rw [List.getElem?_set_ne (fun h' => h h'.symm)]
   obtain ⟨y, hy⟩ : ∃ y, l[j / E.n]? = some y := ⟨_, List.getElem?_eq_getElem hq⟩
   have h2 := E.dv_get (l.set k s) (j / E.n) (j % E.n) y (h1.trans hy) hm
   have h3 := E.dv_get l (j / E.n) (j % E.n) y hy hm
   rw [e] at h2 h3
   rw [if_neg ?_, h2, h3]
   rintro ⟨h4, h5⟩
   apply h
   have h6 : k * E.n < (j / E.n + 1) * E.n := by rw [Nat.add_mul]; omega
   have h7 : j / E.n * E.n < (k + 1) * E.n := by rw [Nat.add_mul]; omega
   have h8 := Nat.lt_of_mul_lt_mul_right h6
   have h9 := Nat.lt_of_mul_lt_mul_right h7
   omega
 ·have h1 : (k + 1) * E.n ≤ l.length * E.n := Nat.mul_le_mul_right _ (by omega)
  rw [Nat.add_mul] at h1
  rw [if_neg (by omega), List.getElem?_eq_none (by rw [E.dv_len, hlen]; omega), List.getElem?_eq_none (by rw [E.dv_len]; omega)]
theorem ET.Row.put {g : Nat} (h : E.Row w g l) {k : Nat} (hk : k < l.length) (s : α) : E.Row (w.setCells g (k * E.n) (E.cells s)) g (l.set k s) := by
 have hsz : ∀ (vs : List Value) (o : Nat) (w : World), (w.setCells g o vs).heap.size = w.heap.size := by
  intro vs
  induction vs with
  | nil => intro o w; rfl
  | cons v vs ih => intro o w; rw [World.setCells, ih]; simp
 have hk1 : (k + 1) * E.n ≤ l.length * E.n := Nat.mul_le_mul_right _ (by omega)
 rw [Nat.add_mul] at hk1
 have hcell : ∀ j, j < l.length * E.n → ∃ u, (E.dv l)[j]? = some u ∧ w.cell? ⟨g, j, none⟩ = some u := fun j hj => by
  have hj' : j < (E.dv l).length := by rw [E.dv_len]; exact hj
  exact ⟨_, List.getElem?_eq_getElem hj', (h.2 j _ (List.getElem?_eq_getElem hj')).1⟩
 refine ⟨by rw [hsz]; exact h.1, fun j u hj => ?_⟩
 have hjl : j < (E.dv (l.set k s)).length := (List.getElem?_eq_some_iff.1 hj).1
 rw [E.dv_len, List.length_set] at hjl
 obtain ⟨u0, hu0, hc0⟩ := hcell j hjl
 refine ⟨?_, by rw [World.frozen?_setCells]; exact (h.2 j u0 hu0).2⟩
 rw [E.dv_set hk] at hj
 by_cases hin : k * E.n ≤ j ∧ j < k * E.n + E.n
 ·rw [if_pos hin] at hj
  have hjs : j - k * E.n < (E.cells s).length := (List.getElem?_eq_some_iff.1 hj).1
  have := World.cell?_setCells_in g (E.cells s) (k * E.n) w (fun i hi => by
   obtain ⟨u1, _, h1⟩ := hcell (k * E.n + i) (by rw [E.len] at hi; omega)
   rw [h1]; rfl) (j - k * E.n) hjs
  rw [show k * E.n + (j - k * E.n) = j by omega] at this
  rw [this, ← hj, List.getElem?_eq_getElem hjs]
 ·rw [if_neg hin] at hj
  rw [World.cell?_setCells_out g (E.cells s) (k * E.n) w _ (fun _ _ => ?_)]
  ·rw [hc0]; rw [hu0] at hj; exact hj
  ·rw [E.len]
   show j < k * E.n ∨ k * E.n + E.n ≤ j
   omega
end
end Go.Proofs.YtaflikgdlkaefaaGreat
/- What is built of parts: slices of one element, structs. -/
namespace Go.Proofs.YtaflikgdlkaefaaGreat
open Go.RowKit

theorem fold_set (off : Nat) : ∀ (us : List Value) (k : Nat) (pre old rest : List Value), old.length = us.length → pre.length = off + k →
  (us.zipIdx k).foldl (fun (cs : Array Value) (p : Value × Nat) => cs.setIfInBounds (off + p.2) p.1) (pre ++ old ++ rest).toArray = (pre ++ us ++ rest).toArray
 | [], k, pre, old, rest, hl, hp => by
  have : old = [] := List.eq_nil_of_length_eq_zero (by simpa using hl)
  subst this
  rfl
 | u :: us, k, pre, [], rest, hl, hp => by simp at hl
 | u :: us, k, pre, o :: old, rest, hl, hp => by
  rw [List.zipIdx_cons, List.foldl_cons]
  have e : (pre ++ o :: old ++ rest).toArray.setIfInBounds (off + k) u = ((pre ++ [u]) ++ old ++ rest).toArray := by
   rw [List.setIfInBounds_toArray, ← hp]
   simp
  simp only [e]
  rw [fold_set off us (k + 1) (pre ++ [u]) old rest (by simpa using hl) (by simp; omega)]
  simp
def numbered : Nat → List (List Value) → List (Nat × Value)
 | _, [] => []
 | k, u :: us => (k, .agg u.toArray) :: numbered (k + 1) us
/-- a part laid where it belongs -/
theorem fill_part (place : Nat → Option (Nat × Nat)) (i : Nat) (v : Value) (us pre old rest : List Value) (parts : List (Nat × Value)) (hp : place i = some (pre.length, us.length)) (hv : v.cells = us.toArray) (ho : old.length = us.length) :
  Instr.fill place (pre ++ old ++ rest).toArray ((i, v) :: parts) = Instr.fill place (pre ++ us ++ rest).toArray parts := by
 rw [Instr.fill, hp]
 simp only
 rw [hv, if_neg (by simp; omega)]
 congr 1
 have h := fold_set pre.length us 0 pre old rest ho rfl
 rw [← Array.foldl_toList, Array.toList_zipIdx]
 exact h
section
variable {P : Program} {t e : TypeId} {α : Type}
theorem ET.run_bs1 (E : ET P t e α) (w : World) (x : α) {v : Value} (hv : v.cells = (E.cells x).toArray) :
  (Instr.buildSlice t 1 #[(0, v)]).run P w = .ok (.slice (some ⟨w.heap.size, 0, none⟩) 1 1) (w.alloc (.cells (E.cells x).toArray e)) := by
 obtain ⟨i, hi, hz, hz1, hz2⟩ := info_parts E.info
 have hp := E.pos
 have hs := E.small
 by_cases hbig : 1 * i.size > 2 ^ 24
 ·exact absurd hbig (by rw [hz1]; have := E.ncap; omega)
 refine run_buildSlice w t e 1 _ _ i E.z E.ty hi hz hbig (by rw [hz1]; omega) ?_
 obtain ⟨Z, hZ⟩ : ∃ Z : List Value, Z.toArray = Array.map (fun (k : Nat) => E.z.cells[k % E.z.cells.size]!) (Array.range (1 * i.size)) := ⟨(Array.map (fun (k : Nat) => E.z.cells[k % E.z.cells.size]!) (Array.range (1 * i.size))).toList, Array.toArray_toList⟩
 have hZl : Z.length = i.size := by
  have := congrArg Array.size hZ
  simpa using this
 rw [← hZ]
 have h := fill_part (fun k => some (k * i.size, i.size)) 0 v (E.cells x) [] Z [] [] (by simp [hz1, E.len]) hv (by rw [hZl, hz1, E.len])
 simp only [List.nil_append, List.append_nil] at h
 rw [h]
 rfl
variable {o : Oper} {a : Act} {w : World} {x : Operand}
theorem ET.ex_bs1 (E : ET P t e α) (ho : o.op = .buildSlice t 1 #[(0, x)]) (c : α) (hx : (a.eval x).cells = (E.cells c).toArray) :
  (execOp a.eval o).run P w = .ok (.value (.slice (some ⟨w.heap.size, 0, none⟩) 1 1)) (w.alloc (.cells (E.cells c).toArray e)) := by
 have := E.run_bs1 w c hx
 simp [execOp, ho, this]
theorem ET.own1 (E : ET P t e α) (w : World) (c : α) : E.Own (w.alloc (.cells (E.cells c).toArray e)) w.heap.size (.slice (some ⟨w.heap.size, 0, none⟩) 1 1) [c] :=
 ET.Own.lit w [c] (by simp [maxLen]) (by simp [ET.dv])
end
end Go.Proofs.YtaflikgdlkaefaaGreat
/- Rows of elements: slices of slices (s[:j:j], s[j:]), stores of an element. -/
namespace Go.Proofs.YtaflikgdlkaefaaGreat
open Go.RowKit

section
variable {P : Program} {t e : TypeId} {α : Type}
theorem ET.size (E : ET P t e α) : ∃ i, P.info? e = some i ∧ i.size = E.n := by
 obtain ⟨i, hi, hz, hz1, hz2⟩ := info_parts E.info
 exact ⟨i, hi, hz1⟩
theorem ET.sizeOf (E : ET P t e α) (w : World) : (sizeOf e).run P w = .ok E.n w := by
 obtain ⟨i, hi, hs⟩ := E.size
 simp [Go.sizeOf, typeInfo, hi, hs]
variable {a : Act} {o : Oper} {x y z : Operand}
end
end Go.Proofs.YtaflikgdlkaefaaGreat
/- Vectors in memory. -/
namespace Go.Proofs.YtaflikgdlkaefaaGreat
open Go.RowKit Go.Proofs.YtaflikgdlkaefaaGreat.Sp Go.Proofs.YtaflikgdlkaefaaGreat.Ve
set_option maxRecDepth 20000

/-- a row as it lies -/
structure RA where
 r : Int
 A : Option Addr
 c : Nat
 l : List Rg
def RA.cells (q : RA) : List Value := [.int .i64 q.r, .slice q.A q.l.length q.c]
def RA.p (q : RA) : Int × List Rg := (q.r, q.l)
theorem rowinfo : (Tryz.prog.info? 60).map (fun i => (i.zero, i.size, i.bytes)) = some (some (.agg #[.int .i64 0, .slice none 0 0]), 2, 32) := by kernel_rfl
def z0RA : RA := ⟨0, none, 0, []⟩
def EV : ET Tryz.prog 22 60 RA := {
 n := 2
 bytes := 32
 cells := RA.cells
 zero := z0RA
 z := .agg #[.int .i64 0, .slice none 0 0]
 ty := Tryz.underlying22
 info := rowinfo
 zc := rfl
 pos := by omega
 len := fun _ => rfl
 one := fun x u hu => by
  simp only [RA.cells, List.mem_cons, List.not_mem_nil, or_false] at hu
  rcases hu with rfl | rfl <;> rfl
 small := by omega }
/-- a row's ranges stand -/
def RSt (w : World) (q : RA) : Prop := Sl w w.heap.size q.A (rv q.l) ∧ q.l.length ≤ q.c ∧ q.c ≤ maxLen
/-- a vector stands -/
structure VS (w : World) (A : Option Addr) (n c : Nat) (R : List RA) (V : VL) : Prop where
 hn : n = R.length
 nc : n ≤ c
 cm : c ≤ maxLen
 sl : Sl w w.heap.size A (EV.dv R)
 rs : ∀ q ∈ R, RSt w q
 v : R.map RA.p = V
/-- a vector is answered -/
def VAns (w : World) (V : VL) (e : Ending) (w' : World) : Prop := ∃ A n c R, e = .returned (.agg #[.slice A n c]) ∧ VS w' A n c R V ∧ Below w.heap.size w w'
/-- each row has at most m ranges -/
def Lim (m : Nat) (V : VL) : Prop := ∀ p ∈ V, p.2.length ≤ m
theorem Lim.mono {m m' : Nat} {V : VL} (h : Lim m V) (hm : m ≤ m') : Lim m' V := fun p hp => Nat.le_trans (h p hp) hm
theorem Lim.part {m : Nat} {V : VL} (h : Lim m V) (r : Int) : (partV V r).length ≤ m := by
 unfold partV look
 cases hf : V.find? fun p => decide (p.1 = r) with
 | none => simp
 | some p => simpa using h p (List.mem_of_find?_eq_some hf)
theorem rowsF_lim {f : Int → List Rg} {m : Nat} (h : ∀ i, (f i).length ≤ m) (lo : Int) (n : Nat) : Lim m (rowsF f lo n) := fun p hp => by rw [(rowsF_mem hp).2.2.1]; exact h _
theorem rowsF_length (f : Int → List Rg) : ∀ (n : Nat) (lo : Int), (rowsF f lo n).length ≤ n
 | 0, lo => by simp [rowsF]
 | n + 1, lo => by
  have := rowsF_length f n (lo + 1)
  unfold rowsF
  split
  ·omega
  ·simp only [List.length_cons]; omega
theorem ofV_lim {l : List Dt.D2} : Lim l.length (ofV l) := rowsF_lim (fun i => Nat.le_trans (ofS_len _) (by unfold seqsOf; rw [List.length_map]; exact List.length_filter_le _ _)) 0 64
/-- a right vector has at most 64 rows -/
theorem okV_length : ∀ {V : VL} {last : Int}, okV last V = true → last < 64 → (V.length : Int) ≤ 63 - last
 | [], last, _, hl => by simp only [List.length_nil]; omega
 | q :: t, last, h, hl => by
  obtain ⟨h1, h2, h3, h4, h5⟩ := okV_cons.1 h
  have := okV_length h5 h2
  simp only [List.length_cons]
  omega
theorem right_length {V : VL} (h : rightV V = true) : V.length ≤ 64 := by
 have := okV_length h (by omega)
 omega
theorem okV_drop {V : VL} {k : Nat} (hk : k < V.length) (lo : Int) : okV lo (V.drop k) = (decide (lo < (V[k]?.getD (0, [])).1) && decide ((V[k]?.getD (0, [])).1 < 64) && !(V[k]?.getD (0, [])).2.isEmpty && right (V[k]?.getD (0, [])).2 && okV (V[k]?.getD (0, [])).1 (V.drop (k + 1))) := by
 rw [List.drop_eq_getElem_cons hk, List.getElem?_eq_getElem hk, Option.getD_some, okV]
section
variable {w w' : World} {A : Option Addr} {n c : Nat} {R : List RA} {V : VL}
theorem RSt.below {q : RA} (h : RSt w q) (hb : Below w.heap.size w w') : RSt w' q := ⟨(h.1.below hb).more hb.size, h.2⟩
theorem VS.below (h : VS w A n c R V) (hb : Below w.heap.size w w') : VS w' A n c R V :=
 ⟨h.hn, h.nc, h.cm, (h.sl.below hb).more hb.size, fun q hq => (h.rs q hq).below hb, h.v⟩
theorem VS.drew (h : VS w A n c R V) : VS w.drew A n c R V := ⟨h.hn, h.nc, h.cm, h.sl, h.rs, h.v⟩
theorem VS.len (h : VS w A n c R V) : V.length = n := by rw [h.hn, ← h.v, List.length_map]
theorem VS.at_ (h : VS w A n c R V) {k : Nat} (hk : k < n) : ∃ (q : RA) (b o : Nat), R[k]? = some q ∧ V[k]? = some (q.r, q.l) ∧ RSt w q ∧ A = some ⟨b, o, none⟩ ∧ b < w.heap.size ∧
  w.cell? ⟨b, o + k * 2, none⟩ = some (.int .i64 q.r) ∧ w.cell? ⟨b, o + k * 2 + 1, none⟩ = some (.slice q.A q.l.length q.c) := by
 have hk' : k < R.length := by rw [← h.hn]; exact hk
 obtain ⟨q, hq⟩ : ∃ q, R[k]? = some q := ⟨_, List.getElem?_eq_getElem hk'⟩
 obtain ⟨g, o, h1, h2, _, h4⟩ := EV.cell_at h.sl hq
 have h5 : ∀ (j : Nat) (u : Value), (RA.cells q)[j]? = some u → w.cell? ⟨g, o + k * 2 + j, none⟩ = some u := fun j u hu => by
  have := h4 j u hu
  rw [← Nat.add_assoc] at this
  exact this
 refine ⟨q, g, o, hq, ?_, h.rs q (List.mem_of_getElem? hq), h1, h2, h5 0 _ rfl, h5 1 _ rfl⟩
 rw [← h.v, List.getElem?_map, hq]
 rfl
end
end Go.Proofs.YtaflikgdlkaefaaGreat
