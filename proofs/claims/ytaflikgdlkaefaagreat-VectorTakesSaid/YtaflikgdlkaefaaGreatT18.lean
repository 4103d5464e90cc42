/- Vectors: a row has no more ranges than its vector has bytes. -/
import Init
import Derived.Laws.BitsAllLaws
import Derived.Outline
import Derived.Lib.SlBytesConst
import Derived.SizedLaws
import Derived.Deep.CondSized
import Derived.JoinedCond
import Derived.ChangeOld
import Derived.Carry
import Derived.ShutString
import Derived.Test.YtaflikgdlkaefaaGreatT00
import Derived.Test.YtaflikgdlkaefaaGreatT10
namespace Go.Proofs.YtaflikgdlkaefaaGreat.Ve
open Go.Proofs.YtaflikgdlkaefaaGreat.Sp Go.Proofs.YtaflikgdlkaefaaGreat.Dt Go.Proofs.YtaflikgdlkaefaaGreat.Pl

theorem encs_ge : ∀ (a : List Nat), a.length ≤ (encs a).length
 | [] => by simp [encs]
 | x :: t => by
  have h1 := (enc_len x).1
  have h2 := encs_ge t
  simp only [encs, List.length_append, List.length_cons]
  omega
theorem rowB_ge (p : Int × List Rg) : p.2.length ≤ (rowB p).length := by
 have h1 := encs_ge (rowN p.2)
 have h2 : p.2.length ≤ (extraS p.2).length + 1 := by
  unfold extraS
  split
  ·rw [List.length_drop]; omega
  ·omega
 have h3 : (rowN p.2).length = (gapsN (firstS p.2) (extraS p.2)).length + 2 := by simp [rowN]
 have h4 := gapsN_len (firstS p.2) (extraS p.2)
 unfold rowB
 rw [List.length_cons]
 omega
theorem flatV_ge : ∀ {V : VL} {p : Int × List Rg}, p ∈ V → p.2.length ≤ (flatV V).length
 | q :: t, p, h => by
  have e : flatV (q :: t) = rowB q ++ flatV t := by simp [flatV]
  rw [e, List.length_append]
  rcases List.mem_cons.1 h with rfl | h
  ·have := rowB_ge p; omega
  ·have := flatV_ge h; omega
theorem bytesV_ge {V : VL} (h : rightV V = true) : ∀ p ∈ V, p.2.length ≤ (bytesV V).length := fun p hp => by
 have h1 := flatV_ge hp
 rw [bytesV, if_pos h, List.length_append]
 omega
end Go.Proofs.YtaflikgdlkaefaaGreat.Ve
namespace Go.Proofs.YtaflikgdlkaefaaGreat.Pc

def poly : BitVec 32 := 0xedb88320#32
/-- One bit more. -/
def f (s : BitVec 32) : BitVec 32 := if s.getLsbD 0 then s >>> 1 ^^^ poly else s >>> 1
def fs : Nat → BitVec 32 → BitVec 32
 | 0, s => s
 | k + 1, s => fs k (f s)
def tabN : List Nat := [0x00000000, 0x1db71064, 0x3b6e20c8, 0x26d930ac, 0x76dc4190, 0x6b6b51f4, 0x4db26158, 0x5005713c,
 0xedb88320, 0xf00f9344, 0xd6d6a3e8, 0xcb61b38c, 0x9b64c2b0, 0x86d3d2d4, 0xa00ae278, 0xbdbdf21c]
/-- Half a byte more, by the table. -/
def nib (s : BitVec 32) : BitVec 32 := s >>> 4 ^^^ BitVec.ofNat 32 (tabN.getD (s &&& 15#32).toNat 0)
def b8 (c : UInt8) : BitVec 32 := BitVec.ofNat 32 c.toNat
/-- A byte more. -/
def step (s : BitVec 32) (c : UInt8) : BitVec 32 := fs 8 (s ^^^ b8 c)
def go (s : BitVec 32) : List UInt8 → BitVec 32
 | [] => s
 | c :: t => go (step s c) t
def more (s : BitVec 32) (l : List UInt8) : BitVec 32 := ~~~ go (~~~ s) l
def sum (l : List UInt8) : BitVec 32 := more 0#32 l

def xor3 : List UInt8 → List UInt8 → List UInt8 → List UInt8
 | a :: as1, b :: bs, c :: cs => (a ^^^ b ^^^ c) :: xor3 as1 bs cs
 | _, _, _ => []
/-- Bytes that part in a row of d (each byte xor'ed) give another sum. -/
def diff : List UInt8 → BitVec 32 → BitVec 32
 | [], d => d
 | c :: t, d => diff t (fs 8 (d ^^^ b8 c))
def xorL : List UInt8 → List UInt8 → List UInt8
 | a :: as1, b :: bs => (a ^^^ b) :: xorL as1 bs
 | _, _ => []
/-- Four bytes: their number, the first the lowest. -/
def num4 (a b c d : UInt8) : BitVec 32 := b8 a ^^^ b8 b <<< 8 ^^^ b8 c <<< 16 ^^^ b8 d <<< 24
end Go.Proofs.YtaflikgdlkaefaaGreat.Pc
/- Checksums: the walks of More, and of the document's More. -/
namespace Go.Proofs.YtaflikgdlkaefaaGreat
open Go.RowKit Go.Proofs.YtaflikgdlkaefaaGreat.Pc
set_option maxRecDepth 20000

def crcV (s : BitVec 32) : Value := .int .u32 (s.toNat : Int)
def U32 (n : Nat) : Prop := n < 4294967296
def CrcRel (s : BitVec 32) (l : List UInt8) (x0 x13 : Value) : Prop := ∃ k : Nat, k ≤ l.length ∧ x13 = .int .i64 (k : Int) ∧ x0 = .int .u32 ((go s (l.take k)).toNat : Int)
/-- The block of the table. -/
def tabC : Array Value := #[.int .u32 0, .int .u32 498536548, .int .u32 997073096, .int .u32 651767980, .int .u32 1994146192, .int .u32 1802195444, .int .u32 1303535960, .int .u32 1342533948,
 .int .u32 3988292384, .int .u32 4027552580, .int .u32 3604390888, .int .u32 3412177804, .int .u32 2607071920, .int .u32 2262029012, .int .u32 2685067896, .int .u32 3183342108]
end Go.Proofs.YtaflikgdlkaefaaGreat
/- Checksums: the walk of the document's More. -/
namespace Go.Proofs.YtaflikgdlkaefaaGreat
open Go.RowKit Go.Proofs.YtaflikgdlkaefaaGreat.Pc
set_option maxRecDepth 20000

def BitRel (s : BitVec 32) (x0 x6 : Value) : Prop := ∃ (j : Nat) (cur : BitVec 32), j ≤ 8 ∧ x6 = .int .i64 (j : Int) ∧ x0 = .int .u32 (cur.toNat : Int) ∧ fs (8 - j) cur = fs 8 s

end Go.Proofs.YtaflikgdlkaefaaGreat
/- Slices of slices of bytes; bytes.Clone. -/
namespace Go.Proofs.YtaflikgdlkaefaaGreat
open Go.RowKit

/-- a slice whose elements are slices of bytes -/
def Mat (w : World) (A : Option Addr) (ls : List (List UInt8)) : Prop := ∃ vs : List Value, Sl w w.heap.size A vs ∧ vs.length = ls.length ∧ ∀ (i : Nat) (v : Value), vs[i]? = some v → SlcIs w v (ls[i]?.getD [])
theorem Mat.below {w w' : World} {A : Option Addr} {ls : List (List UInt8)} (h : Mat w A ls) (hb : Below w.heap.size w w') : Mat w' A ls := by
 obtain ⟨vs, h1, h2, h3⟩ := h
 exact ⟨vs, (h1.below hb).more hb.size, h2, fun i v hv => (h3 i v hv).below hb⟩
theorem SlcIs.alloc {w : World} {x : Value} {l : List UInt8} (h : SlcIs w x l) (o : Obj) : SlcIs (w.alloc o) x l := h.below ((Below.refl _ _).alloc (Nat.le_refl _) o)
theorem Mat.row (w : World) (t : TypeId) (vs : Array Value) (ls : List (List UInt8)) (hl : vs.toList.length = ls.length) (h : ∀ (i : Nat) (v : Value), vs.toList[i]? = some v → SlcIs w v (ls[i]?.getD [])) : Mat (w.alloc (.cells vs t)) (some ⟨w.heap.size, 0, none⟩) ls :=
 ⟨vs.toList, by simpa using Sl.new w t vs (0, 0), hl, fun i v hv => (h i v hv).alloc _⟩
theorem Mat.two (w : World) (t : TypeId) (v1 v2 : Value) (l1 l2 : List UInt8) (h1 : SlcIs w v1 l1) (h2 : SlcIs w v2 l2) : Mat (w.alloc (.cells #[v1, v2] t)) (some ⟨w.heap.size, 0, none⟩) [l1, l2] := by
 refine Mat.row w t #[v1, v2] [l1, l2] rfl fun i v hv => ?_
 match i, hv with
 | 0, hv => simp at hv; subst hv; exact h1
 | 1, hv => simp at hv; subst hv; exact h2
 | i + 2, hv => simp at hv
end Go.Proofs.YtaflikgdlkaefaaGreat
/- Checksums: the sums of parts. -/
namespace Go.Proofs.YtaflikgdlkaefaaGreat
open Go.RowKit Go.Proofs.YtaflikgdlkaefaaGreat.Pc
set_option maxRecDepth 20000

def SumRel (w : World) (ls : List (List UInt8)) (x3 x8 : Value) (wr : World) : Prop := ∃ k : Nat, k ≤ ls.length ∧ x8 = .int .i64 (k : Int) ∧ x3 = .int .u32 ((more 0#32 (ls.take k).flatten).toNat : Int) ∧ Below w.heap.size w wr
end Go.Proofs.YtaflikgdlkaefaaGreat
/- Numbers as bytes: Fixed, Big, and the document's. -/
namespace Go.Proofs.YtaflikgdlkaefaaGreat
open Go.RowKit Go.Proofs.YtaflikgdlkaefaaGreat.Pl
set_option maxRecDepth 20000

def BigRel (l : List UInt8) (x3 x12 : Value) : Prop := ∃ k : Nat, k ≤ min l.length 8 ∧ x12 = .int .i64 (k : Int) ∧ x3 = .int .u64 (bigF 0 (l.take k) : Int)
def FixRel (w : World) (v m : Nat) (A : Value) (x13 : Value) (wr : World) : Prop :=
 ∃ k : Nat, k ≤ m ∧ x13 = .int .i64 (k : Int) ∧ wr.ownsRow w.heap.size 5 1 A m (bv (List.replicate (m - k) 0 ++ fixF v k)) ∧ Below w.heap.size w wr
def RFixRel (w : World) (v m : Nat) (x5 x6 : Value) (wr : World) : Prop :=
 ∃ j : Nat, j ≤ m ∧ x6 = .int .i64 ((j : Int) - 1) ∧ OwnB wr w.heap.size x5 ((fixF v m).take (m - j)) ∧ Below w.heap.size w wr
end Go.Proofs.YtaflikgdlkaefaaGreat
/- Checksums: what is sealed, and what is opened. -/
namespace Go.Proofs.YtaflikgdlkaefaaGreat
open Go.RowKit Go.Proofs.YtaflikgdlkaefaaGreat.Pc Go.Proofs.YtaflikgdlkaefaaGreat.Pl
set_option maxRecDepth 20000

def sealS (l : List UInt8) : List UInt8 := l ++ fixF (sum l).toNat 4
def openS (b : List UInt8) : Option (List UInt8) := if b.length < 4 then none else if big (b.drop (b.length - 4)) = (sum (b.take (b.length - 4))).toNat then some (b.take (b.length - 4)) else none

def OpenPost (w : World) (o : Option (List UInt8)) (e : Ending) (w' : World) : Prop :=
 match o with
 | none => e = .returned (.tuple #[.slice none 0 0, .bool false]) ∧ Below w.heap.size w w'
 | some k => ∃ A c, e = .returned (.tuple #[.slice A k.length c, .bool true]) ∧ OwnB w' w.heap.size (.slice A k.length c) k ∧ Below w.heap.size w w'

end Go.Proofs.YtaflikgdlkaefaaGreat
/- What was sealed is opened; constant bytes. -/
namespace Go.Proofs.YtaflikgdlkaefaaGreat
open Go.RowKit Go.Proofs.YtaflikgdlkaefaaGreat.Pc Go.Proofs.YtaflikgdlkaefaaGreat.Pl

end Go.Proofs.YtaflikgdlkaefaaGreat
/- A law's statement out of its walk: whatever its parameters, where nothing that was there has turned and the answer is true. -/
namespace Go.Proofs.YtaflikgdlkaefaaGreat
set_option maxRecDepth 20000
open Go.ChangeShapes Go.WideShapes Go.ChangeAt Go.RowKit

theorem own : ownKnob Tryz.prog.godebug = none := by kernel_rfl
theorem laidOut : laidOutB Tryz.prog = true := by kernel_rfl

section
variable {H : Type} {enc : TypeId × Value → H}
abbrev Rd (enc : TypeId × Value → H) (W : World) (t : TypeId) (v : Value) (d : DataW H) (p : List MemPlace) : Prop := DataW.Trod enc Tryz.prog W 0 (fun _ => true) true t v d p
abbrev RdAll (enc : TypeId × Value → H) (W : World) (ts : List TypeId) (vs : List Value) (ds : List (DataW H)) (p : List MemPlace) : Prop := DataW.TrodAll enc Tryz.prog W 0 (fun _ => true) true ts vs ds p
theorem rdAll_below {W W' : World} (hb : Below W.heap.size W W') : ∀ (ts : List TypeId) (vs : List Value) (ds : List (DataW H)) (p : List MemPlace),
  (∀ t ∈ ts, Tryz.prog.readableRec t = true ∧ t < Tryz.prog.types.size) → RdAll enc W ts vs ds p → DataW.TrodAll enc Tryz.prog W' 0 (fun b => decide (b < W.heap.size)) true ts vs ds p
 | [], vs, ds, p, _, h => by
  obtain ⟨rfl, rfl, rfl⟩ := trodAll_nil h
  exact trodAll_mk0
 | t :: ts, vs, ds, p, ht, h => by
  obtain ⟨v, vs', d, ds', p0, q0, rfl, rfl, rfl, h0, r0⟩ := trodAll_cons h
  have lt0 : ∀ x ∈ p0, x.block < W.heap.size := by obtain ⟨m, hm⟩ := h0; exact DataW.trod_lt m _ _ _ hm
  exact trodAll_cons_mk (Below.trod laidOut (ht t (by simp)).1 (ht t (by simp)).2 h0 hb lt0) (rdAll_below hb ts vs' ds' q0 (fun x hx => ht x (by simp [hx])) r0)
theorem rdAll_len {W : World} : ∀ (ts : List TypeId) (vs : List Value) (ds : List (DataW H)) (p : List MemPlace), RdAll enc W ts vs ds p → ds.length = ts.length
 | [], vs, ds, p, h => by obtain ⟨rfl, rfl, rfl⟩ := trodAll_nil h; rfl
 | t :: ts, vs, ds, p, h => by
  obtain ⟨v, vs', d, ds', p0, q0, rfl, rfl, rfl, h0, r0⟩ := trodAll_cons h
  simp [rdAll_len ts vs' ds' q0 r0]
/-- What is known of the arguments. -/
structure Args (enc : TypeId × Value → H) (fn : Func) (W : World) (args : Array Value) (ds : List (DataW H)) (p : List MemPlace) : Prop where
 ok : ∃ base : Nat, ∀ (j : Nat) t v, fn.params[j]? = some t → args[j]? = some v → Value.okWide Tryz.prog W .any base t v
 rd : RdAll enc W fn.params.toList args.toList ds p
 fits : ∀ n ∈ DataW.weightsEach Tryz.prog fn.params.toList ds, n ≤ reachBytes
end

/-- THE FORM's STEP: '..Said'. -/
theorem lifted (f : FuncId) (fn : Func) (s : ChangeSpec) (hfn : Tryz.prog.funcs[f]? = some fn) (noInit : Tryz.prog.inits.idxOf? f = none) (hvars : s.vars = []) (hres : fn.resultTypes = #[4])
  (hr : ∀ t ∈ fn.params.toList, Tryz.prog.readableRec t = true ∧ t < Tryz.prog.types.size)
  (hs : ∀ (H : Type) (ds : List (DataW H)), ds.length = fn.params.toList.length → s.fn H (ds ++ []) = { results := [.lit (.bool true)], args := ds })
  (os : Os) (started : os.Started) (H : Type) (enc : TypeId × Value → H)
  (witness : ∃ (w : World) (tape : Tape) (i : Input), w.os = os ∧ (w.forCall tape i).Shaped Tryz.prog ∧ i.vars = [] ∧ Input.okWide Tryz.prog (w.forCall tape i) .any w.heap.size f i ∧
   s.pre6 enc Tryz.prog fn [] false (w.forCall tape i).memory i.args ∧ ({} : Assume).holds Tryz.prog (lone (Frame.enter Tryz.prog f i.args .normal) [] (w.forCall tape i)))
  (walk : ∀ (W : World) (args : Array Value) (ds : List (DataW H)) (p : List MemPlace), Args enc fn W args ds p → Calls Tryz.prog f args W fun e W' => e = .returned (.bool true) ∧ Below W.heap.size W W') :
  ReturnsInHanded {} Tryz.checked os f .any (s.pre6 enc Tryz.prog fn [] false) (s.post enc Tryz.prog fn false true false false) := by
 refine returnsInHanded_of_change_sized (C := Tryz.checked) own started noInit hfn witness ?_
 intro W base args ds gs before hval hW _ hsz0 _
 have hsz : (DataW.weightsEach Tryz.prog (fn.params.toList ++ s.plain.varTypes Tryz.prog) (ds ++ gs)).all (· ≤ reachBytes) = true := hsz0
 have hW' := hW
 obtain ⟨p, q, hA0, hV, rfl, hfz, hnd⟩ := hW
 have hA : RdAll enc W fn.params.toList args.toList ds p := hA0
 rw [hvars] at hV
 obtain ⟨rfl, rfl⟩ := trodVars_none hV
 have hvt : s.plain.varTypes Tryz.prog = [] := by simp [ChangeSpec.plain, DataSpec.varTypes, hvars]
 rw [hvt] at hsz
 simp only [List.append_nil] at hsz
 refine (walk W args ds p ⟨⟨base, hval⟩, hA, fun n hn => by simpa using List.all_eq_true.1 hsz n hn⟩).mono fun e W' ⟨he, bel⟩ => ?_
 subst he
 have e := hs H ds (rdAll_len _ _ _ _ hA)
 refine ⟨_, rfl, ds, [], p ++ [], [], p, [], hW', ?_, ?_, ?_, bel.frame _, fun h => by cases h⟩
 ·rw [e, hres]
  exact trodAll_mk1 (shut_bool Tryz.underlying4 _)
 ·rw [e]
  exact rdAll_below bel _ _ _ _ hr hA
 ·rw [e, hvars]; rfl

/-! ### the arguments, one by one -/
section
variable {H : Type} {enc : TypeId × Value → H}
structure One (enc : TypeId × Value → H) (W : World) (base : Nat) (t : TypeId) (v : Value) (d : DataW H) (p : List MemPlace) : Prop where
 ok : Value.okWide Tryz.prog W .any base t v
 rd : Rd enc W t v d p
 fits : ∀ n ∈ d.weights Tryz.prog t, n ≤ reachBytes
structure Many (enc : TypeId × Value → H) (W : World) (base : Nat) (ts : List TypeId) (vs : List Value) (ds : List (DataW H)) (p : List MemPlace) : Prop where
 ok : ∀ (j : Nat) t v, ts[j]? = some t → vs[j]? = some v → Value.okWide Tryz.prog W .any base t v
 rd : RdAll enc W ts vs ds p
 fits : ∀ n ∈ DataW.weightsEach Tryz.prog ts ds, n ≤ reachBytes
theorem Args.many {fn : Func} {W : World} {args : Array Value} {ds : List (DataW H)} {p : List MemPlace} (h : Args enc fn W args ds p) {ts : List TypeId} (ht : fn.params.toList = ts) : ∃ base vs, args = vs.toArray ∧ Many enc W base ts vs ds p := by
 obtain ⟨⟨base, ok⟩, rd, fits⟩ := h
 subst ht
 exact ⟨base, args.toList, by simp, fun j t v h1 h2 => ok j t v (by simpa using h1) (by simpa using h2), rd, fits⟩
theorem Many.cons {W : World} {base : Nat} {t : TypeId} {ts : List TypeId} {vs : List Value} {ds : List (DataW H)} {p : List MemPlace} (h : Many enc W base (t :: ts) vs ds p) :
  ∃ v vs' d ds' p' q, vs = v :: vs' ∧ ds = d :: ds' ∧ One enc W base t v d p' ∧ Many enc W base ts vs' ds' q := by
 obtain ⟨ok, rd, fits⟩ := h
 obtain ⟨v, vs', d, ds', p0, q0, rfl, rfl, rfl, h0, r0⟩ := trodAll_cons rd
 exact ⟨v, vs', d, ds', p0, q0, rfl, rfl, ⟨ok 0 t v rfl rfl, h0, fun n hn => fits n (by simp only [DataW.weightsEach, List.mem_append]; exact .inl hn)⟩,
  ⟨fun j t v h1 h2 => ok (j + 1) t v (by simpa using h1) (by simpa using h2), r0, fun n hn => fits n (by simp only [DataW.weightsEach, List.mem_append]; exact .inr hn)⟩⟩
theorem Many.nil {W : World} {base : Nat} {vs : List Value} {ds : List (DataW H)} {p : List MemPlace} (h : Many enc W base [] vs ds p) : vs = [] ∧ ds = [] := by
 obtain ⟨rfl, rfl, _⟩ := trodAll_nil h.rd
 exact ⟨rfl, rfl⟩

variable {W : World} {base : Nat} {t e : TypeId} {v : Value} {d : DataW H} {p : List MemPlace}
theorem One.int {k : IntKind} (h : One enc W base t v d p) (ht : Tryz.prog.underlying t = some (.int k)) : ∃ a : Int, v = .int k a ∧ (Lit.int k a).wf = true ∧ d = .lit (.int k a) := by
 obtain ⟨a, rfl, rfl, rfl, w⟩ := open_int ht h.ok h.rd
 exact ⟨a, rfl, w, rfl⟩
theorem One.bool (h : One enc W base t v d p) (ht : Tryz.prog.underlying t = some .bool) : ∃ b : Bool, v = .bool b := by
 obtain ⟨b, rfl, _⟩ := open_bool ht h.ok h.rd
 exact ⟨b, rfl⟩
theorem One.u8 (h : One enc W base t v d p) (ht : Tryz.prog.underlying t = some (.int .u8)) : ∃ n : Nat, v = .int .u8 (n : Int) ∧ n < 256 := by
 obtain ⟨a, rfl, w, _⟩ := h.int ht
 have hx : 0 ≤ a ∧ a ≤ 255 := by simpa [Lit.wf, IntKind.min, IntKind.max, IntKind.signed, IntKind.bits] using w
 exact ⟨a.toNat, by rw [Int.toNat_of_nonneg hx.1], by omega⟩
theorem One.u16 (h : One enc W base t v d p) (ht : Tryz.prog.underlying t = some (.int .u16)) : ∃ n : Nat, v = .int .u16 (n : Int) ∧ n < 65536 := by
 obtain ⟨a, rfl, w, _⟩ := h.int ht
 have hx : 0 ≤ a ∧ a ≤ 65535 := by simpa [Lit.wf, IntKind.min, IntKind.max, IntKind.signed, IntKind.bits] using w
 exact ⟨a.toNat, by rw [Int.toNat_of_nonneg hx.1], by omega⟩
theorem One.u32 (h : One enc W base t v d p) (ht : Tryz.prog.underlying t = some (.int .u32)) : ∃ n : Nat, v = .int .u32 (n : Int) ∧ n < 4294967296 := by
 obtain ⟨a, rfl, w, _⟩ := h.int ht
 have hx : 0 ≤ a ∧ a ≤ 4294967295 := by simpa [Lit.wf, IntKind.min, IntKind.max, IntKind.signed, IntKind.bits] using w
 exact ⟨a.toNat, by rw [Int.toNat_of_nonneg hx.1], by omega⟩
theorem One.u64 (h : One enc W base t v d p) (ht : Tryz.prog.underlying t = some (.int .u64)) : ∃ n : Nat, v = .int .u64 (n : Int) ∧ U64 n := by
 obtain ⟨a, rfl, w, _⟩ := h.int ht
 have hx : 0 ≤ a ∧ a ≤ 18446744073709551615 := by simpa [Lit.wf, IntKind.min, IntKind.max, IntKind.signed, IntKind.bits] using w
 exact ⟨a.toNat, by rw [Int.toNat_of_nonneg hx.1], U64.mk (by omega)⟩
theorem One.i64 (h : One enc W base t v d p) (ht : Tryz.prog.underlying t = some (.int .i64)) : ∃ a : Int, v = .int .i64 a ∧ -9223372036854775808 ≤ a ∧ a ≤ 9223372036854775807 := by
 obtain ⟨a, rfl, w, _⟩ := h.int ht
 have hx : -9223372036854775808 ≤ a ∧ a ≤ 9223372036854775807 := by simpa [Lit.wf, IntKind.min, IntKind.max, IntKind.signed, IntKind.bits] using w
 exact ⟨a, rfl, hx⟩
theorem bulkAll_lits (k : IntKind) : ∀ zs : List Int, Rows.uptoBulkAll (H := H) (lits k zs) = zs.length
 | [] => rfl
 | z :: t => by
  have := bulkAll_lits k t
  simp only [lits, List.map_cons, Rows.uptoBulkAll, Rows.uptoBulk, List.length_cons] at this ⊢
  omega
/-- A slice of integers. -/
theorem One.ints {k : IntKind} {m : Nat} (h : One enc W base t v d p) (ht : Tryz.prog.underlying t = some (.slice e)) (he : Tryz.prog.underlying e = some (.int k)) (hc : Tryz.prog.cellsOf e = 1) (hm : Tryz.prog.bytesOf e = m) :
  ∃ (A : Option Addr) (c : Nat) (zs : List Int), v = .slice A zs.length c ∧ Sl W W.heap.size A (zs.map (Value.int k)) ∧ zs.length ≤ c ∧ c ≤ maxLen ∧ c * m ≤ reachBytes ∧ (∀ z ∈ zs, (Lit.int k z).wf = true) ∧ c < Rows.uptoBulk d := by
 obtain ⟨ok, rd, fits⟩ := h
 obtain ⟨A, len, cap, rfl⟩ := okWide_slice ht ok
 obtain ⟨fuel, hf⟩ := rd
 rcases open_ints ht he hc hf with ⟨hcs, hx⟩ | ⟨x, l, c, zs, hcs, _, hl, hm', hz, hx, hcell, hwz⟩
 ·simp [Value.cells] at hcs
  obtain ⟨rfl, rfl, rfl⟩ := hcs
  simp only [Prod.mk.injEq] at hx
  obtain ⟨rfl, _⟩ := hx
  exact ⟨none, 0, [], rfl, Sl.nil, by simp, by simp [maxLen], by simp, by simp, by simp [Rows.uptoBulk]⟩
 ·simp [Value.cells] at hcs
  obtain ⟨rfl, rfl, rfl⟩ := hcs
  simp only [Prod.mk.injEq] at hx
  obtain ⟨rfl, _⟩ := hx
  simp only [if_true] at hz
  have hlen : (zs.take len).length = len := by rw [List.length_take]; omega
  refine ⟨some x, cap, zs.take len, by rw [hlen], ?_, by omega, hm', ?_, fun z hz' => hwz z (List.mem_of_mem_take hz'), ?_⟩
  ·by_cases h0 : len = 0
   ·subst h0; simp [Sl]
   ·obtain ⟨b, o, spot⟩ := x
    have hc0 := hcell 0 (by omega)
    have hspot : spot = none := by simpa [Addr.add] using World.cell?_spot hc0
    subst hspot
    have hbl : b < W.heap.size := by
     have := World.block_lt_of_cell? W _ hc0
     simpa [Addr.add] using this
    refine .inr ⟨b, o, rfl, hbl, hbl, fun j u hu => ?_⟩
    have hj : j < len := by
     have := (List.getElem?_eq_some_iff.1 hu).1
     rw [List.length_map, hlen] at this; exact this
    have := hcell j (by omega)
    have e1 : (⟨b, o, none⟩ : Addr).add j = ⟨b, o + j, none⟩ := by
     unfold Addr.add
     split
     ·rename_i h0; subst h0; rfl
     ·rfl
    rw [e1] at this
    rw [this]
    rw [List.getElem?_map, List.getElem?_take, if_pos hj] at hu
    rw [← hu]
    simp [List.getD, List.getElem?_eq_getElem (show j < zs.length by omega)]
  ·have := fits ((lits (H := H) k (zs.take len)).length + (lits (H := H) k (zs.drop len)).length |> (· * Tryz.prog.bytesOf e)) (by simp [DataW.weights, ht])
   simp only [lits, List.length_map, List.length_take, List.length_drop] at this
   rw [hm] at this
   rw [show min len zs.length + (zs.length - len) = cap by omega] at this
   exact this
  ·simp only [Rows.uptoBulk, bulkAll_lits, List.length_take, List.length_drop]
   omega
theorem nats_of {k : IntKind} {M : Nat} {zs : List Int} (hw : ∀ z ∈ zs, (Lit.int k z).wf = true) (hk : ∀ z : Int, (Lit.int k z).wf = true → 0 ≤ z ∧ z < M) :
  zs.map (Value.int k) = (zs.map Int.toNat).map (fun (n : Nat) => Value.int k (n : Int)) ∧ ∀ n ∈ zs.map Int.toNat, n < M := by
 constructor
 ·rw [List.map_map]
  refine List.map_congr_left fun z hz => ?_
  have := hk z (hw z hz)
  simp only [Function.comp]
  rw [Int.toNat_of_nonneg this.1]
 ·intro n hn
  obtain ⟨z, hz, rfl⟩ := List.mem_map.1 hn
  have := hk z (hw z hz)
  omega
/-- A slice of unsigned numbers. -/
theorem One.nats {k : IntKind} {m M : Nat} (h : One enc W base t v d p) (ht : Tryz.prog.underlying t = some (.slice e)) (he : Tryz.prog.underlying e = some (.int k)) (hc : Tryz.prog.cellsOf e = 1) (hm : Tryz.prog.bytesOf e = m)
  (hk : ∀ z : Int, (Lit.int k z).wf = true → 0 ≤ z ∧ z < M) :
  ∃ (A : Option Addr) (c : Nat) (l : List Nat), v = .slice A l.length c ∧ Sl W W.heap.size A (l.map (fun (n : Nat) => Value.int k (n : Int))) ∧ l.length ≤ c ∧ c * m ≤ 140737488351232 ∧ (∀ n ∈ l, n < M) ∧ c < Rows.uptoBulk d := by
 obtain ⟨A, c, zs, rfl, hs, h1, h2, h3, h4, h5⟩ := h.ints ht he hc hm
 obtain ⟨e1, e2⟩ := nats_of h4 hk
 exact ⟨A, c, zs.map Int.toNat, by simp, e1 ▸ hs, by simpa using h1, h3, e2, h5⟩
theorem wf_u64' (z : Int) (h : (Lit.int .u64 z).wf = true) : 0 ≤ z ∧ z < (18446744073709551616 : Nat) := by
 have hx : 0 ≤ z ∧ z ≤ 18446744073709551615 := by simpa [Lit.wf, IntKind.min, IntKind.max, IntKind.signed, IntKind.bits] using h
 omega
theorem wf_u16' (z : Int) (h : (Lit.int .u16 z).wf = true) : 0 ≤ z ∧ z < (65536 : Nat) := by
 have hx : 0 ≤ z ∧ z ≤ 65535 := by simpa [Lit.wf, IntKind.min, IntKind.max, IntKind.signed, IntKind.bits] using h
 omega
theorem One.u64s (h : One enc W base 43 v d p) : ∃ (A : Option Addr) (c : Nat) (l : List Nat), v = .slice A l.length c ∧ Sl W W.heap.size A (l.map (fun (n : Nat) => Value.int .u64 (n : Int))) ∧ l.length ≤ c ∧ c * 8 ≤ 140737488351232 ∧ (∀ n ∈ l, U64 n) ∧ c < Rows.uptoBulk d :=
  h.nats (m := 8) Tryz.underlying43 Tryz.underlying45 (by kernel_rfl) (by kernel_rfl) wf_u64'
theorem One.u16s (h : One enc W base 42 v d p) : ∃ (A : Option Addr) (c : Nat) (l : List Nat), v = .slice A l.length c ∧ Sl W W.heap.size A (l.map (fun (n : Nat) => Value.int .u16 (n : Int))) ∧ l.length ≤ c ∧ c * 2 ≤ 140737488351232 ∧ (∀ n ∈ l, n < 65536) ∧ c < Rows.uptoBulk d :=
  h.nats (m := 2) Tryz.underlying42 Tryz.underlying76 (by kernel_rfl) (by kernel_rfl) wf_u16'
/-- A slice of bytes. -/
theorem One.bytes (h : One enc W base 41 v d p) : ∃ (A : Option Addr) (c : Nat) (l : List UInt8), v = .slice A l.length c ∧ Sl W W.heap.size A (bv l) ∧ l.length ≤ c ∧ c ≤ 140737488351232 ∧ c < Rows.uptoBulk d := by
 obtain ⟨A, c, zs, rfl, hs, h1, h2, h3, h4, h5⟩ := h.ints (m := 1) Tryz.underlying41 Tryz.underlying5 (by kernel_rfl) (by kernel_rfl)
 refine ⟨A, c, zs.map (fun z => UInt8.ofNat z.toNat), by simp, ?_, by simpa using h1, by simp only [reachBytes] at h3; omega, h5⟩
 have e : bv (zs.map (fun z => UInt8.ofNat z.toNat)) = zs.map (Value.int .u8) := by
  simp only [bv, List.map_map]
  refine List.map_congr_left fun z hz => ?_
  have hx : 0 ≤ z ∧ z ≤ 255 := by simpa [Lit.wf, IntKind.min, IntKind.max, IntKind.signed, IntKind.bits] using h4 z hz
  simp only [Function.comp, u8v, UInt8.toNat_ofNat']
  congr 1
  omega
 rw [e]
 exact hs
end
end Go.Proofs.YtaflikgdlkaefaaGreat
/- Checksums: one byte of what is sealed is another. -/
namespace Go.Proofs.YtaflikgdlkaefaaGreat
open Go.RowKit Go.Proofs.YtaflikgdlkaefaaGreat.Pc Go.Proofs.YtaflikgdlkaefaaGreat.Pl
set_option maxRecDepth 20000

theorem xor_u8 (a b : UInt8) : bits .xor .u8 (a.toNat : Int) (b.toNat : Int) = ((a ^^^ b).toNat : Int) := by
 rw [u8_xor_nat _ _ (UInt8.toNat_lt a) (UInt8.toNat_lt b), UInt8.toNat_xor]
end Go.Proofs.YtaflikgdlkaefaaGreat
/- What is changed somewhere. Written by changed.py. -/
namespace Go.Proofs.YtaflikgdlkaefaaGreat
open Go.RowKit Go.Proofs.YtaflikgdlkaefaaGreat.Pc Go.Proofs.YtaflikgdlkaefaaGreat.Pl
set_option maxRecDepth 20000

def ChangedPost (w : World) (n : Nat) (e : Ending) (w' : World) : Prop := ∃ (A : Option Addr) (c : Nat) (l : List UInt8), e = .returned (.slice A l.length c) ∧ Sl w' w'.heap.size A (bv l) ∧ l.length ≤ c ∧ c ≤ maxLen ∧ l.length ≤ n + 1 ∧ Below w.heap.size w w'
theorem changed_of {w w' : World} {base n m : Nat} {l : List UInt8} {A : Option Addr} {c : Nat} (h : OwnB w' base (.slice A m c) l) (hm : m = l.length) (hn : l.length ≤ n + 1) (hb : Below w.heap.size w w') : ChangedPost w n (.returned (.slice A m c)) w' := by
 subst hm
 obtain ⟨h1, h2, h3⟩ := OwnB.sl h
 exact ⟨A, c, l, rfl, h1, h2, h3, hn, hb⟩
set_option maxRecDepth 100000 in
set_option maxHeartbeats 6400000 in
theorem Changed_any (w : World) (A : Option Addr) (n c : Nat) (l : List UInt8) (hb : Sl w w.heap.size A (bv l)) (h0 : n = l.length) (hl : l.length < 140737488355328) (a : Int) (ha1 : -9223372036854775808 ≤ a) (ha2 : a ≤ 9223372036854775807) (x : Nat) (hx : x < 256) (h : Nat) (hh : h < 256) :
  Calls Tryz.prog 27 #[.slice A n c, .int .i64 a, .int .u8 (x : Int), .int .u8 (h : Int)] w (ChangedPost w l.length) := by
 subst h0
 by_cases hz : l = []
 ·subst hz
  go_enter Tryz.func27, Tryz.ntmps27
  go_wp2_with (at_builtin; refine app rfl rfl (OwnB.nil w w.heap.size) hb rfl rfl rfl (by simp) (Nat.le_refl _) ?_; intro s1 w1 h1 hg1 hat1)
  rw [List.nil_append] at h1
  have hb1 : Below w.heap.size w w1 := below_of_grown hg1 (by simp [Value.ownBlock]) (Nat.le_refl _)
  obtain ⟨A1, c1, rfl, _⟩ := h1.form
  clear hat1 hg1
  have hlenf := run_len_slice (P := Tryz.prog) (w := w1) 41 3 A1 0 c1 Tryz.underlying41
  simp only [List.length_nil]
  rw [hlenf]
  clear hlenf
  go_wp2_with (at_builtin; refine appN rfl rfl h1 (one_bv x hx) rfl rfl rfl (by simp) hb1.size ?_; intro s2 w2 h2 hg2 hat2)
  obtain ⟨A2, c2, rfl, _⟩ := h2.form
  have hb2 := own_below hb1 hb1.size h1 hg2
  go_ret
  exact changed_of h2 rfl (by simp) hb2
 have hpos : 0 < l.length := List.length_pos_iff.2 hz
 have hlt := Int.tmod_lt_of_pos a (show (0 : Int) < l.length by omega)
 have hgt : -(l.length : Int) < a.tmod l.length := Int.lt_tmod_of_pos a (show (0 : Int) < l.length by omega)
 have hne : ((l.length : Int) == 0) = false := by simp; omega
 have hll : l.length ≤ 140737488355328 := by omega
 by_cases hs : a.tmod l.length < 0
 ·obtain ⟨k, hk, hkl⟩ : ∃ k : Nat, a.tmod l.length + l.length = (k : Int) ∧ k < l.length := ⟨(a.tmod l.length + l.length).toNat, by omega, by omega⟩
  by_cases h0 : (h : Int) % 5 = 0
  ·have f0 : ((h : Int) % 5 == 0) = true := by simp; omega
   clear h0
   go_enter Tryz.func27, Tryz.ntmps27
   go_wp2_with (at_builtin; refine app rfl rfl (OwnB.nil w w.heap.size) hb rfl rfl rfl (by simpa using hll) (Nat.le_refl _) ?_; intro s1 w1 h1 hg1 hat1)
   rw [List.nil_append] at h1
   have hb1 : Below w.heap.size w w1 := below_of_grown hg1 (by simp [Value.ownBlock]) (Nat.le_refl _)
   obtain ⟨g, cap, rfl, hg, hgw, hcap, hcapm⟩ := h1.head hpos
   have hkc : (k : Int) ≤ (cap : Int) := by omega
   have hlenf := run_len_slice (P := Tryz.prog) (w := w1) 41 3 (some ⟨g, 0, none⟩) l.length cap Tryz.underlying41
   rw [hlenf]
   clear hlenf hat1 hg1
   have hs1 := (OwnB.sl h1).1.tk k
   rw [bv_take] at hs1
   go_wp2_with fail
   go_ret
   exact ⟨some ⟨g, 0, none⟩, k, l.take k, by rw [List.length_take, Nat.min_eq_left (by omega)]; rfl, hs1, by rw [List.length_take]; omega, by simp only [maxLen] at *; omega, by rw [List.length_take]; omega, hb1⟩
  by_cases h1 : (h : Int) % 5 = 1
  ·have f0 : ((h : Int) % 5 == 0) = false := by simp; omega
   have f1 : ((h : Int) % 5 == 1) = true := by simp; omega
   clear h0 h1
   go_enter Tryz.func27, Tryz.ntmps27
   go_wp2_with (at_builtin; refine app rfl rfl (OwnB.nil w w.heap.size) hb rfl rfl rfl (by simpa using hll) (Nat.le_refl _) ?_; intro s1 w1 h1 hg1 hat1)
   rw [List.nil_append] at h1
   have hb1 : Below w.heap.size w w1 := below_of_grown hg1 (by simp [Value.ownBlock]) (Nat.le_refl _)
   obtain ⟨g, cap, rfl, hg, hgw, hcap, hcapm⟩ := h1.head hpos
   have hkc : (k : Int) ≤ (cap : Int) := by omega
   have hlenf := run_len_slice (P := Tryz.prog) (w := w1) 41 3 (some ⟨g, 0, none⟩) l.length cap Tryz.underlying41
   rw [hlenf]
   clear hlenf hat1 hg1
   go_wp2_with (at_builtin; refine appN rfl rfl h1 (one_bv x hx) rfl rfl rfl (by simp; omega) hb1.size ?_; intro s2 w2 h2 hg2 hat2)
   obtain ⟨A2, c2, rfl, _⟩ := h2.form
   have hb2 := own_below hb1 hb1.size h1 hg2
   go_ret
   exact changed_of h2 rfl (by simp) hb2
  by_cases h2 : (h : Int) % 5 = 2
  ·have f0 : ((h : Int) % 5 == 0) = false := by simp; omega
   have f1 : ((h : Int) % 5 == 1) = false := by simp; omega
   have f2 : ((h : Int) % 5 == 2) = true := by simp; omega
   clear h0 h1 h2
   go_enter Tryz.func27, Tryz.ntmps27
   go_wp2_with (at_builtin; refine app rfl rfl (OwnB.nil w w.heap.size) hb rfl rfl rfl (by simpa using hll) (Nat.le_refl _) ?_; intro s1 w1 h1 hg1 hat1)
   rw [List.nil_append] at h1
   have hb1 : Below w.heap.size w w1 := below_of_grown hg1 (by simp [Value.ownBlock]) (Nat.le_refl _)
   obtain ⟨g, cap, rfl, hg, hgw, hcap, hcapm⟩ := h1.head hpos
   have hkc : (k : Int) ≤ (cap : Int) := by omega
   have hlenf := run_len_slice (P := Tryz.prog) (w := w1) 41 3 (some ⟨g, 0, none⟩) l.length cap Tryz.underlying41
   rw [hlenf]
   clear hlenf hat1 hg1
   obtain ⟨hcell, hfz, hst, hgr⟩ := h1.store k x (by omega) hx
   have hbst := below_of_grown hgr (B := w.heap.size) (fun g' e => by cases e; exact hg) hb1.size
   go_wp2_with fail
   go_ret
   exact changed_of (l := l.set k (UInt8.ofNat x)) hst (by simp) (by simp) (hb1.trans hbst)
  ·have f0 : ((h : Int) % 5 == 0) = false := by simp; omega
   have f1 : ((h : Int) % 5 == 1) = false := by simp; omega
   have f2 : ((h : Int) % 5 == 2) = false := by simp; omega
   clear h0 h1 h2
   go_enter Tryz.func27, Tryz.ntmps27
   go_wp2_with (at_builtin; refine app rfl rfl (OwnB.nil w w.heap.size) hb rfl rfl rfl (by simpa using hll) (Nat.le_refl _) ?_; intro s1 w1 h1 hg1 hat1)
   rw [List.nil_append] at h1
   have hb1 : Below w.heap.size w w1 := below_of_grown hg1 (by simp [Value.ownBlock]) (Nat.le_refl _)
   obtain ⟨g, cap, rfl, hg, hgw, hcap, hcapm⟩ := h1.head hpos
   have hkc : (k : Int) ≤ (cap : Int) := by omega
   have hlenf := run_len_slice (P := Tryz.prog) (w := w1) 41 3 (some ⟨g, 0, none⟩) l.length cap Tryz.underlying41
   rw [hlenf]
   clear hlenf hat1 hg1
   have hxu : (x : Int) = ((UInt8.ofNat x).toNat : Int) := by simp only [UInt8.toNat_ofNat']; omega
   have HU := Lib.hid hxu
   have hxor : bits .xor .u8 ((l[k]?.getD 0).toNat : Int) (x : Int) = ((l[k]?.getD 0 ^^^ UInt8.ofNat x).toNat : Int) := by rw [HU.out, xor_u8]
   obtain ⟨hcell, hfz, hst, hgr⟩ := h1.store k (l[k]?.getD 0 ^^^ UInt8.ofNat x).toNat (by omega) (UInt8.toNat_lt _)
   rw [UInt8.ofNat_toNat] at hst
   have hbst := below_of_grown hgr (B := w.heap.size) (fun g' e => by cases e; exact hg) hb1.size
   clear hxu
   generalize l[k]?.getD 0 ^^^ UInt8.ofNat x = z at *
   generalize l[k]?.getD 0 = y at *
   go_wp2_with fail
   go_ret
   exact changed_of (l := l.set k z) hst (by simp) (by simp) (hb1.trans hbst)
 ·obtain ⟨k, hk, hkl⟩ : ∃ k : Nat, a.tmod l.length = (k : Int) ∧ k < l.length := ⟨(a.tmod l.length).toNat, by omega, by omega⟩
  rw [hk] at hs hlt hgt
  by_cases h0 : (h : Int) % 5 = 0
  ·have f0 : ((h : Int) % 5 == 0) = true := by simp; omega
   clear h0
   go_enter Tryz.func27, Tryz.ntmps27
   go_wp2_with (at_builtin; refine app rfl rfl (OwnB.nil w w.heap.size) hb rfl rfl rfl (by simpa using hll) (Nat.le_refl _) ?_; intro s1 w1 h1 hg1 hat1)
   rw [List.nil_append] at h1
   have hb1 : Below w.heap.size w w1 := below_of_grown hg1 (by simp [Value.ownBlock]) (Nat.le_refl _)
   obtain ⟨g, cap, rfl, hg, hgw, hcap, hcapm⟩ := h1.head hpos
   have hkc : (k : Int) ≤ (cap : Int) := by omega
   have hlenf := run_len_slice (P := Tryz.prog) (w := w1) 41 3 (some ⟨g, 0, none⟩) l.length cap Tryz.underlying41
   rw [hlenf]
   clear hlenf hat1 hg1
   have hs1 := (OwnB.sl h1).1.tk k
   rw [bv_take] at hs1
   go_wp2_with fail
   go_ret
   exact ⟨some ⟨g, 0, none⟩, k, l.take k, by rw [List.length_take, Nat.min_eq_left (by omega)]; rfl, hs1, by rw [List.length_take]; omega, by simp only [maxLen] at *; omega, by rw [List.length_take]; omega, hb1⟩
  by_cases h1 : (h : Int) % 5 = 1
  ·have f0 : ((h : Int) % 5 == 0) = false := by simp; omega
   have f1 : ((h : Int) % 5 == 1) = true := by simp; omega
   clear h0 h1
   go_enter Tryz.func27, Tryz.ntmps27
   go_wp2_with (at_builtin; refine app rfl rfl (OwnB.nil w w.heap.size) hb rfl rfl rfl (by simpa using hll) (Nat.le_refl _) ?_; intro s1 w1 h1 hg1 hat1)
   rw [List.nil_append] at h1
   have hb1 : Below w.heap.size w w1 := below_of_grown hg1 (by simp [Value.ownBlock]) (Nat.le_refl _)
   obtain ⟨g, cap, rfl, hg, hgw, hcap, hcapm⟩ := h1.head hpos
   have hkc : (k : Int) ≤ (cap : Int) := by omega
   have hlenf := run_len_slice (P := Tryz.prog) (w := w1) 41 3 (some ⟨g, 0, none⟩) l.length cap Tryz.underlying41
   rw [hlenf]
   clear hlenf hat1 hg1
   go_wp2_with (at_builtin; refine appN rfl rfl h1 (one_bv x hx) rfl rfl rfl (by simp; omega) hb1.size ?_; intro s2 w2 h2 hg2 hat2)
   obtain ⟨A2, c2, rfl, _⟩ := h2.form
   have hb2 := own_below hb1 hb1.size h1 hg2
   go_ret
   exact changed_of h2 rfl (by simp) hb2
  by_cases h2 : (h : Int) % 5 = 2
  ·have f0 : ((h : Int) % 5 == 0) = false := by simp; omega
   have f1 : ((h : Int) % 5 == 1) = false := by simp; omega
   have f2 : ((h : Int) % 5 == 2) = true := by simp; omega
   clear h0 h1 h2
   go_enter Tryz.func27, Tryz.ntmps27
   go_wp2_with (at_builtin; refine app rfl rfl (OwnB.nil w w.heap.size) hb rfl rfl rfl (by simpa using hll) (Nat.le_refl _) ?_; intro s1 w1 h1 hg1 hat1)
   rw [List.nil_append] at h1
   have hb1 : Below w.heap.size w w1 := below_of_grown hg1 (by simp [Value.ownBlock]) (Nat.le_refl _)
   obtain ⟨g, cap, rfl, hg, hgw, hcap, hcapm⟩ := h1.head hpos
   have hkc : (k : Int) ≤ (cap : Int) := by omega
   have hlenf := run_len_slice (P := Tryz.prog) (w := w1) 41 3 (some ⟨g, 0, none⟩) l.length cap Tryz.underlying41
   rw [hlenf]
   clear hlenf hat1 hg1
   obtain ⟨hcell, hfz, hst, hgr⟩ := h1.store k x (by omega) hx
   have hbst := below_of_grown hgr (B := w.heap.size) (fun g' e => by cases e; exact hg) hb1.size
   go_wp2_with fail
   go_ret
   exact changed_of (l := l.set k (UInt8.ofNat x)) hst (by simp) (by simp) (hb1.trans hbst)
  ·have f0 : ((h : Int) % 5 == 0) = false := by simp; omega
   have f1 : ((h : Int) % 5 == 1) = false := by simp; omega
   have f2 : ((h : Int) % 5 == 2) = false := by simp; omega
   clear h0 h1 h2
   go_enter Tryz.func27, Tryz.ntmps27
   go_wp2_with (at_builtin; refine app rfl rfl (OwnB.nil w w.heap.size) hb rfl rfl rfl (by simpa using hll) (Nat.le_refl _) ?_; intro s1 w1 h1 hg1 hat1)
   rw [List.nil_append] at h1
   have hb1 : Below w.heap.size w w1 := below_of_grown hg1 (by simp [Value.ownBlock]) (Nat.le_refl _)
   obtain ⟨g, cap, rfl, hg, hgw, hcap, hcapm⟩ := h1.head hpos
   have hkc : (k : Int) ≤ (cap : Int) := by omega
   have hlenf := run_len_slice (P := Tryz.prog) (w := w1) 41 3 (some ⟨g, 0, none⟩) l.length cap Tryz.underlying41
   rw [hlenf]
   clear hlenf hat1 hg1
   have hxu : (x : Int) = ((UInt8.ofNat x).toNat : Int) := by simp only [UInt8.toNat_ofNat']; omega
   have HU := Lib.hid hxu
   have hxor : bits .xor .u8 ((l[k]?.getD 0).toNat : Int) (x : Int) = ((l[k]?.getD 0 ^^^ UInt8.ofNat x).toNat : Int) := by rw [HU.out, xor_u8]
   obtain ⟨hcell, hfz, hst, hgr⟩ := h1.store k (l[k]?.getD 0 ^^^ UInt8.ofNat x).toNat (by omega) (UInt8.toNat_lt _)
   rw [UInt8.ofNat_toNat] at hst
   have hbst := below_of_grown hgr (B := w.heap.size) (fun g' e => by cases e; exact hg) hb1.size
   clear hxu
   generalize l[k]?.getD 0 ^^^ UInt8.ofNat x = z at *
   generalize l[k]?.getD 0 = y at *
   go_wp2_with fail
   go_ret
   exact changed_of (l := l.set k z) hst (by simp) (by simp) (hb1.trans hbst)
end Go.Proofs.YtaflikgdlkaefaaGreat
