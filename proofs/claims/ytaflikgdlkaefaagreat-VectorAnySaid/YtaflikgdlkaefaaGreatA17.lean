/- Vectors: may a vector be asked? -/
import Derived.SizedLaws
import Derived.Deep.CondSized
import Derived.JoinedCond
import Derived.ChangeOld
import Derived.Carry
import Derived.ShutString
import Derived.Lib.SmallJoins
import Derived.Deep.Slices
import Derived.Deep.Fields
import Derived.ChangeSame
import Derived.Test.YtaflikgdlkaefaaGreatA00
import Derived.Test.YtaflikgdlkaefaaGreatA01
import Derived.Test.YtaflikgdlkaefaaGreatA08
import Derived.Test.YtaflikgdlkaefaaGreatA11
namespace Go.Proofs.YtaflikgdlkaefaaGreat
open Go.RowKit Go.Proofs.YtaflikgdlkaefaaGreat.Pl Go.Proofs.YtaflikgdlkaefaaGreat.Sp Go.Proofs.YtaflikgdlkaefaaGreat.Ve
set_option maxRecDepth 20000

/-- is a vector light? -/
def lightV (V : VL) : Bool := V.all (fun p => decide (p.2.length ≤ 20)) && decide (V.length ≤ 70)
theorem lightV_lim {V : VL} (h : lightV V = true) : Lim 20 V ∧ V.length ≤ 70 := by
 rw [lightV, Bool.and_eq_true, List.all_eq_true, decide_eq_true_eq] at h
 exact ⟨fun p hp => of_decide_eq_true (h.1 p hp), h.2⟩
set_option maxRecDepth 100000 in
set_option maxHeartbeats 3200000 in
theorem Light_any (w : World) (A : Option Addr) (n c : Nat) (R : List RA) (V : VL) (hv : VS w A n c R V) :
  Calls Tryz.prog 6 #[.agg #[.slice A n c]] w fun e w' => e = .returned (.bool (lightV V)) ∧ Below w.heap.size w w' := by
 have hb0 : Below w.heap.size w (w.alloc (.cells #[.slice A n c] 24)) := balloc (Below.refl _ _) _
 have a0 : At (w.alloc (.cells #[.slice A n c] 24)) w.heap.size [.slice A n c] := At.new w 24 #[.slice A n c]
 have hv0 := hv.below hb0
 have hml := hv.cm
 have hnc := hv.nc
 unfold maxLen at hml
 clear hv
 go_enter Tryz.func6, Tryz.ntmps6
 go_wp2_with fail
 generalize w.alloc (.cells #[.slice A n c] 24) = W0 at *
 go_loopw [3] (fun x3 wr => ∃ (k : Nat), k ≤ n ∧ x3 = .int .i64 (k : Int) ∧ (V.take k).all (fun p => decide (p.2.length ≤ 20)) = true ∧ Below W0.heap.size W0 wr) (fun x3 _ => n - (intOf x3).toNat)
 case atStart => exact ⟨0, by omega, rfl, by simp, Below.refl _ _⟩
 case round =>
  obtain ⟨k, hk, rfl, hall, hbel⟩ := hrel
  have z0 := (a0.below hbel).c 0 rfl
  have hbz := hb0.trans (hbel.mono hb0.size)
  by_cases hlt : k < n
  ·have hvr := hv0.below hbel
   obtain ⟨q, b, o, _, hV, hq, rfl, hbW, c0, c1⟩ := hvr.at_ hlt
   have hd1 : decide ((k : Int) < (n : Int)) = true := by rw [decide_eq_true_eq]; omega
   have hn0 : (0 : Int) ≤ (k : Int) := by omega
   have hn1 : (k : Int) < (n : Int) := by omega
   obtain ⟨r, Aq, cq, l⟩ := q
   dsimp only at *
   by_cases hg : 20 < l.length
   ·have hd2 : decide ((20 : Int) < (l.length : Int)) = true := by rw [decide_eq_true_eq]; omega
    have HF := Lib.hid (show lightV V = false by
     rw [lightV, Bool.and_eq_false_iff]
     left
     rw [List.all_eq_false]
     exact ⟨_, List.mem_of_getElem? hV, by simpa using hg⟩)
    clear hvr hq hV hall
    go_wp2_with fail
    go_ret
    exact ⟨ret_b HF.out.symm, hbz⟩
   ·have hd2 : decide ((20 : Int) < (l.length : Int)) = false := by rw [decide_eq_false_iff_not]; omega
    have hall' : (V.take (k + 1)).all (fun p => decide (p.2.length ≤ 20)) = true := by
     rw [List.take_add_one, hV, List.all_append, hall]
     simpa using hg
    have HA := Lib.hid hall'
    clear hvr hq hV hall hall'
    go_wp2_with fail
    go_roundw
    case rel => exact ⟨k + 1, by omega, by go_num, HA.out, hbel⟩
    case measure => simp [intOf]; omega
  ·obtain rfl : k = n := by omega
   have hd1 : decide ((k : Int) < (k : Int)) = false := by rw [decide_eq_false_iff_not]; omega
   have hVl := hv0.len
   rw [show V.take k = V by rw [← hVl, List.take_length]] at hall
   have HF := Lib.hid (show lightV V = decide ((k : Int) ≤ 70) by
    rw [lightV, hall, Bool.true_and, hVl]
    exact decide_eq_decide.2 (by omega))
   clear hall
   go_wp2_with fail
   go_ret
   exact ⟨ret_b HF.out.symm, hbz⟩
end Go.Proofs.YtaflikgdlkaefaaGreat
/- A law's statement out of its walk: whatever its parameters, where nothing that was there has turned and the answer is true. -/
namespace Go.Proofs.YtaflikgdlkaefaaGreat
set_option maxRecDepth 20000
open Go.ChangeShapes Go.WideShapes Go.ChangeAt Go.RowKit

theorem own : ownKnob Tryz.prog.godebug = none := by kernel_rfl
theorem laidOut : laidOutB Tryz.prog = true := by kernel_rfl

section
variable {H : Type} {enc : TypeId × Value → H}
abbrev Rd (enc : TypeId × Value → H) (W : World) (t : TypeId) (v : Value) (d : DataW H) (p : List MemPlace) : Prop := DataW.Trod enc Tryz.prog W 0 (fun _ => true) true t v d p
abbrev RdAll (enc : TypeId × Value → H) (W : World) (ts : List TypeId) (vs : List Value) (ds : List (DataW H)) (p : List MemPlace) : Prop := DataW.TrodAll enc Tryz.prog W 0 (fun _ => true) true ts vs ds p
theorem rdAll_below {W W' : World} (hb : Below W.heap.size W W') : ∀ (ts : List TypeId) (vs : List Value) (ds : List (DataW H)) (p : List MemPlace),
  (∀ t ∈ ts, Tryz.prog.readableRec t = true ∧ t < Tryz.prog.types.size) → RdAll enc W ts vs ds p → DataW.TrodAll enc Tryz.prog W' 0 (fun b => decide (b < W.heap.size)) true ts vs ds p
 | [], vs, ds, p, _, h => by
  obtain ⟨rfl, rfl, rfl⟩ := trodAll_nil h
  exact trodAll_mk0
 | t :: ts, vs, ds, p, ht, h => by
  obtain ⟨v, vs', d, ds', p0, q0, rfl, rfl, rfl, h0, r0⟩ := trodAll_cons h
  have lt0 : ∀ x ∈ p0, x.block < W.heap.size := by obtain ⟨m, hm⟩ := h0; exact DataW.trod_lt m _ _ _ hm
  exact trodAll_cons_mk (Below.trod laidOut (ht t (by simp)).1 (ht t (by simp)).2 h0 hb lt0) (rdAll_below hb ts vs' ds' q0 (fun x hx => ht x (by simp [hx])) r0)
theorem rdAll_len {W : World} : ∀ (ts : List TypeId) (vs : List Value) (ds : List (DataW H)) (p : List MemPlace), RdAll enc W ts vs ds p → ds.length = ts.length
 | [], vs, ds, p, h => by obtain ⟨rfl, rfl, rfl⟩ := trodAll_nil h; rfl
 | t :: ts, vs, ds, p, h => by
  obtain ⟨v, vs', d, ds', p0, q0, rfl, rfl, rfl, h0, r0⟩ := trodAll_cons h
  simp [rdAll_len ts vs' ds' q0 r0]
/-- What is known of the arguments. -/
structure Args (enc : TypeId × Value → H) (fn : Func) (W : World) (args : Array Value) (ds : List (DataW H)) (p : List MemPlace) : Prop where
 ok : ∃ base : Nat, ∀ (j : Nat) t v, fn.params[j]? = some t → args[j]? = some v → Value.okWide Tryz.prog W .any base t v
 rd : RdAll enc W fn.params.toList args.toList ds p
 fits : ∀ n ∈ DataW.weightsEach Tryz.prog fn.params.toList ds, n ≤ reachBytes
end

/-- THE FORM's STEP: '..Said'. -/
theorem lifted (f : FuncId) (fn : Func) (s : ChangeSpec) (hfn : Tryz.prog.funcs[f]? = some fn) (noInit : Tryz.prog.inits.idxOf? f = none) (hvars : s.vars = []) (hres : fn.resultTypes = #[4])
  (hr : ∀ t ∈ fn.params.toList, Tryz.prog.readableRec t = true ∧ t < Tryz.prog.types.size)
  (hs : ∀ (H : Type) (ds : List (DataW H)), ds.length = fn.params.toList.length → s.fn H (ds ++ []) = { results := [.lit (.bool true)], args := ds })
  (os : Os) (started : os.Started) (H : Type) (enc : TypeId × Value → H)
  (witness : ∃ (w : World) (tape : Tape) (i : Input), w.os = os ∧ (w.forCall tape i).Shaped Tryz.prog ∧ i.vars = [] ∧ Input.okWide Tryz.prog (w.forCall tape i) .any w.heap.size f i ∧
   s.pre6 enc Tryz.prog fn [] false (w.forCall tape i).memory i.args ∧ ({} : Assume).holds Tryz.prog (lone (Frame.enter Tryz.prog f i.args .normal) [] (w.forCall tape i)))
  (walk : ∀ (W : World) (args : Array Value) (ds : List (DataW H)) (p : List MemPlace), Args enc fn W args ds p → Calls Tryz.prog f args W fun e W' => e = .returned (.bool true) ∧ Below W.heap.size W W') :
  ReturnsInHanded {} Tryz.checked os f .any (s.pre6 enc Tryz.prog fn [] false) (s.post enc Tryz.prog fn false true false false) := by
 refine returnsInHanded_of_change_sized (C := Tryz.checked) own started noInit hfn witness ?_
 intro W base args ds gs before hval hW _ hsz0 _
 have hsz : (DataW.weightsEach Tryz.prog (fn.params.toList ++ s.plain.varTypes Tryz.prog) (ds ++ gs)).all (· ≤ reachBytes) = true := hsz0
 have hW' := hW
 obtain ⟨p, q, hA0, hV, rfl, hfz, hnd⟩ := hW
 have hA : RdAll enc W fn.params.toList args.toList ds p := hA0
 rw [hvars] at hV
 obtain ⟨rfl, rfl⟩ := trodVars_none hV
 have hvt : s.plain.varTypes Tryz.prog = [] := by simp [ChangeSpec.plain, DataSpec.varTypes, hvars]
 rw [hvt] at hsz
 simp only [List.append_nil] at hsz
 refine (walk W args ds p ⟨⟨base, hval⟩, hA, fun n hn => by simpa using List.all_eq_true.1 hsz n hn⟩).mono fun e W' ⟨he, bel⟩ => ?_
 subst he
 have e := hs H ds (rdAll_len _ _ _ _ hA)
 refine ⟨_, rfl, ds, [], p ++ [], [], p, [], hW', ?_, ?_, ?_, bel.frame _, fun h => by cases h⟩
 ·rw [e, hres]
  exact trodAll_mk1 (shut_bool Tryz.underlying4 _)
 ·rw [e]
  exact rdAll_below bel _ _ _ _ hr hA
 ·rw [e, hvars]; rfl

/-! ### the arguments, one by one -/
section
variable {H : Type} {enc : TypeId × Value → H}
structure One (enc : TypeId × Value → H) (W : World) (base : Nat) (t : TypeId) (v : Value) (d : DataW H) (p : List MemPlace) : Prop where
 ok : Value.okWide Tryz.prog W .any base t v
 rd : Rd enc W t v d p
 fits : ∀ n ∈ d.weights Tryz.prog t, n ≤ reachBytes
structure Many (enc : TypeId × Value → H) (W : World) (base : Nat) (ts : List TypeId) (vs : List Value) (ds : List (DataW H)) (p : List MemPlace) : Prop where
 ok : ∀ (j : Nat) t v, ts[j]? = some t → vs[j]? = some v → Value.okWide Tryz.prog W .any base t v
 rd : RdAll enc W ts vs ds p
 fits : ∀ n ∈ DataW.weightsEach Tryz.prog ts ds, n ≤ reachBytes
theorem Args.many {fn : Func} {W : World} {args : Array Value} {ds : List (DataW H)} {p : List MemPlace} (h : Args enc fn W args ds p) {ts : List TypeId} (ht : fn.params.toList = ts) : ∃ base vs, args = vs.toArray ∧ Many enc W base ts vs ds p := by
 obtain ⟨⟨base, ok⟩, rd, fits⟩ := h
 subst ht
 exact ⟨base, args.toList, by simp, fun j t v h1 h2 => ok j t v (by simpa using h1) (by simpa using h2), rd, fits⟩
theorem Many.cons {W : World} {base : Nat} {t : TypeId} {ts : List TypeId} {vs : List Value} {ds : List (DataW H)} {p : List MemPlace} (h : Many enc W base (t :: ts) vs ds p) :
  ∃ v vs' d ds' p' q, vs = v :: vs' ∧ ds = d :: ds' ∧ One enc W base t v d p' ∧ Many enc W base ts vs' ds' q := by
 obtain ⟨ok, rd, fits⟩ := h
 obtain ⟨v, vs', d, ds', p0, q0, rfl, rfl, rfl, h0, r0⟩ := trodAll_cons rd
 exact ⟨v, vs', d, ds', p0, q0, rfl, rfl, ⟨ok 0 t v rfl rfl, h0, fun n hn => fits n (by simp only [DataW.weightsEach, List.mem_append]; exact .inl hn)⟩,
  ⟨fun j t v h1 h2 => ok (j + 1) t v (by simpa using h1) (by simpa using h2), r0, fun n hn => fits n (by simp only [DataW.weightsEach, List.mem_append]; exact .inr hn)⟩⟩
theorem Many.nil {W : World} {base : Nat} {vs : List Value} {ds : List (DataW H)} {p : List MemPlace} (h : Many enc W base [] vs ds p) : vs = [] ∧ ds = [] := by
 obtain ⟨rfl, rfl, _⟩ := trodAll_nil h.rd
 exact ⟨rfl, rfl⟩

variable {W : World} {base : Nat} {t e : TypeId} {v : Value} {d : DataW H} {p : List MemPlace}
theorem One.int {k : IntKind} (h : One enc W base t v d p) (ht : Tryz.prog.underlying t = some (.int k)) : ∃ a : Int, v = .int k a ∧ (Lit.int k a).wf = true ∧ d = .lit (.int k a) := by
 obtain ⟨a, rfl, rfl, rfl, w⟩ := open_int ht h.ok h.rd
 exact ⟨a, rfl, w, rfl⟩
theorem One.bool (h : One enc W base t v d p) (ht : Tryz.prog.underlying t = some .bool) : ∃ b : Bool, v = .bool b := by
 obtain ⟨b, rfl, _⟩ := open_bool ht h.ok h.rd
 exact ⟨b, rfl⟩
theorem One.u8 (h : One enc W base t v d p) (ht : Tryz.prog.underlying t = some (.int .u8)) : ∃ n : Nat, v = .int .u8 (n : Int) ∧ n < 256 := by
 obtain ⟨a, rfl, w, _⟩ := h.int ht
 have hx : 0 ≤ a ∧ a ≤ 255 := by simpa [Lit.wf, IntKind.min, IntKind.max, IntKind.signed, IntKind.bits] using w
 exact ⟨a.toNat, by rw [Int.toNat_of_nonneg hx.1], by omega⟩
theorem One.u64 (h : One enc W base t v d p) (ht : Tryz.prog.underlying t = some (.int .u64)) : ∃ n : Nat, v = .int .u64 (n : Int) ∧ U64 n := by
 obtain ⟨a, rfl, w, _⟩ := h.int ht
 have hx : 0 ≤ a ∧ a ≤ 18446744073709551615 := by simpa [Lit.wf, IntKind.min, IntKind.max, IntKind.signed, IntKind.bits] using w
 exact ⟨a.toNat, by rw [Int.toNat_of_nonneg hx.1], U64.mk (by omega)⟩
theorem One.i64 (h : One enc W base t v d p) (ht : Tryz.prog.underlying t = some (.int .i64)) : ∃ a : Int, v = .int .i64 a ∧ -9223372036854775808 ≤ a ∧ a ≤ 9223372036854775807 := by
 obtain ⟨a, rfl, w, _⟩ := h.int ht
 have hx : -9223372036854775808 ≤ a ∧ a ≤ 9223372036854775807 := by simpa [Lit.wf, IntKind.min, IntKind.max, IntKind.signed, IntKind.bits] using w
 exact ⟨a, rfl, hx⟩
theorem bulkAll_lits (k : IntKind) : ∀ zs : List Int, Rows.uptoBulkAll (H := H) (lits k zs) = zs.length
 | [] => rfl
 | z :: t => by
  have := bulkAll_lits k t
  simp only [lits, List.map_cons, Rows.uptoBulkAll, Rows.uptoBulk, List.length_cons] at this ⊢
  omega
/-- A slice of integers. -/
theorem One.ints {k : IntKind} {m : Nat} (h : One enc W base t v d p) (ht : Tryz.prog.underlying t = some (.slice e)) (he : Tryz.prog.underlying e = some (.int k)) (hc : Tryz.prog.cellsOf e = 1) (hm : Tryz.prog.bytesOf e = m) :
  ∃ (A : Option Addr) (c : Nat) (zs : List Int), v = .slice A zs.length c ∧ Sl W W.heap.size A (zs.map (Value.int k)) ∧ zs.length ≤ c ∧ c ≤ maxLen ∧ c * m ≤ reachBytes ∧ (∀ z ∈ zs, (Lit.int k z).wf = true) ∧ c < Rows.uptoBulk d := by
 obtain ⟨ok, rd, fits⟩ := h
 obtain ⟨A, len, cap, rfl⟩ := okWide_slice ht ok
 obtain ⟨fuel, hf⟩ := rd
 rcases open_ints ht he hc hf with ⟨hcs, hx⟩ | ⟨x, l, c, zs, hcs, _, hl, hm', hz, hx, hcell, hwz⟩
 ·simp [Value.cells] at hcs
  obtain ⟨rfl, rfl, rfl⟩ := hcs
  simp only [Prod.mk.injEq] at hx
  obtain ⟨rfl, _⟩ := hx
  exact ⟨none, 0, [], rfl, Sl.nil, by simp, by simp [maxLen], by simp, by simp, by simp [Rows.uptoBulk]⟩
 ·simp [Value.cells] at hcs
  obtain ⟨rfl, rfl, rfl⟩ := hcs
  simp only [Prod.mk.injEq] at hx
  obtain ⟨rfl, _⟩ := hx
  simp only [if_true] at hz
  have hlen : (zs.take len).length = len := by rw [List.length_take]; omega
  refine ⟨some x, cap, zs.take len, by rw [hlen], ?_, by omega, hm', ?_, fun z hz' => hwz z (List.mem_of_mem_take hz'), ?_⟩
  ·by_cases h0 : len = 0
   ·subst h0; simp [Sl]
   ·obtain ⟨b, o, spot⟩ := x
    have hc0 := hcell 0 (by omega)
    have hspot : spot = none := by simpa [Addr.add] using World.cell?_spot hc0
    subst hspot
    have hbl : b < W.heap.size := by
     have := World.block_lt_of_cell? W _ hc0
     simpa [Addr.add] using this
    refine .inr ⟨b, o, rfl, hbl, hbl, fun j u hu => ?_⟩
    have hj : j < len := by
     have := (List.getElem?_eq_some_iff.1 hu).1
     rw [List.length_map, hlen] at this; exact this
    have := hcell j (by omega)
    have e1 : (⟨b, o, none⟩ : Addr).add j = ⟨b, o + j, none⟩ := by
     unfold Addr.add
     split
     ·rename_i h0; subst h0; rfl
     ·rfl
    rw [e1] at this
    rw [this]
    rw [List.getElem?_map, List.getElem?_take, if_pos hj] at hu
    rw [← hu]
    simp [List.getD, List.getElem?_eq_getElem (show j < zs.length by omega)]
  ·have := fits ((lits (H := H) k (zs.take len)).length + (lits (H := H) k (zs.drop len)).length |> (· * Tryz.prog.bytesOf e)) (by simp [DataW.weights, ht])
   simp only [lits, List.length_map, List.length_take, List.length_drop] at this
   rw [hm] at this
   rw [show min len zs.length + (zs.length - len) = cap by omega] at this
   exact this
  ·simp only [Rows.uptoBulk, bulkAll_lits, List.length_take, List.length_drop]
   omega
/-- A slice of bytes. -/
theorem One.bytes (h : One enc W base 41 v d p) : ∃ (A : Option Addr) (c : Nat) (l : List UInt8), v = .slice A l.length c ∧ Sl W W.heap.size A (bv l) ∧ l.length ≤ c ∧ c ≤ 140737488351232 ∧ c < Rows.uptoBulk d := by
 obtain ⟨A, c, zs, rfl, hs, h1, h2, h3, h4, h5⟩ := h.ints (m := 1) Tryz.underlying41 Tryz.underlying5 (by kernel_rfl) (by kernel_rfl)
 refine ⟨A, c, zs.map (fun z => UInt8.ofNat z.toNat), by simp, ?_, by simpa using h1, by simp only [reachBytes] at h3; omega, h5⟩
 have e : bv (zs.map (fun z => UInt8.ofNat z.toNat)) = zs.map (Value.int .u8) := by
  simp only [bv, List.map_map]
  refine List.map_congr_left fun z hz => ?_
  have hx : 0 ≤ z ∧ z ≤ 255 := by simpa [Lit.wf, IntKind.min, IntKind.max, IntKind.signed, IntKind.bits] using h4 z hz
  simp only [Function.comp, u8v, UInt8.toNat_ofNat']
  congr 1
  omega
 rw [e]
 exact hs
end
end Go.Proofs.YtaflikgdlkaefaaGreat
/- An argument that is a slice of structs. -/
namespace Go.Proofs.YtaflikgdlkaefaaGreat
open Go.RowKit
set_option maxRecDepth 20000
theorem sl_of_cells (W : World) (a : Addr) (xs : List Value) (h : ∀ (j : Nat) (u : Value), xs[j]? = some u → W.cell? (a.add j) = some u) : Sl W W.heap.size (some a) xs := by
 cases xs with
 | nil => exact .inl rfl
 | cons x t =>
  obtain ⟨b, o, spot⟩ := a
  have hc0 := h 0 x rfl
  have hspot : spot = none := by simpa [Addr.add] using World.cell?_spot hc0
  subst hspot
  have hbl : b < W.heap.size := by
   have := World.block_lt_of_cell? W _ hc0
   simpa [Addr.add] using this
  refine .inr ⟨b, o, rfl, hbl, hbl, fun j u hu => ?_⟩
  have := h j u hu
  have e1 : (⟨b, o, none⟩ : Addr).add j = ⟨b, o + j, none⟩ := by
   unfold Addr.add
   split
   ·rename_i h0; subst h0; rfl
   ·rfl
  rw [e1] at this
  exact this
theorem wf_i64' (a : Int) (h : (Lit.int .i64 a).wf = true) : i64in a := by
 have : -9223372036854775808 ≤ a ∧ a ≤ 9223372036854775807 := by simpa [Lit.wf, IntKind.min, IntKind.max, IntKind.signed, IntKind.bits] using h
 exact this
section
open Go.Joins Go.ChangeShapes Go.WideShapes Go.ChangeAt Go.RowKit Go.Deep
variable {H : Type} {enc : TypeId × Value → H} {W : World} {base : Nat} {t : TypeId} {v : Value} {d : DataW H} {p : List MemPlace}
/-- the cells of some things, one behind another -/
theorem flat_get {α : Type} (cells : α → List Value) (C : Nat) (h0 : 0 < C) (hl : ∀ x, (cells x).length = C) : ∀ (ls : List α) (j : Nat), (ls.flatMap cells)[j]? = (ls[j / C]?).bind fun x => (cells x)[j % C]?
 | [], j => by simp
 | x :: ls, j => by
  rw [List.flatMap_cons]
  by_cases h : j < C
  ·rw [List.getElem?_append_left (by rw [hl]; exact h), Nat.div_eq_of_lt h, Nat.mod_eq_of_lt h]; rfl
  ·rw [List.getElem?_append_right (by rw [hl]; omega), hl, flat_get cells C h0 hl ls (j - C)]
   have h1 : j / C = (j - C) / C + 1 := by
    rw [← Nat.add_div_right _ h0]; congr 1; omega
   have h2 : j % C = (j - C) % C := (Nat.mod_eq_sub_mod (by omega))
   rw [h1, h2]; rfl
theorem One.rows {α : Type} (cells : α → List Value) (C : Nat) (h0 : 0 < C) (hl : ∀ x, (cells x).length = C) (ok : α → Prop) (d0 : α) {e : TypeId} (ht : Tryz.prog.underlying t = some (.slice e)) (hC : Tryz.prog.cellsOf e = C)
  (hE : ∀ n cs' y, DataW.trod enc Tryz.prog W 0 (fun _ => true) true n e cs' = some y → ∃ x, cs' = cells x ∧ ok x) (h : One enc W base t v d p) :
  ∃ (A : Option Addr) (c : Nat) (ls : List α), v = .slice A ls.length c ∧ Sl W W.heap.size A (ls.flatMap cells) ∧ ls.length ≤ c ∧ c ≤ Go.maxLen ∧ ∀ x ∈ ls, ok x := by
 have hok := h.ok
 have rd := h.rd
 obtain ⟨A, len, cap, rfl⟩ := okWide_slice ht hok
 obtain ⟨fuel, hf⟩ := rd
 rcases open_slice ht hf with ⟨hcs, _⟩ | ⟨a, len', cap', m, n, D, Pl, hcs, _, hle, hm, hmm, _, hr⟩
 ·simp [Value.cells] at hcs
  obtain ⟨rfl, rfl, rfl⟩ := hcs
  exact ⟨none, 0, [], rfl, Sl.nil, by simp, by simp [Go.maxLen], by simp⟩
 ·simp [Value.cells] at hcs
  obtain ⟨rfl, rfl, rfl⟩ := hcs
  have hmm' : m = cap := by simpa using hmm
  subst hmm'
  have hx : ∀ i, ∃ x : α, i < m → ok x ∧ ∀ k, k < C → W.cell? (a.add (i * C + k)) = (cells x)[k]? := by
   intro i
   by_cases hi : i < m
   ·obtain ⟨cs', h1, h2⟩ := hr i hi
    obtain ⟨x, rfl, hx⟩ := hE _ _ _ h2
    rw [hC] at h1
    obtain ⟨_, _, h3⟩ := World.cells?_some h1
    exact ⟨x, fun _ => ⟨hx, fun k hk => by rw [← Go.Deep.add_add]; exact h3 k hk⟩⟩
   ·exact ⟨d0, fun h => absurd h hi⟩
  obtain ⟨f, hf'⟩ := Classical.axiomOfChoice hx
  refine ⟨some a, m, (List.range len).map f, by simp, sl_of_cells W a _ fun j u hu => ?_, by simpa using hle, hm, ?_⟩
  ·rw [flat_get cells C h0 hl, List.getElem?_map] at hu
   by_cases hj : j / C < len
   ·rw [List.getElem?_range hj] at hu
    have hk := (hf' (j / C) (by omega)).2 (j % C) (Nat.mod_lt _ h0)
    rw [Nat.div_add_mod' j C] at hk
    rw [hk]
    exact hu
   ·rw [List.getElem?_eq_none (by simpa using hj)] at hu
    cases hu
  ·intro x hx
   obtain ⟨i, hi, rfl⟩ := List.mem_map.1 hx
   exact (hf' i (by have := List.mem_range.1 hi; omega)).1
end
end Go.Proofs.YtaflikgdlkaefaaGreat
/- What lies inside an element: a slice of things read. -/
namespace Go.Proofs.YtaflikgdlkaefaaGreat
open Go.RowKit
section
open Go.Joins Go.ChangeShapes Go.WideShapes Go.ChangeAt Go.RowKit Go.Deep
variable {H : Type} {enc : TypeId × Value → H} {W : World} {t : TypeId}
theorem rows_of_trod {α : Type} (cells : α → List Value) (C : Nat) (h0 : 0 < C) (hl : ∀ x, (cells x).length = C) (ok : α → Prop) (d0 : α) {e : TypeId} (ht : Tryz.prog.underlying t = some (.slice e)) (hC : Tryz.prog.cellsOf e = C)
  (hE : ∀ n cs' y, DataW.trod enc Tryz.prog W 0 (fun _ => true) true n e cs' = some y → ∃ x, cs' = cells x ∧ ok x) {n0 : Nat} {cs : List Value} {y0 : DataW H × List MemPlace} (hf : DataW.trod enc Tryz.prog W 0 (fun _ => true) true n0 t cs = some y0) :
  ∃ (A : Option Addr) (c : Nat) (ls : List α), cs = [.slice A ls.length c] ∧ Sl W W.heap.size A (ls.flatMap cells) ∧ ls.length ≤ c ∧ c ≤ maxLen ∧ ∀ x ∈ ls, ok x := by
 rcases open_slice ht hf with ⟨hcs, _⟩ | ⟨a, len', cap', m, n, D, Pl, hcs, _, hle, hm, hmm, _, hr⟩
 ·exact ⟨none, 0, [], hcs, Sl.nil, by simp, by simp [maxLen], by simp⟩
 ·have hmm' : m = cap' := by simpa using hmm
  subst hmm'
  subst hcs
  have hx : ∀ i, ∃ x : α, i < m → ok x ∧ ∀ k, k < C → W.cell? (a.add (i * C + k)) = (cells x)[k]? := by
   intro i
   by_cases hi : i < m
   ·obtain ⟨cs', h1, h2⟩ := hr i hi
    obtain ⟨x, rfl, hx⟩ := hE _ _ _ h2
    rw [hC] at h1
    obtain ⟨_, _, h3⟩ := World.cells?_some h1
    exact ⟨x, fun _ => ⟨hx, fun k hk => by rw [← Go.Deep.add_add]; exact h3 k hk⟩⟩
   ·exact ⟨d0, fun h => absurd h hi⟩
  obtain ⟨f, hf'⟩ := Classical.axiomOfChoice hx
  refine ⟨some a, m, (List.range len').map f, by simp, sl_of_cells W a _ fun j u hu => ?_, by simpa using hle, hm, ?_⟩
  ·rw [flat_get cells C h0 hl, List.getElem?_map] at hu
   by_cases hj : j / C < len'
   ·rw [List.getElem?_range hj] at hu
    have hk := (hf' (j / C) (by omega)).2 (j % C) (Nat.mod_lt _ h0)
    rw [Nat.div_add_mod' j C] at hk
    rw [hk]
    exact hu
   ·rw [List.getElem?_eq_none (by simpa using hj)] at hu
    cases hu
  ·intro x hx
   obtain ⟨i, hi, rfl⟩ := List.mem_map.1 hx
   exact (hf' i (by have := List.mem_range.1 hi; omega)).1
def bytesOfZ (zs : List Int) : List UInt8 := zs.map (fun z => UInt8.ofNat z.toNat)
theorem trod_structN2 {t : TypeId} {f0 f1 : Field} {fuel : Nat} {cs : List Value} {x : DataW H × List MemPlace} (ht : Tryz.prog.underlying t = some (.struct #[f0, f1])) (h : DataW.trod enc Tryz.prog W 0 (fun _ => true) true fuel t cs = some x) :
  ∃ y0 y1 n, cs.length = Tryz.prog.cellsOf t ∧ DataW.trod enc Tryz.prog W 0 (fun _ => true) true n f0.type ((cs.drop f0.offset).take (Tryz.prog.cellsOf f0.type)) = some y0 ∧ DataW.trod enc Tryz.prog W 0 (fun _ => true) true n f1.type ((cs.drop f1.offset).take (Tryz.prog.cellsOf f1.type)) = some y1 := by
 obtain ⟨xs, n, _, rfl, hl, hlen, hf⟩ := DataW.trod_struct ht h
 match xs, hlen with
 | [y0, y1], _ => exact ⟨y0, y1, n, hl, by simpa using hf 0 f0 rfl, by simpa using hf 1 f1 rfl⟩
theorem i64_of_trod (ht : Tryz.prog.underlying t = some (.int .i64)) {n0 : Nat} {cs : List Value} {y0 : DataW H × List MemPlace} (hf : DataW.trod enc Tryz.prog W 0 (fun _ => true) true n0 t cs = some y0) : ∃ a : Int, cs = [.int .i64 a] ∧ -9223372036854775808 ≤ a ∧ a ≤ 9223372036854775807 := by
 obtain ⟨a0, e0, _, w0⟩ := DataW.trod_int (k := .i64) ht hf
 have w0' : -9223372036854775808 ≤ a0 ∧ a0 ≤ 9223372036854775807 := by simpa [Lit.wf, IntKind.min, IntKind.max, IntKind.signed, IntKind.bits] using w0
 exact ⟨a0, e0, w0'⟩
end
end Go.Proofs.YtaflikgdlkaefaaGreat
/- Dots: an argument that is a range, or some. -/
namespace Go.Proofs.YtaflikgdlkaefaaGreat
open Go.RowKit Go.Proofs.YtaflikgdlkaefaaGreat.Sp
set_option maxRecDepth 20000
section
open Go.Joins Go.ChangeShapes Go.WideShapes Go.ChangeAt Go.RowKit Go.Deep
variable {H : Type} {enc : TypeId × Value → H} {W : World} {base : Nat} {t : TypeId} {v : Value} {d : DataW H} {p : List MemPlace}
theorem rg_of_trod (n : Nat) (cs' : List Value) (y : DataW H × List MemPlace) (h : DataW.trod enc Tryz.prog W 0 (fun _ => true) true n 58 cs' = some y) : ∃ s : Rg, cs' = s.cells ∧ s.wfR := by
 obtain ⟨y0, y1, n', hx, hlen, h0, h1⟩ := trod_struct2 Tryz.underlying58 h
 have hC : Tryz.prog.cellsOf 58 = 2 := by kernel_rfl
 have k0 : Tryz.prog.cellsOf 2 = 1 := by kernel_rfl
 have k1 : Tryz.prog.cellsOf 2 = 1 := by kernel_rfl
 rw [hC] at hlen
 match cs', hlen with
 | [c0, c1], _ =>
  simp only [k0, k1, List.drop, List.take] at h0 h1
  obtain ⟨a0, e0, _, w0⟩ := DataW.trod_int (k := .i64) Tryz.underlying2 h0
  obtain ⟨a1, e1, _, w1⟩ := DataW.trod_int (k := .i64) Tryz.underlying2 h1
  cases e0; cases e1
  exact ⟨⟨a0, a1⟩, rfl, wf_i64' a0 w0, wf_i64' a1 w1⟩
end
end Go.Proofs.YtaflikgdlkaefaaGreat
/- Dots: an argument that is a dot, or some. -/
namespace Go.Proofs.YtaflikgdlkaefaaGreat
open Go.RowKit Go.Proofs.YtaflikgdlkaefaaGreat.Dt
set_option maxRecDepth 20000
section
open Go.Joins Go.ChangeShapes Go.WideShapes Go.ChangeAt Go.RowKit Go.Deep
variable {H : Type} {enc : TypeId × Value → H} {W : World} {base : Nat} {t : TypeId} {v : Value} {d : DataW H} {p : List MemPlace}
theorem One.dot (h : One enc W base 26 v d p) : ∃ s : D2, v = s.v ∧ s.ok := by
 have ok := h.ok
 have rd := h.rd
 obtain ⟨v0, v1, y0, y1, n, rfl, _, _, h0, h1⟩ := open_agg2 Tryz.underlying26 (by kernel_rfl) (by kernel_rfl) ok rd
 obtain ⟨a0, e0, _, w0⟩ := DataW.trod_int (k := .i64) Tryz.underlying3 h0
 obtain ⟨a1, e1, _, w1⟩ := DataW.trod_int (k := .i64) Tryz.underlying2 h1
 cases e0; cases e1
 exact ⟨⟨a0, a1⟩, rfl, wf_i64' a0 w0, wf_i64' a1 w1⟩
end
end Go.Proofs.YtaflikgdlkaefaaGreat
/- A vector as an argument. -/
namespace Go.Proofs.YtaflikgdlkaefaaGreat
open Go.RowKit Go.Proofs.YtaflikgdlkaefaaGreat.Sp Go.Proofs.YtaflikgdlkaefaaGreat.Ve
set_option maxRecDepth 20000
section
open Go.Joins Go.ChangeShapes Go.WideShapes Go.ChangeAt Go.RowKit Go.Deep
variable {H : Type} {enc : TypeId × Value → H} {W : World} {base : Nat} {t : TypeId} {v : Value} {d : DataW H} {p : List MemPlace}
theorem rgs_of_trod {n0 : Nat} {cs : List Value} {y0 : DataW H × List MemPlace} (hf : DataW.trod enc Tryz.prog W 0 (fun _ => true) true n0 35 cs = some y0) :
  ∃ (A : Option Addr) (c : Nat) (ls : List Rg), cs = [.slice A ls.length c] ∧ Sl W W.heap.size A (rv ls) ∧ ls.length ≤ c ∧ c ≤ maxLen ∧ ∀ x ∈ ls, x.wfR :=
 rows_of_trod Rg.cells 2 (by omega) (fun _ => rfl) Rg.wfR ⟨0, 0⟩ Tryz.underlying35 (by kernel_rfl) rg_of_trod hf
theorem row_of_trod (n : Nat) (cs' : List Value) (y : DataW H × List MemPlace) (h : DataW.trod enc Tryz.prog W 0 (fun _ => true) true n 60 cs' = some y) : ∃ q : RA, cs' = q.cells ∧ RSt W q := by
 obtain ⟨x0, x1, n', hl, h0, h1⟩ := trod_structN2 Tryz.underlying60 h
 have hC : Tryz.prog.cellsOf 60 = 2 := by kernel_rfl
 have k0 : Tryz.prog.cellsOf 3 = 1 := by kernel_rfl
 have k1 : Tryz.prog.cellsOf 35 = 1 := by kernel_rfl
 rw [hC] at hl
 match cs', hl with
 | [c0, c1], _ =>
  simp only [k0, k1, List.drop, List.take] at h0 h1
  obtain ⟨a0, e0, w0, w0'⟩ := i64_of_trod Tryz.underlying3 h0
  obtain ⟨A, c, ls, e1, b1, b2, b3, _⟩ := rgs_of_trod h1
  cases e0; cases e1
  exact ⟨⟨a0, A, c, ls⟩, rfl, b1, b2, b3⟩
theorem One.vec (h : One enc W base 24 v d p) : ∃ (A : Option Addr) (n c : Nat) (R : List RA) (V : VL), v = .agg #[.slice A n c] ∧ VS W A n c R V := by
 have ok := h.ok
 have rd := h.rd
 obtain ⟨cs, rfl, hsz⟩ := okWide_struct Tryz.underlying24 ok
 have hC : Tryz.prog.cellsOf 24 = 1 := by kernel_rfl
 have k0 : Tryz.prog.cellsOf 22 = 1 := by kernel_rfl
 rw [hC] at hsz
 obtain ⟨fuel, hf⟩ := rd
 obtain ⟨c0, rfl⟩ : ∃ c0, cs = #[c0] := Array.size_eq_one_iff.1 hsz
 obtain ⟨y0, n, hx, hlen, h0⟩ := trod_struct1 Tryz.underlying24 hf
 simp only [Value.cells, k0, List.drop, List.take] at h0
 obtain ⟨A, c, ls, e0, b1, b2, b3, b4⟩ := rows_of_trod RA.cells 2 (by omega) (fun _ => rfl) (RSt W) z0RA Tryz.underlying22 (by kernel_rfl) row_of_trod h0
 injection e0 with e0 _
 subst e0
 exact ⟨A, ls.length, c, ls, ls.map RA.p, rfl, rfl, b2, b3, b1, b4, rfl⟩
end
end Go.Proofs.YtaflikgdlkaefaaGreat
