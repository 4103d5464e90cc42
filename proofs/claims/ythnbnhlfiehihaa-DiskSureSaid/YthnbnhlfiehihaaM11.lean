/- A law's statement out of its walk: whatever its parameters, where nothing that was there has turned and the answer is true. -/
import Derived.SizedLaws
import Derived.Deep.CondSized
import Derived.JoinedCond
import Derived.ChangeOld
import Derived.Carry
import Derived.ShutString
import Derived.Laws.StructEq
import Derived.Lib.SmallJoins
import Derived.Deep.Slices
import Derived.Deep.Fields
import Derived.ChangeSame
import Derived.Test.YthnbnhlfiehihaaM00
import Derived.Test.YthnbnhlfiehihaaM05
namespace Go.Proofs.Ythnbnhlfiehihaa
set_option maxRecDepth 20000
open Go.ChangeShapes Go.WideShapes Go.ChangeAt Go.RowKit

theorem own : ownKnob Try.prog.godebug = none := by kernel_rfl
theorem laidOut : laidOutB Try.prog = true := by kernel_rfl

section
variable {H : Type} {enc : TypeId × Value → H}
abbrev Rd (enc : TypeId × Value → H) (W : World) (t : TypeId) (v : Value) (d : DataW H) (p : List MemPlace) : Prop := DataW.Trod enc Try.prog W 0 (fun _ => true) true t v d p
abbrev RdAll (enc : TypeId × Value → H) (W : World) (ts : List TypeId) (vs : List Value) (ds : List (DataW H)) (p : List MemPlace) : Prop := DataW.TrodAll enc Try.prog W 0 (fun _ => true) true ts vs ds p
theorem rdAll_below {W W' : World} (hb : Below W.heap.size W W') : ∀ (ts : List TypeId) (vs : List Value) (ds : List (DataW H)) (p : List MemPlace),
    (∀ t ∈ ts, Try.prog.readableRec t = true ∧ t < Try.prog.types.size) → RdAll enc W ts vs ds p → DataW.TrodAll enc Try.prog W' 0 (fun b => decide (b < W.heap.size)) true ts vs ds p
  | [], vs, ds, p, _, h => by
    obtain ⟨rfl, rfl, rfl⟩ := trodAll_nil h
    exact trodAll_mk0
  | t :: ts, vs, ds, p, ht, h => by
    obtain ⟨v, vs', d, ds', p0, q0, rfl, rfl, rfl, h0, r0⟩ := trodAll_cons h
    have lt0 : ∀ x ∈ p0, x.block < W.heap.size := by obtain ⟨m, hm⟩ := h0; exact DataW.trod_lt m _ _ _ hm
    exact trodAll_cons_mk (Below.trod laidOut (ht t (by simp)).1 (ht t (by simp)).2 h0 hb lt0) (rdAll_below hb ts vs' ds' q0 (fun x hx => ht x (by simp [hx])) r0)
theorem rdAll_len {W : World} : ∀ (ts : List TypeId) (vs : List Value) (ds : List (DataW H)) (p : List MemPlace), RdAll enc W ts vs ds p → ds.length = ts.length
  | [], vs, ds, p, h => by obtain ⟨rfl, rfl, rfl⟩ := trodAll_nil h; rfl
  | t :: ts, vs, ds, p, h => by
    obtain ⟨v, vs', d, ds', p0, q0, rfl, rfl, rfl, h0, r0⟩ := trodAll_cons h
    simp [rdAll_len ts vs' ds' q0 r0]
/-- What is known of the arguments. -/
structure Args (enc : TypeId × Value → H) (fn : Func) (W : World) (args : Array Value) (ds : List (DataW H)) (p : List MemPlace) : Prop where
  ok : ∃ base : Nat, ∀ (j : Nat) t v, fn.params[j]? = some t → args[j]? = some v → Value.okWide Try.prog W .any base t v
  rd : RdAll enc W fn.params.toList args.toList ds p
  fits : ∀ n ∈ DataW.weightsEach Try.prog fn.params.toList ds, n ≤ reachBytes
end

/-- THE FORM's STEP: '..Said'. -/
theorem lifted (f : FuncId) (fn : Func) (s : ChangeSpec) (hfn : Try.prog.funcs[f]? = some fn) (noInit : Try.prog.inits.idxOf? f = none) (hvars : s.vars = []) (hres : fn.resultTypes = #[4])
    (hr : ∀ t ∈ fn.params.toList, Try.prog.readableRec t = true ∧ t < Try.prog.types.size)
    (hs : ∀ (H : Type) (ds : List (DataW H)), ds.length = fn.params.toList.length → s.fn H (ds ++ []) = { results := [.lit (.bool true)], args := ds })
    (os : Os) (started : os.Started) (H : Type) (enc : TypeId × Value → H)
    (witness : ∃ (w : World) (tape : Tape) (i : Input), w.os = os ∧ (w.forCall tape i).Shaped Try.prog ∧ i.vars = [] ∧ Input.okWide Try.prog (w.forCall tape i) .any w.heap.size f i ∧
      s.pre6 enc Try.prog fn [] false (w.forCall tape i).memory i.args ∧ ({} : Assume).holds Try.prog (lone (Frame.enter Try.prog f i.args .normal) [] (w.forCall tape i)))
    (walk : ∀ (W : World) (args : Array Value) (ds : List (DataW H)) (p : List MemPlace), Args enc fn W args ds p → Calls Try.prog f args W fun e W' => e = .returned (.bool true) ∧ Below W.heap.size W W') :
    ReturnsInHanded {} Try.checked os f .any (s.pre6 enc Try.prog fn [] false) (s.post enc Try.prog fn false true false false) := by
  refine returnsInHanded_of_change_sized (C := Try.checked) own started noInit hfn witness ?_
  intro W base args ds gs before hval hW _ hsz0 _
  have hsz : (DataW.weightsEach Try.prog (fn.params.toList ++ s.plain.varTypes Try.prog) (ds ++ gs)).all (· ≤ reachBytes) = true := hsz0
  have hW' := hW
  obtain ⟨p, q, hA0, hV, rfl, hfz, hnd⟩ := hW
  have hA : RdAll enc W fn.params.toList args.toList ds p := hA0
  rw [hvars] at hV
  obtain ⟨rfl, rfl⟩ := trodVars_none hV
  have hvt : s.plain.varTypes Try.prog = [] := by simp [ChangeSpec.plain, DataSpec.varTypes, hvars]
  rw [hvt] at hsz
  simp only [List.append_nil] at hsz
  refine (walk W args ds p ⟨⟨base, hval⟩, hA, fun n hn => by simpa using List.all_eq_true.1 hsz n hn⟩).mono fun e W' ⟨he, bel⟩ => ?_
  subst he
  have e := hs H ds (rdAll_len _ _ _ _ hA)
  refine ⟨_, rfl, ds, [], p ++ [], [], p, [], hW', ?_, ?_, ?_, bel.frame _, fun h => by cases h⟩
  · rw [e, hres]
    exact trodAll_mk1 (shut_bool Try.underlying4 _)
  · rw [e]
    exact rdAll_below bel _ _ _ _ hr hA
  · rw [e, hvars]; rfl

/-- THE SECOND FORM's STEP: '..UptoSaid'. -/
theorem liftedU (f : FuncId) (fn : Func) (s : ChangeSpec) (hfn : Try.prog.funcs[f]? = some fn) (noInit : Try.prog.inits.idxOf? f = none) (hvars : s.vars = []) (hres : fn.resultTypes = #[4])
    (hr : ∀ t ∈ fn.params.toList, Try.prog.readableRec t = true ∧ t < Try.prog.types.size)
    (hs : ∀ (H : Type) (ds : List (DataW H)), ds.length = fn.params.toList.length → s.fn H (ds ++ []) = { results := [.lit (.bool true)], args := ds })
    (os : Os) (started : os.Started) (H : Type) (enc : TypeId × Value → H) (F : Stop.Interp)
    (witness : ∃ (w : World) (tape : Tape) (i : Input), w.os = os ∧ (w.forCall tape i).Shaped Try.prog ∧ i.vars = [] ∧ Input.okWide Try.prog (w.forCall tape i) .any w.heap.size f i ∧
      (Rows.OpenSpec.upto s).pre6 enc Try.prog fn [] false (w.forCall tape i).memory i.args ∧ ({} : Assume).holds Try.prog (lone (Frame.enter Try.prog f i.args .normal) [] (w.forCall tape i)))
    (walk : ∀ (W : World) (args : Array Value) (ds : List (DataW H)) (p : List MemPlace), Args enc fn W args ds p → Rows.uptoBulkAll ds ≤ 1048576 → Calls Try.prog f args W fun e W' => e = .returned (.bool true) ∧ Below W.heap.size W W') :
    ReturnsInHanded {} Try.checked os f .any ((Rows.OpenSpec.upto s).pre6 enc Try.prog fn [] false) (((Rows.OpenSpec.upto s).at F).post enc Try.prog fn false true false false) := by
  refine returnsInHanded_of_cond_sized (C := Try.checked) (s := Rows.OpenSpec.upto s) (k := Rows.uptoSmall) rfl own started noInit hfn witness ?_
  intro W base args ds gs before hval hW _ hk hsz0 _
  have hW' : DataW.Whole enc Try.prog fn.params.toList s.vars false W args.toList ds gs before := hW
  have hsz : (DataW.weightsEach Try.prog (fn.params.toList ++ s.plain.varTypes Try.prog) (ds ++ gs)).all (· ≤ reachBytes) = true := hsz0
  obtain ⟨p, q, hA, hV, rfl, hfz, hnd⟩ := hW'
  rw [hvars] at hV
  obtain ⟨rfl, rfl⟩ := trodVars_none hV
  have hvt : s.plain.varTypes Try.prog = [] := by simp [ChangeSpec.plain, DataSpec.varTypes, hvars]
  rw [hvt] at hsz
  simp only [List.append_nil] at hsz hk
  have hb : Rows.uptoBulkAll ds ≤ 1048576 := of_decide_eq_true hk
  refine (walk W args ds p ⟨⟨base, hval⟩, hA, fun n hn => by simpa using List.all_eq_true.1 hsz n hn⟩ hb).mono fun e W' ⟨he, bel⟩ => ?_
  subst he
  have e := hs H ds (rdAll_len _ _ _ _ hA)
  have hpost : s.post enc Try.prog fn false true false false W args (.bool true) W' := by
    refine ⟨ds, [], p ++ [], [], p, [], hW, ?_, ?_, ?_, bel.frame _, fun h => by cases h⟩
    · rw [e, hres]
      exact trodAll_mk1 (shut_bool Try.underlying4 _)
    · rw [e]
      exact rdAll_below bel _ _ _ _ hr hA
    · rw [e, hvars]; rfl
  exact ⟨_, rfl, hpost⟩

/-! ### the arguments, one by one -/
section
variable {H : Type} {enc : TypeId × Value → H}
structure One (enc : TypeId × Value → H) (W : World) (base : Nat) (t : TypeId) (v : Value) (d : DataW H) (p : List MemPlace) : Prop where
  ok : Value.okWide Try.prog W .any base t v
  rd : Rd enc W t v d p
  fits : ∀ n ∈ d.weights Try.prog t, n ≤ reachBytes
structure Many (enc : TypeId × Value → H) (W : World) (base : Nat) (ts : List TypeId) (vs : List Value) (ds : List (DataW H)) (p : List MemPlace) : Prop where
  ok : ∀ (j : Nat) t v, ts[j]? = some t → vs[j]? = some v → Value.okWide Try.prog W .any base t v
  rd : RdAll enc W ts vs ds p
  fits : ∀ n ∈ DataW.weightsEach Try.prog ts ds, n ≤ reachBytes
theorem Args.many {fn : Func} {W : World} {args : Array Value} {ds : List (DataW H)} {p : List MemPlace} (h : Args enc fn W args ds p) {ts : List TypeId} (ht : fn.params.toList = ts) : ∃ base vs, args = vs.toArray ∧ Many enc W base ts vs ds p := by
  obtain ⟨⟨base, ok⟩, rd, fits⟩ := h
  subst ht
  exact ⟨base, args.toList, by simp, fun j t v h1 h2 => ok j t v (by simpa using h1) (by simpa using h2), rd, fits⟩
theorem Many.cons {W : World} {base : Nat} {t : TypeId} {ts : List TypeId} {vs : List Value} {ds : List (DataW H)} {p : List MemPlace} (h : Many enc W base (t :: ts) vs ds p) :
    ∃ v vs' d ds' p' q, vs = v :: vs' ∧ ds = d :: ds' ∧ One enc W base t v d p' ∧ Many enc W base ts vs' ds' q := by
  obtain ⟨ok, rd, fits⟩ := h
  obtain ⟨v, vs', d, ds', p0, q0, rfl, rfl, rfl, h0, r0⟩ := trodAll_cons rd
  exact ⟨v, vs', d, ds', p0, q0, rfl, rfl, ⟨ok 0 t v rfl rfl, h0, fun n hn => fits n (by simp only [DataW.weightsEach, List.mem_append]; exact .inl hn)⟩,
    ⟨fun j t v h1 h2 => ok (j + 1) t v (by simpa using h1) (by simpa using h2), r0, fun n hn => fits n (by simp only [DataW.weightsEach, List.mem_append]; exact .inr hn)⟩⟩
theorem Many.nil {W : World} {base : Nat} {vs : List Value} {ds : List (DataW H)} {p : List MemPlace} (h : Many enc W base [] vs ds p) : vs = [] ∧ ds = [] := by
  obtain ⟨rfl, rfl, _⟩ := trodAll_nil h.rd
  exact ⟨rfl, rfl⟩

variable {W : World} {base : Nat} {t e : TypeId} {v : Value} {d : DataW H} {p : List MemPlace}
theorem One.int {k : IntKind} (h : One enc W base t v d p) (ht : Try.prog.underlying t = some (.int k)) : ∃ a : Int, v = .int k a ∧ (Lit.int k a).wf = true ∧ d = .lit (.int k a) := by
  obtain ⟨a, rfl, rfl, rfl, w⟩ := open_int ht h.ok h.rd
  exact ⟨a, rfl, w, rfl⟩
theorem One.bool (h : One enc W base t v d p) (ht : Try.prog.underlying t = some .bool) : ∃ b : Bool, v = .bool b := by
  obtain ⟨b, rfl, _⟩ := open_bool ht h.ok h.rd
  exact ⟨b, rfl⟩
theorem One.u8 (h : One enc W base t v d p) (ht : Try.prog.underlying t = some (.int .u8)) : ∃ n : Nat, v = .int .u8 (n : Int) ∧ n < 256 := by
  obtain ⟨a, rfl, w, _⟩ := h.int ht
  have hx : 0 ≤ a ∧ a ≤ 255 := by simpa [Lit.wf, IntKind.min, IntKind.max, IntKind.signed, IntKind.bits] using w
  exact ⟨a.toNat, by rw [Int.toNat_of_nonneg hx.1], by omega⟩
theorem One.u16 (h : One enc W base t v d p) (ht : Try.prog.underlying t = some (.int .u16)) : ∃ n : Nat, v = .int .u16 (n : Int) ∧ n < 65536 := by
  obtain ⟨a, rfl, w, _⟩ := h.int ht
  have hx : 0 ≤ a ∧ a ≤ 65535 := by simpa [Lit.wf, IntKind.min, IntKind.max, IntKind.signed, IntKind.bits] using w
  exact ⟨a.toNat, by rw [Int.toNat_of_nonneg hx.1], by omega⟩
theorem One.u32 (h : One enc W base t v d p) (ht : Try.prog.underlying t = some (.int .u32)) : ∃ n : Nat, v = .int .u32 (n : Int) ∧ n < 4294967296 := by
  obtain ⟨a, rfl, w, _⟩ := h.int ht
  have hx : 0 ≤ a ∧ a ≤ 4294967295 := by simpa [Lit.wf, IntKind.min, IntKind.max, IntKind.signed, IntKind.bits] using w
  exact ⟨a.toNat, by rw [Int.toNat_of_nonneg hx.1], by omega⟩
theorem One.u64 (h : One enc W base t v d p) (ht : Try.prog.underlying t = some (.int .u64)) : ∃ n : Nat, v = .int .u64 (n : Int) ∧ U64 n := by
  obtain ⟨a, rfl, w, _⟩ := h.int ht
  have hx : 0 ≤ a ∧ a ≤ 18446744073709551615 := by simpa [Lit.wf, IntKind.min, IntKind.max, IntKind.signed, IntKind.bits] using w
  exact ⟨a.toNat, by rw [Int.toNat_of_nonneg hx.1], U64.mk (by omega)⟩
theorem One.i64 (h : One enc W base t v d p) (ht : Try.prog.underlying t = some (.int .i64)) : ∃ a : Int, v = .int .i64 a ∧ -9223372036854775808 ≤ a ∧ a ≤ 9223372036854775807 := by
  obtain ⟨a, rfl, w, _⟩ := h.int ht
  have hx : -9223372036854775808 ≤ a ∧ a ≤ 9223372036854775807 := by simpa [Lit.wf, IntKind.min, IntKind.max, IntKind.signed, IntKind.bits] using w
  exact ⟨a, rfl, hx⟩
theorem bulkAll_lits (k : IntKind) : ∀ zs : List Int, Rows.uptoBulkAll (H := H) (lits k zs) = zs.length
  | [] => rfl
  | z :: t => by
    have := bulkAll_lits k t
    simp only [lits, List.map_cons, Rows.uptoBulkAll, Rows.uptoBulk, List.length_cons] at this ⊢
    omega
/-- A slice of integers. -/
theorem One.ints {k : IntKind} {m : Nat} (h : One enc W base t v d p) (ht : Try.prog.underlying t = some (.slice e)) (he : Try.prog.underlying e = some (.int k)) (hc : Try.prog.cellsOf e = 1) (hm : Try.prog.bytesOf e = m) :
    ∃ (A : Option Addr) (c : Nat) (zs : List Int), v = .slice A zs.length c ∧ Sl W W.heap.size A (zs.map (Value.int k)) ∧ zs.length ≤ c ∧ c ≤ maxLen ∧ c * m ≤ reachBytes ∧ (∀ z ∈ zs, (Lit.int k z).wf = true) ∧ c < Rows.uptoBulk d := by
  obtain ⟨ok, rd, fits⟩ := h
  obtain ⟨A, len, cap, rfl⟩ := okWide_slice ht ok
  obtain ⟨fuel, hf⟩ := rd
  rcases open_ints ht he hc hf with ⟨hcs, hx⟩ | ⟨x, l, c, zs, hcs, _, hl, hm', hz, hx, hcell, hwz⟩
  · simp [Value.cells] at hcs
    obtain ⟨rfl, rfl, rfl⟩ := hcs
    simp only [Prod.mk.injEq] at hx
    obtain ⟨rfl, _⟩ := hx
    exact ⟨none, 0, [], rfl, Sl.nil, by simp, by simp [maxLen], by simp, by simp, by simp [Rows.uptoBulk]⟩
  · simp [Value.cells] at hcs
    obtain ⟨rfl, rfl, rfl⟩ := hcs
    simp only [Prod.mk.injEq] at hx
    obtain ⟨rfl, _⟩ := hx
    simp only [if_true] at hz
    have hlen : (zs.take len).length = len := by rw [List.length_take]; omega
    refine ⟨some x, cap, zs.take len, by rw [hlen], ?_, by omega, hm', ?_, fun z hz' => hwz z (List.mem_of_mem_take hz'), ?_⟩
    · by_cases h0 : len = 0
      · subst h0; simp [Sl]
      · obtain ⟨b, o, spot⟩ := x
        have hc0 := hcell 0 (by omega)
        have hspot : spot = none := by simpa [Addr.add] using World.cell?_spot hc0
        subst hspot
        have hbl : b < W.heap.size := by
          have := World.block_lt_of_cell? W _ hc0
          simpa [Addr.add] using this
        refine .inr ⟨b, o, rfl, hbl, hbl, fun j u hu => ?_⟩
        have hj : j < len := by
          have := (List.getElem?_eq_some_iff.1 hu).1
          rw [List.length_map, hlen] at this; exact this
        have := hcell j (by omega)
        have e1 : (⟨b, o, none⟩ : Addr).add j = ⟨b, o + j, none⟩ := by
          unfold Addr.add
          split
          · rename_i h0; subst h0; rfl
          · rfl
        rw [e1] at this
        rw [this]
        rw [List.getElem?_map, List.getElem?_take, if_pos hj] at hu
        rw [← hu]
        simp [List.getD, List.getElem?_eq_getElem (show j < zs.length by omega)]
    · have := fits ((lits (H := H) k (zs.take len)).length + (lits (H := H) k (zs.drop len)).length |> (· * Try.prog.bytesOf e)) (by simp [DataW.weights, ht])
      simp only [lits, List.length_map, List.length_take, List.length_drop] at this
      rw [hm] at this
      rw [show min len zs.length + (zs.length - len) = cap by omega] at this
      exact this
    · simp only [Rows.uptoBulk, bulkAll_lits, List.length_take, List.length_drop]
      omega
theorem nats_of {k : IntKind} {M : Nat} {zs : List Int} (hw : ∀ z ∈ zs, (Lit.int k z).wf = true) (hk : ∀ z : Int, (Lit.int k z).wf = true → 0 ≤ z ∧ z < M) :
    zs.map (Value.int k) = (zs.map Int.toNat).map (fun (n : Nat) => Value.int k (n : Int)) ∧ ∀ n ∈ zs.map Int.toNat, n < M := by
  constructor
  · rw [List.map_map]
    refine List.map_congr_left fun z hz => ?_
    have := hk z (hw z hz)
    simp only [Function.comp]
    rw [Int.toNat_of_nonneg this.1]
  · intro n hn
    obtain ⟨z, hz, rfl⟩ := List.mem_map.1 hn
    have := hk z (hw z hz)
    omega
/-- A slice of unsigned numbers. -/
theorem One.nats {k : IntKind} {m M : Nat} (h : One enc W base t v d p) (ht : Try.prog.underlying t = some (.slice e)) (he : Try.prog.underlying e = some (.int k)) (hc : Try.prog.cellsOf e = 1) (hm : Try.prog.bytesOf e = m)
    (hk : ∀ z : Int, (Lit.int k z).wf = true → 0 ≤ z ∧ z < M) :
    ∃ (A : Option Addr) (c : Nat) (l : List Nat), v = .slice A l.length c ∧ Sl W W.heap.size A (l.map (fun (n : Nat) => Value.int k (n : Int))) ∧ l.length ≤ c ∧ c * m ≤ 140737488351232 ∧ (∀ n ∈ l, n < M) ∧ c < Rows.uptoBulk d := by
  obtain ⟨A, c, zs, rfl, hs, h1, h2, h3, h4, h5⟩ := h.ints ht he hc hm
  obtain ⟨e1, e2⟩ := nats_of h4 hk
  exact ⟨A, c, zs.map Int.toNat, by simp, e1 ▸ hs, by simpa using h1, h3, e2, h5⟩
theorem wf_u64' (z : Int) (h : (Lit.int .u64 z).wf = true) : 0 ≤ z ∧ z < (18446744073709551616 : Nat) := by
  have hx : 0 ≤ z ∧ z ≤ 18446744073709551615 := by simpa [Lit.wf, IntKind.min, IntKind.max, IntKind.signed, IntKind.bits] using h
  omega
theorem wf_u32' (z : Int) (h : (Lit.int .u32 z).wf = true) : 0 ≤ z ∧ z < (4294967296 : Nat) := by
  have hx : 0 ≤ z ∧ z ≤ 4294967295 := by simpa [Lit.wf, IntKind.min, IntKind.max, IntKind.signed, IntKind.bits] using h
  omega
theorem wf_u16' (z : Int) (h : (Lit.int .u16 z).wf = true) : 0 ≤ z ∧ z < (65536 : Nat) := by
  have hx : 0 ≤ z ∧ z ≤ 65535 := by simpa [Lit.wf, IntKind.min, IntKind.max, IntKind.signed, IntKind.bits] using h
  omega
/-- A slice of bytes. -/
theorem One.bytes (h : One enc W base 22 v d p) : ∃ (A : Option Addr) (c : Nat) (l : List UInt8), v = .slice A l.length c ∧ Sl W W.heap.size A (bv l) ∧ l.length ≤ c ∧ c ≤ 140737488351232 ∧ c < Rows.uptoBulk d := by
  obtain ⟨A, c, zs, rfl, hs, h1, h2, h3, h4, h5⟩ := h.ints (m := 1) Try.underlying22 Try.underlying5 (by kernel_rfl) (by kernel_rfl)
  refine ⟨A, c, zs.map (fun z => UInt8.ofNat z.toNat), by simp, ?_, by simpa using h1, by simp only [reachBytes] at h3; omega, h5⟩
  have e : bv (zs.map (fun z => UInt8.ofNat z.toNat)) = zs.map (Value.int .u8) := by
    simp only [bv, List.map_map]
    refine List.map_congr_left fun z hz => ?_
    have hx : 0 ≤ z ∧ z ≤ 255 := by simpa [Lit.wf, IntKind.min, IntKind.max, IntKind.signed, IntKind.bits] using h4 z hz
    simp only [Function.comp, u8v, UInt8.toNat_ofNat']
    congr 1
    omega
  rw [e]
  exact hs
end
end Go.Proofs.Ythnbnhlfiehihaa
/- What structs of two cells share. -/
namespace Go.Proofs.Ythnbnhlfiehihaa
open Go.RowKit
set_option maxRecDepth 20000

def i64in (a : Int) : Prop := -9223372036854775808 ≤ a ∧ a ≤ 9223372036854775807
theorem cell2 (w : World) (t : TypeId) (a b : Value) : (w.alloc (.cells #[a, b] t)).cell? ⟨w.heap.size, 0, none⟩ = some a ∧ (w.alloc (.cells #[a, b] t)).cell? ⟨w.heap.size, 1, none⟩ = some b := by
  obtain ⟨b', o, e, _, _, h⟩ := (Sl.new w t #[a, b] (0, 0)).at_ (k := 0) (by simp)
  cases e
  exact ⟨h 0 a rfl, h 1 b rfl⟩
end Go.Proofs.Ythnbnhlfiehihaa
/- An argument that is a slice of structs. -/
namespace Go.Proofs.Ythnbnhlfiehihaa
open Go.RowKit
set_option maxRecDepth 20000
theorem sl_of_cells (W : World) (a : Addr) (xs : List Value) (h : ∀ (j : Nat) (u : Value), xs[j]? = some u → W.cell? (a.add j) = some u) : Sl W W.heap.size (some a) xs := by
  cases xs with
  | nil => exact .inl rfl
  | cons x t =>
    obtain ⟨b, o, spot⟩ := a
    have hc0 := h 0 x rfl
    have hspot : spot = none := by simpa [Addr.add] using World.cell?_spot hc0
    subst hspot
    have hbl : b < W.heap.size := by
      have := World.block_lt_of_cell? W _ hc0
      simpa [Addr.add] using this
    refine .inr ⟨b, o, rfl, hbl, hbl, fun j u hu => ?_⟩
    have := h j u hu
    have e1 : (⟨b, o, none⟩ : Addr).add j = ⟨b, o + j, none⟩ := by
      unfold Addr.add
      split
      · rename_i h0; subst h0; rfl
      · rfl
    rw [e1] at this
    exact this
theorem wf_i64' (a : Int) (h : (Lit.int .i64 a).wf = true) : i64in a := by
  have : -9223372036854775808 ≤ a ∧ a ≤ 9223372036854775807 := by simpa [Lit.wf, IntKind.min, IntKind.max, IntKind.signed, IntKind.bits] using h
  exact this
section
open Go.Joins Go.ChangeShapes Go.WideShapes Go.ChangeAt Go.RowKit Go.Deep
variable {H : Type} {enc : TypeId × Value → H} {W : World} {base : Nat} {t : TypeId} {v : Value} {d : DataW H} {p : List MemPlace}
/-- the cells of some things, one behind another -/
theorem flat_get {α : Type} (cells : α → List Value) (C : Nat) (h0 : 0 < C) (hl : ∀ x, (cells x).length = C) : ∀ (ls : List α) (j : Nat), (ls.flatMap cells)[j]? = (ls[j / C]?).bind fun x => (cells x)[j % C]?
  | [], j => by simp
  | x :: ls, j => by
    rw [List.flatMap_cons]
    by_cases h : j < C
    · rw [List.getElem?_append_left (by rw [hl]; exact h), Nat.div_eq_of_lt h, Nat.mod_eq_of_lt h]; rfl
    · rw [List.getElem?_append_right (by rw [hl]; omega), hl, flat_get cells C h0 hl ls (j - C)]
      have h1 : j / C = (j - C) / C + 1 := by
        rw [← Nat.add_div_right _ h0]; congr 1; omega
      have h2 : j % C = (j - C) % C := (Nat.mod_eq_sub_mod (by omega))
      rw [h1, h2]; rfl
theorem One.rows {α : Type} (cells : α → List Value) (C : Nat) (h0 : 0 < C) (hl : ∀ x, (cells x).length = C) (ok : α → Prop) (d0 : α) {e : TypeId} (ht : Try.prog.underlying t = some (.slice e)) (hC : Try.prog.cellsOf e = C)
    (hE : ∀ n cs' y, DataW.trod enc Try.prog W 0 (fun _ => true) true n e cs' = some y → ∃ x, cs' = cells x ∧ ok x) (h : One enc W base t v d p) :
    ∃ (A : Option Addr) (c : Nat) (ls : List α), v = .slice A ls.length c ∧ Sl W W.heap.size A (ls.flatMap cells) ∧ ls.length ≤ c ∧ c ≤ Go.maxLen ∧ ∀ x ∈ ls, ok x := by
  have hok := h.ok
  have rd := h.rd
  obtain ⟨A, len, cap, rfl⟩ := okWide_slice ht hok
  obtain ⟨fuel, hf⟩ := rd
  rcases open_slice ht hf with ⟨hcs, _⟩ | ⟨a, len', cap', m, n, D, Pl, hcs, _, hle, hm, hmm, _, hr⟩
  · simp [Value.cells] at hcs
    obtain ⟨rfl, rfl, rfl⟩ := hcs
    exact ⟨none, 0, [], rfl, Sl.nil, by simp, by simp [Go.maxLen], by simp⟩
  · simp [Value.cells] at hcs
    obtain ⟨rfl, rfl, rfl⟩ := hcs
    have hmm' : m = cap := by simpa using hmm
    subst hmm'
    have hx : ∀ i, ∃ x : α, i < m → ok x ∧ ∀ k, k < C → W.cell? (a.add (i * C + k)) = (cells x)[k]? := by
      intro i
      by_cases hi : i < m
      · obtain ⟨cs', h1, h2⟩ := hr i hi
        obtain ⟨x, rfl, hx⟩ := hE _ _ _ h2
        rw [hC] at h1
        obtain ⟨_, _, h3⟩ := World.cells?_some h1
        exact ⟨x, fun _ => ⟨hx, fun k hk => by rw [← Go.Deep.add_add]; exact h3 k hk⟩⟩
      · exact ⟨d0, fun h => absurd h hi⟩
    obtain ⟨f, hf'⟩ := Classical.axiomOfChoice hx
    refine ⟨some a, m, (List.range len).map f, by simp, sl_of_cells W a _ fun j u hu => ?_, by simpa using hle, hm, ?_⟩
    · rw [flat_get cells C h0 hl, List.getElem?_map] at hu
      by_cases hj : j / C < len
      · rw [List.getElem?_range hj] at hu
        have hk := (hf' (j / C) (by omega)).2 (j % C) (Nat.mod_lt _ h0)
        rw [Nat.div_add_mod' j C] at hk
        rw [hk]
        exact hu
      · rw [List.getElem?_eq_none (by simpa using hj)] at hu
        cases hu
    · intro x hx
      obtain ⟨i, hi, rfl⟩ := List.mem_map.1 hx
      exact (hf' i (by have := List.mem_range.1 hi; omega)).1
end
end Go.Proofs.Ythnbnhlfiehihaa
/- What lies inside an element: a slice of things read. -/
namespace Go.Proofs.Ythnbnhlfiehihaa
open Go.RowKit
section
open Go.Joins Go.ChangeShapes Go.WideShapes Go.ChangeAt Go.RowKit Go.Deep
variable {H : Type} {enc : TypeId × Value → H} {W : World} {t : TypeId}
theorem rows_of_trod {α : Type} (cells : α → List Value) (C : Nat) (h0 : 0 < C) (hl : ∀ x, (cells x).length = C) (ok : α → Prop) (d0 : α) {e : TypeId} (ht : Try.prog.underlying t = some (.slice e)) (hC : Try.prog.cellsOf e = C)
    (hE : ∀ n cs' y, DataW.trod enc Try.prog W 0 (fun _ => true) true n e cs' = some y → ∃ x, cs' = cells x ∧ ok x) {n0 : Nat} {cs : List Value} {y0 : DataW H × List MemPlace} (hf : DataW.trod enc Try.prog W 0 (fun _ => true) true n0 t cs = some y0) :
    ∃ (A : Option Addr) (c : Nat) (ls : List α), cs = [.slice A ls.length c] ∧ Sl W W.heap.size A (ls.flatMap cells) ∧ ls.length ≤ c ∧ c ≤ maxLen ∧ ∀ x ∈ ls, ok x := by
  rcases open_slice ht hf with ⟨hcs, _⟩ | ⟨a, len', cap', m, n, D, Pl, hcs, _, hle, hm, hmm, _, hr⟩
  · exact ⟨none, 0, [], hcs, Sl.nil, by simp, by simp [maxLen], by simp⟩
  · have hmm' : m = cap' := by simpa using hmm
    subst hmm'
    subst hcs
    have hx : ∀ i, ∃ x : α, i < m → ok x ∧ ∀ k, k < C → W.cell? (a.add (i * C + k)) = (cells x)[k]? := by
      intro i
      by_cases hi : i < m
      · obtain ⟨cs', h1, h2⟩ := hr i hi
        obtain ⟨x, rfl, hx⟩ := hE _ _ _ h2
        rw [hC] at h1
        obtain ⟨_, _, h3⟩ := World.cells?_some h1
        exact ⟨x, fun _ => ⟨hx, fun k hk => by rw [← Go.Deep.add_add]; exact h3 k hk⟩⟩
      · exact ⟨d0, fun h => absurd h hi⟩
    obtain ⟨f, hf'⟩ := Classical.axiomOfChoice hx
    refine ⟨some a, m, (List.range len').map f, by simp, sl_of_cells W a _ fun j u hu => ?_, by simpa using hle, hm, ?_⟩
    · rw [flat_get cells C h0 hl, List.getElem?_map] at hu
      by_cases hj : j / C < len'
      · rw [List.getElem?_range hj] at hu
        have hk := (hf' (j / C) (by omega)).2 (j % C) (Nat.mod_lt _ h0)
        rw [Nat.div_add_mod' j C] at hk
        rw [hk]
        exact hu
      · rw [List.getElem?_eq_none (by simpa using hj)] at hu
        cases hu
    · intro x hx
      obtain ⟨i, hi, rfl⟩ := List.mem_map.1 hx
      exact (hf' i (by have := List.mem_range.1 hi; omega)).1
theorem ints_of_trod {k : IntKind} {e : TypeId} (ht : Try.prog.underlying t = some (.slice e)) (he : Try.prog.underlying e = some (.int k)) (hC : Try.prog.cellsOf e = 1) {n0 : Nat} {cs : List Value} {y0 : DataW H × List MemPlace} (hf : DataW.trod enc Try.prog W 0 (fun _ => true) true n0 t cs = some y0) :
    ∃ (A : Option Addr) (c : Nat) (zs : List Int), cs = [.slice A zs.length c] ∧ Sl W W.heap.size A (zs.map (Value.int k)) ∧ zs.length ≤ c ∧ c ≤ maxLen ∧ ∀ z ∈ zs, (Lit.int k z).wf = true := by
  obtain ⟨A, c, zs, h1, h2, h3⟩ := rows_of_trod (fun z => [Value.int k z]) 1 (by omega) (fun _ => rfl) (fun z => (Lit.int k z).wf = true) 0 ht hC (fun n cs' y h => by
    obtain ⟨a, e1, _, w⟩ := DataW.trod_int he h
    exact ⟨a, e1, w⟩) hf
  refine ⟨A, c, zs, h1, ?_, h3⟩
  have e : zs.flatMap (fun z => [Value.int k z]) = zs.map (Value.int k) := by
    clear h1 h2 h3
    induction zs with
    | nil => rfl
    | cons z zs ih => rw [List.flatMap_cons, ih]; rfl
  rw [← e]; exact h2
def bytesOfZ (zs : List Int) : List UInt8 := zs.map (fun z => UInt8.ofNat z.toNat)
theorem bv_bytesOfZ (zs : List Int) (h : ∀ z ∈ zs, (Lit.int .u8 z).wf = true) : bv (bytesOfZ zs) = zs.map (Value.int .u8) := by
  simp only [bv, bytesOfZ, List.map_map]
  refine List.map_congr_left fun z hz => ?_
  have hx : 0 ≤ z ∧ z ≤ 255 := by simpa [Lit.wf, IntKind.min, IntKind.max, IntKind.signed, IntKind.bits] using h z hz
  simp only [Function.comp, u8v, UInt8.toNat_ofNat']
  congr 1
  omega
theorem bytes_of_trod (ht : Try.prog.underlying t = some (.slice 5)) {n0 : Nat} {cs : List Value} {y0 : DataW H × List MemPlace} (hf : DataW.trod enc Try.prog W 0 (fun _ => true) true n0 t cs = some y0) :
    ∃ (A : Option Addr) (c : Nat) (l : List UInt8), cs = [.slice A l.length c] ∧ Sl W W.heap.size A (bv l) ∧ l.length ≤ c ∧ c ≤ maxLen := by
  obtain ⟨A, c, zs, h1, h2, h3, h4, h5⟩ := ints_of_trod ht Try.underlying5 (by kernel_rfl) hf
  have hl : (bytesOfZ zs).length = zs.length := by simp [bytesOfZ]
  exact ⟨A, c, bytesOfZ zs, by rw [hl]; exact h1, by rw [bv_bytesOfZ zs h5]; exact h2, by rw [hl]; exact h3, h4⟩
theorem trod_structN2 {t : TypeId} {f0 f1 : Field} {fuel : Nat} {cs : List Value} {x : DataW H × List MemPlace} (ht : Try.prog.underlying t = some (.struct #[f0, f1])) (h : DataW.trod enc Try.prog W 0 (fun _ => true) true fuel t cs = some x) :
    ∃ y0 y1 n, cs.length = Try.prog.cellsOf t ∧ DataW.trod enc Try.prog W 0 (fun _ => true) true n f0.type ((cs.drop f0.offset).take (Try.prog.cellsOf f0.type)) = some y0 ∧ DataW.trod enc Try.prog W 0 (fun _ => true) true n f1.type ((cs.drop f1.offset).take (Try.prog.cellsOf f1.type)) = some y1 := by
  obtain ⟨xs, n, _, rfl, hl, hlen, hf⟩ := DataW.trod_struct ht h
  match xs, hlen with
  | [y0, y1], _ => exact ⟨y0, y1, n, hl, by simpa using hf 0 f0 rfl, by simpa using hf 1 f1 rfl⟩
theorem trod_structN6 {t : TypeId} {f0 f1 f2 f3 f4 f5 : Field} {fuel : Nat} {cs : List Value} {x : DataW H × List MemPlace} (ht : Try.prog.underlying t = some (.struct #[f0, f1, f2, f3, f4, f5])) (h : DataW.trod enc Try.prog W 0 (fun _ => true) true fuel t cs = some x) :
    ∃ y0 y1 y2 y3 y4 y5 n, cs.length = Try.prog.cellsOf t ∧ DataW.trod enc Try.prog W 0 (fun _ => true) true n f0.type ((cs.drop f0.offset).take (Try.prog.cellsOf f0.type)) = some y0 ∧ DataW.trod enc Try.prog W 0 (fun _ => true) true n f1.type ((cs.drop f1.offset).take (Try.prog.cellsOf f1.type)) = some y1 ∧ DataW.trod enc Try.prog W 0 (fun _ => true) true n f2.type ((cs.drop f2.offset).take (Try.prog.cellsOf f2.type)) = some y2 ∧ DataW.trod enc Try.prog W 0 (fun _ => true) true n f3.type ((cs.drop f3.offset).take (Try.prog.cellsOf f3.type)) = some y3 ∧ DataW.trod enc Try.prog W 0 (fun _ => true) true n f4.type ((cs.drop f4.offset).take (Try.prog.cellsOf f4.type)) = some y4 ∧ DataW.trod enc Try.prog W 0 (fun _ => true) true n f5.type ((cs.drop f5.offset).take (Try.prog.cellsOf f5.type)) = some y5 := by
  obtain ⟨xs, n, _, rfl, hl, hlen, hf⟩ := DataW.trod_struct ht h
  match xs, hlen with
  | [y0, y1, y2, y3, y4, y5], _ => exact ⟨y0, y1, y2, y3, y4, y5, n, hl, by simpa using hf 0 f0 rfl, by simpa using hf 1 f1 rfl, by simpa using hf 2 f2 rfl, by simpa using hf 3 f3 rfl, by simpa using hf 4 f4 rfl, by simpa using hf 5 f5 rfl⟩
theorem u8_of_trod (ht : Try.prog.underlying t = some (.int .u8)) {n0 : Nat} {cs : List Value} {y0 : DataW H × List MemPlace} (hf : DataW.trod enc Try.prog W 0 (fun _ => true) true n0 t cs = some y0) : ∃ a : Nat, cs = [.int .u8 (a : Int)] ∧ a < 256 := by
  obtain ⟨a0, e0, _, w0⟩ := DataW.trod_int (k := .u8) ht hf
  have w0' : 0 ≤ a0 ∧ a0 ≤ 255 := by simpa [Lit.wf, IntKind.min, IntKind.max, IntKind.signed, IntKind.bits] using w0
  exact ⟨a0.toNat, by rw [Int.toNat_of_nonneg w0'.1]; exact e0, by omega⟩
theorem i64_of_trod (ht : Try.prog.underlying t = some (.int .i64)) {n0 : Nat} {cs : List Value} {y0 : DataW H × List MemPlace} (hf : DataW.trod enc Try.prog W 0 (fun _ => true) true n0 t cs = some y0) : ∃ a : Int, cs = [.int .i64 a] ∧ -9223372036854775808 ≤ a ∧ a ≤ 9223372036854775807 := by
  obtain ⟨a0, e0, _, w0⟩ := DataW.trod_int (k := .i64) ht hf
  have w0' : -9223372036854775808 ≤ a0 ∧ a0 ≤ 9223372036854775807 := by simpa [Lit.wf, IntKind.min, IntKind.max, IntKind.signed, IntKind.bits] using w0
  exact ⟨a0, e0, w0'⟩
end
end Go.Proofs.Ythnbnhlfiehihaa
/- Disks: the laws' acts. -/
namespace Go.Proofs.Ythnbnhlfiehihaa
open Go.RowKit
set_option maxRecDepth 20000

structure AK where
  wh : Nat
  na : Nat
  to : Nat
  n : Int
  bA : Option Addr
  bc : Nat
  b : List UInt8
  pA : Option Addr
  pc : Nat
  ps : List Int
def AK.cells (a : AK) : List Value := [.int .u8 (a.wh : Int), .int .u8 (a.na : Int), .int .u8 (a.to : Int), .int .i64 a.n, .slice a.bA a.b.length a.bc, .slice a.pA a.ps.length a.pc]
structure AK.ok (W : World) (a : AK) : Prop where
  wh : a.wh < 256
  na : a.na < 256
  to : a.to < 256
  n0 : -9223372036854775808 ≤ a.n
  n1 : a.n ≤ 9223372036854775807
  b : Sl W W.heap.size a.bA (bv a.b)
  bl : a.b.length ≤ a.bc
  bm : a.bc ≤ maxLen
  p : Sl W W.heap.size a.pA (iv a.ps)
  pl : a.ps.length ≤ a.pc
  pm : a.pc ≤ maxLen
def ak (ls : List AK) : List Value := ls.flatMap AK.cells
theorem akAt {w : World} {B : Nat} {A : Option Addr} {ls : List AK} (h : Sl w B A (ak ls)) {k : Nat} {a : AK} (ha : ls[k]? = some a) :
    ∃ b o, A = some ⟨b, o, none⟩ ∧ b < B ∧ b < w.heap.size ∧ ∀ (j : Nat) (u : Value), a.cells[j]? = some u → w.cell? ⟨b, o + k * 6 + j, none⟩ = some u := by
  have hk := (List.getElem?_eq_some_iff.1 ha).1
  have hlen : (ak ls).length = ls.length * 6 := by
    have : ∀ l : List AK, (l.flatMap AK.cells).length = l.length * 6 := by
      intro l
      induction l with
      | nil => rfl
      | cons x t ih => simp [AK.cells] at *; omega
    exact this ls
  obtain ⟨b, o, e, h1, h2, hc⟩ := h.at_ (k := k * 6) (by rw [hlen]; omega)
  refine ⟨b, o, e, h1, h2, fun j u hu => ?_⟩
  have hj : j < 6 := by have := (List.getElem?_eq_some_iff.1 hu).1; simpa [AK.cells] using this
  have := hc (k * 6 + j) u (by
    show (ls.flatMap AK.cells)[k * 6 + j]? = some u
    rw [flat_get AK.cells 6 (by omega) (fun _ => rfl), show (k * 6 + j) / 6 = k by omega, show (k * 6 + j) % 6 = j by omega, ha]
    exact hu)
  rw [← Nat.add_assoc] at this
  exact this
section
open Go.Joins Go.ChangeShapes Go.WideShapes Go.ChangeAt Go.RowKit Go.Deep
variable {H : Type} {enc : TypeId × Value → H} {W : World} {base : Nat} {v : Value} {d : DataW H} {p : List MemPlace}
theorem ak_of_trod (n : Nat) (cs' : List Value) (y : DataW H × List MemPlace) (h : DataW.trod enc Try.prog W 0 (fun _ => true) true n 43 cs' = some y) : ∃ s : AK, cs' = s.cells ∧ s.ok W := by
  obtain ⟨x0, x1, x2, x3, x4, x5, n', hl, h0, h1, h2, h3, h4, h5⟩ := trod_structN6 Try.underlying43 h
  have hC : Try.prog.cellsOf 43 = 6 := by kernel_rfl
  have k0 : Try.prog.cellsOf 5 = 1 := by kernel_rfl
  have k1 : Try.prog.cellsOf 3 = 1 := by kernel_rfl
  have k2 : Try.prog.cellsOf 22 = 1 := by kernel_rfl
  have k3 : Try.prog.cellsOf 41 = 1 := by kernel_rfl
  rw [hC] at hl
  match cs', hl with
  | [c0, c1, c2, c3, c4, c5], _ =>
    simp only [k0, k1, k2, k3, List.drop, List.take] at h0 h1 h2 h3 h4 h5
    obtain ⟨a0, e0, w0⟩ := u8_of_trod Try.underlying5 h0
    obtain ⟨a1, e1, w1⟩ := u8_of_trod Try.underlying5 h1
    obtain ⟨a2, e2, w2⟩ := u8_of_trod Try.underlying5 h2
    obtain ⟨a3, e3, w3, w3'⟩ := i64_of_trod Try.underlying3 h3
    obtain ⟨bA, bc, b, e4, b1, b2, b3⟩ := bytes_of_trod Try.underlying22 h4
    obtain ⟨pA, pc, ps, e5, p1, p2, p3, _⟩ := ints_of_trod Try.underlying41 Try.underlying3 k1 h5
    cases e0; cases e1; cases e2; cases e3; cases e4; cases e5
    exact ⟨⟨a0, a1, a2, a3, bA, bc, b, pA, pc, ps⟩, rfl, ⟨w0, w1, w2, w3, w3', b1, b2, b3, p1, p2, p3⟩⟩
theorem One.aks (h : One enc W base 37 v d p) : ∃ (A : Option Addr) (c : Nat) (ls : List AK), v = .slice A ls.length c ∧ Sl W W.heap.size A (ak ls) ∧ ls.length ≤ c ∧ c ≤ maxLen ∧ ∀ s ∈ ls, s.ok W :=
  One.rows AK.cells 6 (by omega) (fun _ => rfl) (AK.ok W) ⟨0, 0, 0, 0, none, 0, [], none, 0, []⟩ Try.underlying37 (by kernel_rfl) ak_of_trod h
end
end Go.Proofs.Ythnbnhlfiehihaa
