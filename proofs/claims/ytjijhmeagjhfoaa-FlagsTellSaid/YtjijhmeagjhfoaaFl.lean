/- Flags: marks and maps of them in memory; New, Len. -/
import Derived.Test.YtjijhmeagjhfoaaPFl3
import Derived.Test.YtjijhmeagjhfoaaMId
import Derived.Test.YtjijhmeagjhfoaaRow
import Derived.Test.YtjijhmeagjhfoaaStamp
import Derived.Test.YtjijhmeagjhfoaaRegS
namespace Go.Proofs.Ytjijhmeagjhfoaa
open Go.RowKit Go.Maps
set_option maxRecDepth 20000

def FM.cells (m : FM) : List Value := [.int .i64 m.s.p, .int .i64 m.s.l, .int .i64 m.s.r, .bool m.on]
def FM.v (m : FM) : Value := .agg #[.int .i64 m.s.p, .int .i64 m.s.l, .int .i64 m.s.r, .bool m.on]
def ID.v (x : ID) : Value := .agg (bv x.l).toArray
def FM.enc (m : FM) : DataW Unit := .agg [.lit (.int .i64 m.s.p), .lit (.int .i64 m.s.l), .lit (.int .i64 m.s.r), .lit (.bool m.on)]
def zeroM : FM := ⟨⟨0, 0, 0⟩, false⟩
theorem FM.v_inj (a b : FM) (h : a.v = b.v) : a = b := by
  obtain ⟨⟨p, l, r⟩, on⟩ := a
  obtain ⟨⟨p', l', r'⟩, on'⟩ := b
  simp only [FM.v, Value.agg.injEq, Array.mk.injEq, List.cons.injEq, Value.int.injEq, Value.bool.injEq, true_and, and_true] at h
  obtain ⟨rfl, rfl, rfl, rfl⟩ := h
  rfl
theorem FM.enc_inj (a b : FM) (h : a.enc = b.enc) : a = b := by
  obtain ⟨⟨p, l, r⟩, on⟩ := a
  obtain ⟨⟨p', l', r'⟩, on'⟩ := b
  simp only [FM.enc, DataW.agg.injEq, List.cons.injEq, DataW.lit.injEq, Lit.int.injEq, Lit.bool.injEq, true_and, and_true] at h
  obtain ⟨rfl, rfl, rfl, rfl⟩ := h
  rfl
theorem ID.v_inj (a b : ID) (h : a.v = b.v) : a = b := by
  refine ID.ext' (bv_inj ?_)
  simp only [ID.v, Value.agg.injEq] at h
  simpa using congrArg Array.toList h
theorem markInfo : (Try.prog.info? 68).bind (·.zero) = some (.agg #[.int .i64 0, .int .i64 0, .int .i64 0, .bool false]) := by kernel_rfl
theorem markZero (w : World) : (zeroValue 68).run Try.prog w = .ok zeroM.v w := by
  have h := markInfo
  cases hi : Try.prog.info? 68 with
  | none => rw [hi] at h; cases h
  | some i => rw [hi] at h; simp only [Option.bind_some] at h; simp [zeroValue, typeInfo, hi, h, FM.v, zeroM]
noncomputable def MF : MT Try.prog 64 25 68 ID FM := {
  mkK := ID.v
  okK := fun _ => True
  litK := fun x => litI x.l
  mkV := FM.v
  enc := FM.enc
  dec := decOf FM.v
  zero := zeroM
  ty := Try.underlying64
  keyed := id_keyed
  key := fun x _ => key_id x.l x.h
  keyInv := fun v l h => by
    obtain ⟨k, h1, h2⟩ := id_inv v l h
    exact ⟨⟨k, h1⟩, trivial, h2⟩
  litInj := fun x y _ _ h => ID.ext' (litI_inj x.l y.l x.h y.h h)
  decMk := decOf_mk FM.v_inj
  mkDec := fun _ _ h => mk_decOf h
  encInj := FM.enc_inj
  zeroV := markZero }
/-- a map of flags: its pairs are those of the rising list R -/
def FSt (w : World) (m b : Nat) (R : List FE) : Prop := At w m [.map (some b)] ∧ (∃ L, MapIs MF w b L ∧ L.Perm R) ∧ Rise R ∧ AllR R
theorem FSt.at_ {w : World} {m b : Nat} {R : List FE} (h : FSt w m b R) : At w m [.map (some b)] := h.1
theorem FSt.blt {w : World} {m b : Nat} {R : List FE} (h : FSt w m b R) : b < w.heap.size := by
  obtain ⟨_, ⟨L, h1, _⟩, _⟩ := h
  exact h1.lt
theorem FSt.kb {w W : World} {m b : Nat} {R : List FE} (h : FSt w m b R) (hk : KB w.heap W) : FSt W m b R := by
  obtain ⟨h1, ⟨L, h2, h3⟩, h4⟩ := h
  refine ⟨⟨Nat.lt_of_lt_of_le h1.1 hk.1, fun i v hv => ?_⟩, ⟨L, h2.kb hk, h3⟩, h4⟩
  have hb := hk.2 m h1.1
  exact ⟨(World.cell?_of_block (w := w) hb).trans (h1.2 i v hv).1, (World.frozen?_of_block (w := w) hb).trans (h1.2 i v hv).2⟩
theorem FSt.below {w W : World} {m b : Nat} {R : List FE} (h : FSt w m b R) (hb : Below w.heap.size w W) : FSt W m b R := h.kb (KB.of hb)
theorem FSt.drew {w : World} {m b : Nat} {R : List FE} (h : FSt w m b R) : FSt w.drew m b R := h
theorem FSt.ne {w : World} {m b m' b' : Nat} {R R' : List FE} (h : FSt w m b R) (h' : FSt w m' b' R') : m ≠ b' := by
  rintro rfl
  obtain ⟨_, ⟨L, ⟨_, es, ⟨es', clock, hb, _⟩, _⟩, _⟩, _⟩ := h'
  have := h.1.c 0 rfl
  simp only [World.cell?, hb] at this
  cases this
/-- what is done to another map leaves this one -/
theorem FSt.kept {w W : World} {m b b' : Nat} {R : List FE} (h : FSt w m b R) (hg : w.grownBy W (some b')) (hne : b ≠ b') (hm : m ≠ b') : FSt W m b R := by
  obtain ⟨h1, ⟨L, h2, h3⟩, h4⟩ := h
  exact ⟨h1.grown hg (fun e => hm (by injection e with e; exact e.symm)), ⟨L, h2.kept hg (fun e => hne (Option.some.inj e)), h3⟩, h4⟩
theorem New_any (w : World) : Calls Try.prog 8 #[] w fun e w' => e = .returned (.pointer (some ⟨w.heap.size + 1, 0, none⟩)) ∧ FSt w' (w.heap.size + 1) w.heap.size [] ∧ Below w.heap.size w w' := by
  have hmm := @run_makeMap Try.prog
  go_enter Try.func8, Try.ntmps8
  go_wp2
  go_ret
  have h1 := MapIs.made MF w
  have h2 := At.new (w.alloc (.map #[] 0)) 66 #[.map (some w.heap.size)]
  rw [World.size_alloc] at h2
  refine ⟨by simp, ⟨h2, ⟨[], h1.below ((Below.refl _ _).alloc (Nat.le_refl _) _), List.Perm.nil⟩, List.Pairwise.nil, fun p hp => by simp at hp⟩, ((Below.refl _ w).alloc (Nat.le_refl _) _).alloc (by simp) _⟩
theorem Len_any (w : World) (m b : Nat) (R : List FE) (h : FSt w m b R) : Calls Try.prog 22 #[.pointer (some ⟨m, 0, none⟩)] w fun e w' => e = .returned (.int .i64 (R.length : Nat)) ∧ w = w' := by
  obtain ⟨h1, ⟨L, h2, h3⟩, _⟩ := h
  have hc := h1.c 0 (v := .map (some b)) rfl
  have hl := fun ty => h2.len_run ty
  rw [h3.length_eq] at hl
  go_enter Try.func22, Try.ntmps22
  go_wp2
  go_ret
  exact ⟨rfl, rfl⟩
end Go.Proofs.Ytjijhmeagjhfoaa

