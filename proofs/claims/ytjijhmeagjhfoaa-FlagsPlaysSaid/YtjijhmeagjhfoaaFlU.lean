/- Flags: the law's acts. -/
import Derived.Test.YtjijhmeagjhfoaaFlY
namespace Go.Proofs.Ytjijhmeagjhfoaa
open Go.RowKit
set_option maxRecDepth 20000

theorem i64_and3 (n : Int) : bits .and .i64 n 3 = n % 4 := by
  have h127 : (BitVec.ofInt 64 3).toNat = 2 ^ 2 - 1 := by decide
  have key : (BitVec.ofInt 64 n &&& BitVec.ofInt 64 3).toNat = (n % ((2 ^ 64 : Nat) : Int)).toNat % 2 ^ 2 := by
    rw [BitVec.toNat_and, BitVec.toNat_ofInt, h127, Nat.and_two_pow_sub_one_eq_mod]
  show IntKind.i64.wrap ((BitVec.ofInt 64 n &&& BitVec.ofInt 64 3).toNat : Nat) = n % 4
  rw [key, IntKind.wrap_i64]
  omega
theorem i64_and1' (n : Int) : bits .and .i64 n 1 = n % 2 := by
  have h127 : (BitVec.ofInt 64 1).toNat = 2 ^ 1 - 1 := by decide
  have key : (BitVec.ofInt 64 n &&& BitVec.ofInt 64 1).toNat = (n % ((2 ^ 64 : Nat) : Int)).toNat % 2 ^ 1 := by
    rw [BitVec.toNat_and, BitVec.toNat_ofInt, h127, Nat.and_two_pow_sub_one_eq_mod]
  show IntKind.i64.wrap ((BitVec.ofInt 64 n &&& BitVec.ofInt 64 1).toNat : Nat) = n % 2
  rw [key, IntKind.wrap_i64]
  omega
structure FA where
  wh : Nat
  x : Nat
  s : S3
  on : Bool
def FA.cells (a : FA) : List Value := [.int .u8 (a.wh : Int), .int .u8 (a.x : Int), .int .i64 a.s.p, .int .i64 a.s.l, .int .i64 a.s.r, .bool a.on]
def FA.ok (a : FA) : Prop := a.wh < 256 ∧ a.x < 256
def fa (ls : List FA) : List Value := ls.flatMap FA.cells
theorem actAt {w : World} {B : Nat} {A : Option Addr} {ls : List FA} (h : Sl w B A (fa ls)) {k : Nat} {a : FA} (ha : ls[k]? = some a) :
    ∃ b o, A = some ⟨b, o, none⟩ ∧ b < B ∧ b < w.heap.size ∧ ∀ (j : Nat) (u : Value), a.cells[j]? = some u → w.cell? ⟨b, o + k * 6 + j, none⟩ = some u := by
  have hk := (List.getElem?_eq_some_iff.1 ha).1
  have hlen : (fa ls).length = ls.length * 6 := by
    have : ∀ l : List FA, (l.flatMap FA.cells).length = l.length * 6 := by
      intro l
      induction l with
      | nil => rfl
      | cons x t ih => simp [FA.cells] at *; omega
    exact this ls
  obtain ⟨b, o, e, h1, h2, hc⟩ := h.at_ (k := k * 6) (by rw [hlen]; omega)
  refine ⟨b, o, e, h1, h2, fun j u hu => ?_⟩
  have hj : j < 6 := by have := (List.getElem?_eq_some_iff.1 hu).1; simpa [FA.cells] using this
  have := hc (k * 6 + j) u (by
    show (ls.flatMap FA.cells)[k * 6 + j]? = some u
    rw [flat_get FA.cells 6 (by omega) (fun _ => rfl), show (k * 6 + j) / 6 = k by omega, show (k * 6 + j) % 6 = j by omega, ha]
    exact hu)
  rw [← Nat.add_assoc] at this
  exact this
def PSt (w : World) (gs : Nat) (p l r : Int) (W : World) : Prop := KB w.heap W ∧ At W gs [.int .i64 p, .int .i64 l, .int .i64 r]
theorem PSt.below {w : World} {gs : Nat} {p l r : Int} {W W' : World} (h : PSt w gs p l r W) (hb : Below W.heap.size W W') : PSt w gs p l r W' :=
  ⟨⟨Nat.le_trans h.1.1 hb.size, fun k hk => (hb.block k (Nat.lt_of_lt_of_le hk h.1.1)).trans (h.1.2 k hk)⟩, h.2.below hb⟩
theorem DPut_at (w : World) (d : Nat) (F : Nat → Prop) (R : List FE) (h : DS w d F R) (x : ID) (s : S3) (on' : Bool) (hn : R.length < 1000000) {t : Bool} {n : Int} (h1 : (s.right && told (look R x) ⟨s, on'⟩) = t) (h2 : (if s.right then (0 : Int) else 21) = n) :
    Calls Try.prog 18 #[.pointer (some ⟨d, 0, none⟩), x.v, s.v, .bool on'] w fun e w' => e = .returned (.tuple #[.bool t, .int .i64 n]) ∧ ∃ F' : Nat → Prop, DS w' d F' (putIf R x ⟨s, on'⟩) ∧ (∀ i, F' i → F i ∨ w.heap.size ≤ i) ∧ Grew F w w' := by
  subst h1 h2
  exact DPut_any w d F R h x s on' hn
section
open Go.Joins Go.ChangeShapes Go.WideShapes Go.ChangeAt Go.RowKit Go.Deep
variable {H : Type} {enc : TypeId × Value → H} {W : World} {base : Nat} {t : TypeId} {v : Value} {d : DataW H} {p : List MemPlace}
theorem fa_of_trod (n : Nat) (cs' : List Value) (y : DataW H × List MemPlace) (h : DataW.trod enc Try.prog W 0 (fun _ => true) true n 46 cs' = some y) : ∃ s : FA, cs' = s.cells ∧ s.ok := by
  obtain ⟨y0, y1, y2, y3, n', hx, hlen, h0, h1, h2, h3⟩ := trod_struct4 Try.underlying46 h
  have hC : Try.prog.cellsOf 46 = 6 := by kernel_rfl
  have k0 : Try.prog.cellsOf 5 = 1 := by kernel_rfl
  have k2 : Try.prog.cellsOf 30 = 3 := by kernel_rfl
  have k3 : Try.prog.cellsOf 4 = 1 := by kernel_rfl
  rw [hC] at hlen
  match cs', hlen with
  | [c0, c1, c2, c3, c4, c5], _ =>
    simp only [k0, k2, k3, List.drop, List.take] at h0 h1 h2 h3
    obtain ⟨a0, e0, _, w0⟩ := DataW.trod_int (k := .u8) Try.underlying5 h0
    obtain ⟨a1, e1, _, w1⟩ := DataW.trod_int (k := .u8) Try.underlying5 h1
    obtain ⟨s, e2, w2⟩ := stamp_of_trod _ _ _ h2
    obtain ⟨bo, e3', _⟩ := DataW.trod_bool Try.underlying4 h3
    cases e0; cases e1; cases e3'
    have w0' : 0 ≤ a0 ∧ a0 ≤ 255 := by simpa [Lit.wf, IntKind.min, IntKind.max, IntKind.signed, IntKind.bits] using w0
    have w1' : 0 ≤ a1 ∧ a1 ≤ 255 := by simpa [Lit.wf, IntKind.min, IntKind.max, IntKind.signed, IntKind.bits] using w1
    unfold S3.cells at e2
    injection e2 with e2 e3
    injection e3 with e3 e4
    injection e4 with e4 _
    subst e2 e3 e4
    refine ⟨⟨a0.toNat, a1.toNat, s, bo⟩, ?_, by unfold FA.ok; simp only; omega⟩
    unfold FA.cells
    simp only
    rw [Int.toNat_of_nonneg w0'.1, Int.toNat_of_nonneg w1'.1]
theorem One.fas (h : One enc W base 40 v d p) : ∃ (A : Option Addr) (c : Nat) (ls : List FA), v = .slice A ls.length c ∧ Sl W W.heap.size A (fa ls) ∧ ls.length ≤ c ∧ c ≤ maxLen ∧ ∀ s ∈ ls, s.ok :=
  One.rows FA.cells 6 (by omega) (fun _ => rfl) FA.ok ⟨0, 0, ⟨0, 0, 0⟩, false⟩ Try.underlying40 (by kernel_rfl) fa_of_trod h
end
end Go.Proofs.Ytjijhmeagjhfoaa

