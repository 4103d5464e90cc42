/- Frames: what is laid; kind, one, held. -/
import Derived.Test.YtkgmbpbbgkjidaaAt
import Derived.Test.YtkgmbpbbgkjidaaApp
import Derived.Test.YtkgmbpbbgkjidaaNumPut
import Derived.Test.YtkgmbpbbgkjidaaNumRef
import Derived.Test.YtkgmbpbbgkjidaaCon
import Derived.Handy
namespace Go.Proofs.Ytkgmbpbbgkjidaa
open Go.RowKit Go.Proofs.Ytkgmbpbbgkjidaa.Pl Go.Proofs.Ytkgmbpbbgkjidaa.Pc

structure Fr where
  k : Int
  g : Nat
  f : Int
  t : Int
  p : List UInt8
deriving DecidableEq
def kindB (k : Int) : Bool := decide (k = 1 ∨ k = 2)
def oneB (n : Int) : Bool := decide (0 ≤ n ∧ n < 64)
def heldN (l : Int) : Nat := if l < 0 then 0 else if 65536 < l then 65536 else l.toNat
def Fr.right (x : Fr) : Bool := kindB x.k && oneB x.f && oneB x.t
def Fr.head (x : Fr) : List UInt8 := [78, 82, UInt8.ofNat x.k.toNat] ++ fixF x.g 4 ++ [UInt8.ofNat x.f.toNat, UInt8.ofNat x.t.toNat]
def Fr.body (x : Fr) : List UInt8 := x.head ++ enc x.p.length ++ x.p
def Fr.bytes (x : Fr) : List UInt8 := sealS x.body
def Fr.len (x : Fr) : Nat := 9 + (enc x.p.length).length + x.p.length + 4
def putF (x : Fr) (limit : Int) : List UInt8 × Int := if x.right = true then if x.len ≤ heldN limit then (x.bytes, 0) else ([], 23) else ([], 21)
def Fr.v (x : Fr) (A : Option Addr) (c : Nat) : Value := .agg #[.int .i64 x.k, .int .u32 (x.g : Int), .int .i64 x.f, .int .i64 x.t, .slice A x.p.length c]
def PutPost (w : World) (r : List UInt8 × Int) (e : Ending) (w' : World) : Prop := ∃ A c, e = .returned (.tuple #[.slice A r.1.length c, .int .i64 r.2]) ∧ Sl w' w'.heap.size A (bv r.1) ∧ r.1.length ≤ c ∧ c ≤ maxLen ∧ Below w.heap.size w w'
theorem retb {a b : Bool} (h : a = b) : Ending.returned (.bool a) = .returned (.bool b) := by rw [h]
theorem reti {k : IntKind} {a b : Int} (h : a = b) : Ending.returned (.int k a) = .returned (.int k b) := by rw [h]
set_option maxRecDepth 100000 in
theorem kind_any (w : World) (k : Int) : Calls Try.prog 41 #[.int .i64 k] w fun e w' => e = .returned (.bool (kindB k)) ∧ w = w' := by
  go_enter Try.func41, Try.ntmps41
  go_wp2_with fail
  all_goals
    go_ret
    refine ⟨retb ?_, rfl⟩
    unfold kindB
    first | (rw [eq_comm, decide_eq_false_iff_not]; omega) | (rw [eq_comm, decide_eq_true_iff]; omega) | (rw [decide_eq_decide]; omega) | (rw [Bool.eq_iff_iff]; simp; done) | (rw [Bool.eq_iff_iff]; simp; omega)
set_option maxRecDepth 100000 in
theorem oneF_any (w : World) (k : Int) : Calls Try.prog 42 #[.int .i64 k] w fun e w' => e = .returned (.bool (oneB k)) ∧ w = w' := by
  go_enter Try.func42, Try.ntmps42
  go_wp2_with fail
  all_goals
    go_ret
    refine ⟨retb ?_, rfl⟩
    unfold oneB
    first | (rw [eq_comm, decide_eq_false_iff_not]; omega) | (rw [eq_comm, decide_eq_true_iff]; omega) | (rw [decide_eq_decide]; omega) | (rw [Bool.eq_iff_iff]; simp; done) | (rw [Bool.eq_iff_iff]; simp; omega)
theorem held_run (x : Int) : ∃ M : Int, (∀ W, (Builtin.max_ #[3, 3] 3 #[.int .i64 x, .int .i64 0]).run Try.prog W = .ok (.int .i64 M) W) ∧ (∀ W, (Builtin.min_ #[3, 3] 3 #[.int .i64 M, .int .i64 65536]).run Try.prog W = .ok (.int .i64 (heldN x : Int)) W) := by
  refine ⟨_, fun W => by rw [run_max_int2], fun W => ?_⟩
  rw [run_min_int2]
  unfold heldN
  congr 2
  (repeat' split) <;> omega
set_option maxRecDepth 100000 in
theorem held_any (w : World) (l : Int) : Calls Try.prog 43 #[.int .i64 l] w fun e w' => e = .returned (.int .i64 (heldN l : Int)) ∧ w = w' := by
  obtain ⟨M, hmx, hmn⟩ := held_run l
  go_enter Try.func43, Try.ntmps43
  go_wp2_with fail
  go_ret
  exact ⟨rfl, rfl⟩
set_option maxRecDepth 100000 in
theorem Rheld_any (w : World) (l : Int) : Calls Try.prog 47 #[.int .i64 l] w fun e w' => e = .returned (.int .i64 (heldN l : Int)) ∧ w = w' := by
  obtain ⟨M, hmx, hmn⟩ := held_run l
  go_enter Try.func47, Try.ntmps47
  go_wp2_with fail
  go_ret
  exact ⟨rfl, rfl⟩
set_option maxRecDepth 100000 in
set_option maxHeartbeats 800000 in
theorem Rknown_any (w : World) (x : Fr) (A : Option Addr) (c : Nat) : Calls Try.prog 45 #[x.v A c] w fun e w' => e = .returned (.bool x.right) ∧ Below w.heap.size w w' := by
  obtain ⟨k, g, f, t, p⟩ := x
  unfold Fr.v
  simp only
  have hA := At.new w 47 #[.int .i64 k, .int .u32 (g : Int), .int .i64 f, .int .i64 t, .slice A p.length c]
  have hb := balloc (Below.refl w.heap.size w) (.cells #[.int .i64 k, .int .u32 (g : Int), .int .i64 f, .int .i64 t, .slice A p.length c] 47)
  have c0 := hA.c 0 rfl
  have c2 := hA.c 2 rfl
  have c3 := hA.c 3 rfl
  go_enter Try.func45, Try.ntmps45
  go_wp2_with fail
  all_goals
    go_ret
    refine ⟨retb ?_, balloc (Below.refl w.heap.size w) _⟩
    unfold Fr.right kindB oneB
    simp only
    rw [Bool.eq_iff_iff]
    first | (simp; done) | (simp; omega)
end Go.Proofs.Ytkgmbpbbgkjidaa

