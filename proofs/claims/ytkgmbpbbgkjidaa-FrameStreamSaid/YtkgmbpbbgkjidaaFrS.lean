/- Frames: two of them compared. -/
import Derived.Test.YtkgmbpbbgkjidaaFrD
namespace Go.Proofs.Ytkgmbpbbgkjidaa
open Go.RowKit Go.Proofs.Ytkgmbpbbgkjidaa.Pl Go.Proofs.Ytkgmbpbbgkjidaa.Pc

set_option maxRecDepth 100000 in
set_option maxHeartbeats 1600000 in
theorem Same_eq (w : World) (k f t : Int) (g : Nat) (p : List UInt8) (n n' c c' : Nat) (A A' : Option Addr) (h1 : Sl w w.heap.size A (bv p)) (h2 : Sl w w.heap.size A' (bv p)) (e1 : n = p.length) (e2 : n' = p.length) :
    Calls Try.prog 31 #[.agg #[.int .i64 k, .int .u32 (g : Int), .int .i64 f, .int .i64 t, .slice A n c], .agg #[.int .i64 k, .int .u32 (g : Int), .int .i64 f, .int .i64 t, .slice A' n' c']] w fun e w' => e = .returned (.bool true) ∧ Below w.heap.size w w' := by
  have hA := (At.new w 47 #[.int .i64 k, .int .u32 (g : Int), .int .i64 f, .int .i64 t, .slice A n c]).alloc (.cells #[.int .i64 k, .int .u32 (g : Int), .int .i64 f, .int .i64 t, .slice A' n' c'] 47)
  have hB := At.new (w.alloc (.cells #[.int .i64 k, .int .u32 (g : Int), .int .i64 f, .int .i64 t, .slice A n c] 47)) 47 #[.int .i64 k, .int .u32 (g : Int), .int .i64 f, .int .i64 t, .slice A' n' c']
  simp only [World.size_alloc] at hB
  have b1 := balloc (Below.refl w.heap.size w) (.cells #[.int .i64 k, .int .u32 (g : Int), .int .i64 f, .int .i64 t, .slice A n c] 47)
  have b2 := b1.alloc b1.size (.cells #[.int .i64 k, .int .u32 (g : Int), .int .i64 f, .int .i64 t, .slice A' n' c'] 47)
  have s1 := conv (h1.below b2) n c e1
  have s2 := conv (h2.below b2) n' c' e2
  have a0 := hA.c 0 rfl
  have a1 := hA.c 1 rfl
  have a2 := hA.c 2 rfl
  have a3 := hA.c 3 rfl
  have a4 := hA.c 4 rfl
  have d0 := hB.c 0 rfl
  have d1 := hB.c 1 rfl
  have d2 := hB.c 2 rfl
  have d3 := hB.c 3 rfl
  have d4 := hB.c 4 rfl
  clear e1 e2 h1 h2
  go_enter Try.func31, Try.ntmps31
  go_wp2_with fail
  go_ret
  exact ⟨rfl, b2⟩
set_option maxRecDepth 100000 in
set_option maxHeartbeats 1600000 in
theorem Same_kind (w : World) (k f t k' f' t' : Int) (g g' : Nat) (n n' c c' : Nat) (A A' : Option Addr) (hk : k ≠ k') :
    Calls Try.prog 31 #[.agg #[.int .i64 k, .int .u32 (g : Int), .int .i64 f, .int .i64 t, .slice A n c], .agg #[.int .i64 k', .int .u32 (g' : Int), .int .i64 f', .int .i64 t', .slice A' n' c']] w fun e w' => e = .returned (.bool false) ∧ Below w.heap.size w w' := by
  have hA := (At.new w 47 #[.int .i64 k, .int .u32 (g : Int), .int .i64 f, .int .i64 t, .slice A n c]).alloc (.cells #[.int .i64 k', .int .u32 (g' : Int), .int .i64 f', .int .i64 t', .slice A' n' c'] 47)
  have hB := At.new (w.alloc (.cells #[.int .i64 k, .int .u32 (g : Int), .int .i64 f, .int .i64 t, .slice A n c] 47)) 47 #[.int .i64 k', .int .u32 (g' : Int), .int .i64 f', .int .i64 t', .slice A' n' c']
  simp only [World.size_alloc] at hB
  have b1 := balloc (Below.refl w.heap.size w) (.cells #[.int .i64 k, .int .u32 (g : Int), .int .i64 f, .int .i64 t, .slice A n c] 47)
  have b2 := b1.alloc b1.size (.cells #[.int .i64 k', .int .u32 (g' : Int), .int .i64 f', .int .i64 t', .slice A' n' c'] 47)
  have q : (k == k') = false := by simpa using hk
  have a0 := hA.c 0 rfl
  have d0 := hB.c 0 rfl
  clear hk
  go_enter Try.func31, Try.ntmps31
  go_wp2_with fail
  go_ret
  exact ⟨rfl, b2⟩
end Go.Proofs.Ytkgmbpbbgkjidaa

