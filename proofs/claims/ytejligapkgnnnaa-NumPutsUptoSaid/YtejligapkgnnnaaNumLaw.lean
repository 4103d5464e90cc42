/- Numbers as bytes: the helps of the laws. -/
import Derived.Test.YtejligapkgnnnaaNumTake2
import Derived.Test.YtejligapkgnnnaaNumFix
import Derived.Test.YtejligapkgnnnaaNumRef
namespace Go.Proofs.Ytejligapkgnnnaa
open Go.RowKit Go.Proofs.Ytejligapkgnnnaa.Pl

set_option maxRecDepth 100000 in
set_option maxHeartbeats 800000 in
theorem takes_any (w : World) (B : Nat) (A : Option Addr) (c : Nat) (l : List UInt8) (hb : Sl w B A (bv l)) (hc : l.length ≤ c) (hn : c ≤ maxLen) :
    Calls Try.prog 20 #[.slice A l.length c] w fun e w' => e = .returned (.bool true) ∧ w = w' := by
  go_enter Try.func20, Try.ntmps20
  go_wp2_with (first
    | (go_at_call 21; refine (Take_any _ B _ _ _ hb hc hn).mono ?_; rintro e w' ⟨rfl, rfl⟩)
    | (go_at_call 28; refine (RefTake_any _ B _ _ _ hb hc hn).mono ?_; rintro e w' ⟨rfl, rfl⟩))
  go_ret
  exact ⟨rfl, rfl⟩

theorem takes_lit (w : World) (B : Nat) (A : Option Addr) (n c : Nat) (l : List UInt8) (hb : Sl w B A (bv l)) (h0 : n = l.length) (hc : n ≤ c) (hn : c ≤ maxLen) :
    Calls Try.prog 20 #[.slice A n c] w fun e w' => e = .returned (.bool true) ∧ w = w' := by
  subst h0
  exact takes_any w B A c l hb hc hn
theorem Take_lit (w : World) (B : Nat) (A : Option Addr) (n c : Nat) (l : List UInt8) (v k e0 : Nat) (hb : Sl w B A (bv l)) (h0 : n = l.length) (hc : n ≤ c) (hn : c ≤ maxLen) (h : takeS l = (v, k, e0)) :
    Calls Try.prog 21 #[.slice A n c] w fun e w' => e = .returned (.tuple #[.int .u64 (v : Int), .int .i64 (k : Int), .int .i64 (e0 : Int)]) ∧ w = w' := by
  subst h0
  have := Take_any w B A c l hb hc hn
  rw [h] at this
  exact this
theorem Put_nil (w : World) (l : List Nat) (k : List UInt8) (h : encs l = k) (hu : ∀ x ∈ l, U64 x) (hl : l.length ≤ 1000) (n c : Nat) (hn : n = l.length) (A : Option Addr) (hs : Sl w w.heap.size A (uv l)) :
    Calls Try.prog 18 #[.slice none 0 0, .slice A n c] w (Fresh w k) := by
  subst hn
  have := Put_any w none A 0 c [] l (Sl.nil) hs hu (by simp; omega)
  rw [List.nil_append, h] at this
  exact this

theorem Size_lit (w : World) (v n : Nat) (hv : U64 v) (h : (enc v).length = n) : Calls Try.prog 17 #[.int .u64 (v : Int)] w fun e w' => e = .returned (.int .i64 (n : Int)) ∧ Below w.heap.size w w' := h ▸ Size_any w v hv
set_option maxRecDepth 100000 in
set_option maxHeartbeats 1600000 in
theorem known_any (w : World) : Calls Try.prog 16 #[] w fun e w' => e = .returned (.bool true) ∧ Below w.heap.size w w' := by
  have b0 := (Below.refl w.heap.size w).alloc (Nat.le_refl _) (.cells (bv [172, 2, 9]).toArray 5)
  have b1 := b0.alloc (by simp) (.cells (uv [300, 0]).toArray 38)
  go_enter Try.func16, Try.ntmps16
  go_wp2_with (go_at_call 21; refine (Take_lit _ _ _ 3 3 [172, 2, 9] 300 2 0 (Sl.lit w [172, 2, 9]) rfl (by decide) (by decide) (by decide)).mono ?_; rintro e w' ⟨rfl, rfl⟩)
  refine (Put_nil _ [300, 0] [172, 2, 0] (by decide) (by simp [U64]) (by simp) _ _ rfl _ (by have := Sl.lit64 (w.alloc (.cells (bv [172, 2, 9]).toArray 5)) [300, 0]; simp only [World.size_alloc] at this ⊢; exact this)).mono ?_
  rintro e w1 ⟨A1, c1, rfl, h1, h2⟩
  have hcv := conv (Fresh.sl h1).1 3 c1 rfl
  go_wp2_with fail
  refine (Size_lit _ 300 2 (by simp [U64]) (by decide)).mono ?_
  rintro e w2 ⟨rfl, h3⟩
  go_wp2_with fail
  refine (Size_lit _ 0 1 (by simp [U64]) (by decide)).mono ?_
  rintro e w3 ⟨rfl, h4⟩
  go_wp2_with fail
  refine (Fixed_lit _ 258 3 [0, 1, 2] (by omega) (by decide)).mono ?_
  rintro e w4 ⟨A4, c4, rfl, h5, h6⟩
  have hcv4 := conv (Fresh.sl h5).1 3 c4 rfl
  go_wp2_with fail
  refine (Big_lit _ _ _ 2 2 [1, 2] 258 (Sl.lit w4 [1, 2]) rfl (by decide) (by decide) (by decide)).mono ?_
  rintro e w5 ⟨rfl, rfl⟩
  go_wp2_with fail
  go_ret
  exact ⟨rfl, balloc (bstep (bstep (bstep (bstep b1 h2) h3) h4) h6) _⟩
end Go.Proofs.Ytejligapkgnnnaa

