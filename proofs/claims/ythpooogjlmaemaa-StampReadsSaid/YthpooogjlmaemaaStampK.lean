/- Stamps: what is known of them. -/
import Derived.Test.YthpooogjlmaemaaStampB
import Derived.Test.YthpooogjlmaemaaStampR
import Derived.Test.YthpooogjlmaemaaStampM
namespace Go.Proofs.Ythpooogjlmaemaa
open Go.RowKit Go.Proofs.Ythpooogjlmaemaa.Pl

def nine123 : List UInt8 := [0, 0, 0, 0, 0, 1, 0, 2, 3]
set_option maxRecDepth 100000 in
set_option maxHeartbeats 3200000 in
theorem stampKnown_any (w : World) : Calls Try.prog 11 #[] w fun e w' => e = .returned (.bool true) ∧ Below w.heap.size w w' := by
  have e9 : nineS nine123 = (⟨1, 2, 3⟩, 0) := by decide
  have hR : ∀ W, Calls Try.prog 15 #[.agg #[.int .i64 1, .int .i64 2, .int .i64 3]] W fun e w' => e = .returned (.bool true) ∧ Below W.heap.size W w' := fun W => Right_any W ⟨1, 2, 3⟩
  have hR2 : ∀ W, Calls Try.prog 15 #[.agg #[.int .i64 0, .int .i64 0, .int .i64 64]] W fun e w' => e = .returned (.bool false) ∧ Below W.heap.size W w' := fun W => Right_any W ⟨0, 0, 64⟩
  have hL : ∀ W, Calls Try.prog 12 #[.agg #[.int .i64 1, .int .i64 0, .int .i64 0], .agg #[.int .i64 1, .int .i64 2, .int .i64 3]] W fun e w' => e = .returned (.bool true) ∧ Below W.heap.size W w' := fun W => Less_any W ⟨1, 0, 0⟩ ⟨1, 2, 3⟩
  have hL2 : ∀ W, Calls Try.prog 12 #[.agg #[.int .i64 1, .int .i64 2, .int .i64 3], .agg #[.int .i64 1, .int .i64 2, .int .i64 3]] W fun e w' => e = .returned (.bool false) ∧ Below W.heap.size W w' := fun W => Less_any W ⟨1, 2, 3⟩ ⟨1, 2, 3⟩
  have hB : ∀ W, Calls Try.prog 14 #[.agg #[.int .i64 1, .int .i64 2, .int .i64 3]] W (Fresh W nine123) := fun W => by
    have := Bytes_right W 1 2 3 (by omega) (by omega) (by omega)
    rw [show fixF 1 6 ++ fixF 2 2 ++ [UInt8.ofNat 3] = nine123 by decide] at this
    exact this
  have hM : ∀ W (A : Option Addr), Sl W W.heap.size A (sv [⟨0, 0, 0⟩, ⟨1, 2, 3⟩]) → Calls Try.prog 20 #[.slice A 2 2] W fun e w' => e = .returned (.agg #[.int .i64 1, .int .i64 2, .int .i64 3]) ∧ Below W.heap.size W w' := fun W A h => by
    have := Max_any W A 2 2 [⟨0, 0, 0⟩, ⟨1, 2, 3⟩] h rfl (by omega)
    rw [show mxS [⟨0, 0, 0⟩, ⟨1, 2, 3⟩] = ⟨1, 2, 3⟩ by decide] at this
    exact this
  have H := Lib.hid (And.intro hR (And.intro hR2 (And.intro hL (And.intro hL2 (And.intro hB hM)))))
  clear hR hR2 hL hL2 hB hM
  have hRd := fun W => Read_nine W (some ⟨w.heap.size + 1, 0, none⟩) 9 nine123
  rw [e9] at hRd
  have HR := Lib.hid hRd
  clear hRd e9
  go_enter Try.func11, Try.ntmps11
  go_wp2_with fail
  have st1 := Stands.new w 23 ⟨1, 2, 3⟩
  have b1 := (Below.refl w.heap.size w).alloc (Nat.le_refl _) (.cells #[.int .i64 1, .int .i64 2, .int .i64 3] 23)
  have hz1 : (w.alloc (.cells #[.int .i64 1, .int .i64 2, .int .i64 3] 23)).heap.size = w.heap.size + 1 := by simp
  generalize w.alloc (.cells #[.int .i64 1, .int .i64 2, .int .i64 3] 23) = w1 at *
  have hs9 := Sl.new w1 5 (bv nine123).toArray (0, 0)
  rw [hz1] at hs9
  have st1' := st1.alloc (.cells (bv nine123).toArray 5)
  have b1' := b1.alloc b1.size (.cells (bv nine123).toArray 5)
  refine (HR.out (w1.alloc (.cells (bv nine123).toArray 5)) (by simpa using hs9.more (by simp; omega)) rfl (by omega) (by simp [maxLen])).mono ?_
  rintro e w2 ⟨rfl, hb2⟩
  have st2 := (st1'.below hb2).below (Below.refl _ _)
  have b2 := b1'.trans (hb2.mono b1'.size)
  clear st1 st1' b1 b1' hs9 hz1 hb2
  unfold S3.v
  go_wp2_with fail
  have st3 := st2.alloc (.cells #[.int .i64 1, .int .i64 2, .int .i64 3] 23)
  have st4 := Stands.new w2 23 ⟨1, 2, 3⟩
  have b3 := b2.alloc b2.size (.cells #[.int .i64 1, .int .i64 2, .int .i64 3] 23)
  generalize w2.alloc (.cells #[.int .i64 1, .int .i64 2, .int .i64 3] 23) = w3 at *
  have e0 := cellB st3.2.1
  have e1 := cellB st3.2.2.1
  have e2 := cellB st3.2.2.2.1
  have e3 := cellB st4.2.1
  have e4 := cellB st4.2.2.1
  have e5 := cellB st4.2.2.2.1
  have st3 : Stands w3.drew w.heap.size ⟨1, 2, 3⟩ := st3
  have st4 : Stands w3.drew w2.heap.size ⟨1, 2, 3⟩ := st4
  have hB : Below w.heap.size w w3.drew := b3.drew
  simp only at e0 e1 e2 e3 e4 e5
  clear HR st2 b2 b3
  refine bstart (by kernel_rfl) ?_
  refine btake 0 (oi := _) (v := ?_) (by simp only [List.getElem?_toArray, List.getElem?_cons_zero]; rfl) (by kernel_rfl) (by exact fun _ _ _ h => h) (by first | assumption | exact KB.refl _) (.inl ⟨by rfl, fun W hW => ?_⟩) ?_; rotate_left
  · (go_simp; first | done | with_reducible rfl)
  try simp only [Act.put, List.setIfInBounds_toArray, List.set_cons_zero, List.set_cons_succ]
  -- 1: newsreel/stamp.Right
  refine bop 1 (o := _) (by simp only [List.getElem?_toArray, List.getElem?_cons_succ, List.getElem?_cons_zero]; rfl) (by kernel_rfl) (by first | assumption | exact KB.refl _) (by rfl) (fun K hK => ?_)
  go_simp
  refine (H.out.1 _).mono ?_
  rintro e w21 ⟨rfl, hb21⟩
  have st3 := st3.below hb21
  have st4 := st4.below hb21
  have hB := hB.trans (hb21.mono hB.size)
  have e0 := cellB st3.2.1
  have e1 := cellB st3.2.2.1
  have e2 := cellB st3.2.2.2.1
  have e3 := cellB st4.2.1
  have e4 := cellB st4.2.2.1
  have e5 := cellB st4.2.2.2.1
  simp only at e0 e1 e2 e3 e4 e5
  have hkb := KB.of hb21
  refine hK.out _ _ hkb ?_; clear hK K
  try simp only [Act.put, List.setIfInBounds_toArray, List.set_cons_zero, List.set_cons_succ]
  refine btake 2 (oi := _) (v := ?_) (by simp only [List.getElem?_toArray, List.getElem?_cons_succ, List.getElem?_cons_zero]; rfl) (by kernel_rfl) (by exact fun _ _ _ h => h) (by first | assumption | exact KB.refl _) (.inl ⟨by rfl, fun W hW => ?_⟩) ?_; rotate_left
  · (go_simp; first | done | with_reducible rfl)
  try simp only [Act.put, List.setIfInBounds_toArray, List.set_cons_zero, List.set_cons_succ]
  refine btake 3 (oi := _) (v := ?_) (by simp only [List.getElem?_toArray, List.getElem?_cons_succ, List.getElem?_cons_zero]; rfl) (by kernel_rfl) (by exact fun _ _ _ h => h) (by first | assumption | exact KB.refl _) (.inl ⟨by rfl, fun W hW => ?_⟩) ?_; rotate_left
  · (go_simp; first | done | with_reducible rfl)
  try simp only [Act.put, List.setIfInBounds_toArray, List.set_cons_zero, List.set_cons_succ]
  -- 4: newsreel/stamp.Right
  refine bop 4 (o := _) (by simp only [List.getElem?_toArray, List.getElem?_cons_succ, List.getElem?_cons_zero]; rfl) (by kernel_rfl) (by first | assumption | exact KB.refl _) (by rfl) (fun K hK => ?_)
  go_simp
  refine (H.out.2.1 _).mono ?_
  rintro e w24 ⟨rfl, hb24⟩
  have st3 := st3.below hb24
  have st4 := st4.below hb24
  have hB := hB.trans (hb24.mono hB.size)
  have e0 := cellB st3.2.1
  have e1 := cellB st3.2.2.1
  have e2 := cellB st3.2.2.2.1
  have e3 := cellB st4.2.1
  have e4 := cellB st4.2.2.1
  have e5 := cellB st4.2.2.2.1
  simp only at e0 e1 e2 e3 e4 e5
  have hkb := KB.of hb24
  refine hK.out _ _ hkb ?_; clear hK K
  try simp only [Act.put, List.setIfInBounds_toArray, List.set_cons_zero, List.set_cons_succ]
  refine btake 5 (oi := _) (v := ?_) (by simp only [List.getElem?_toArray, List.getElem?_cons_succ, List.getElem?_cons_zero]; rfl) (by kernel_rfl) (by exact fun _ _ _ h => h) (by first | assumption | exact KB.refl _) (.inl ⟨by rfl, fun W hW => ?_⟩) ?_; rotate_left
  · (go_simp; first | done | with_reducible rfl)
  try simp only [Act.put, List.setIfInBounds_toArray, List.set_cons_zero, List.set_cons_succ]
  refine btake 6 (oi := _) (v := ?_) (by simp only [List.getElem?_toArray, List.getElem?_cons_succ, List.getElem?_cons_zero]; rfl) (by kernel_rfl) (by exact fun _ _ _ h => h) (by first | assumption | exact KB.refl _) (.inl ⟨by rfl, fun W hW => ?_⟩) ?_; rotate_left
  · (go_simp; first | done | with_reducible rfl)
  try simp only [Act.put, List.setIfInBounds_toArray, List.set_cons_zero, List.set_cons_succ]
  refine btake 7 (oi := _) (v := ?_) (by simp only [List.getElem?_toArray, List.getElem?_cons_succ, List.getElem?_cons_zero]; rfl) (by kernel_rfl) (by exact fun _ _ _ h => h) (by first | assumption | exact KB.refl _) (.inl ⟨by rfl, fun W hW => ?_⟩) ?_; rotate_left
  · (go_simp; first | done | with_reducible rfl)
  try simp only [Act.put, List.setIfInBounds_toArray, List.set_cons_zero, List.set_cons_succ]
  refine btake 8 (oi := _) (v := ?_) (by simp only [List.getElem?_toArray, List.getElem?_cons_succ, List.getElem?_cons_zero]; rfl) (by kernel_rfl) (by exact fun _ _ _ h => h) (by first | assumption | exact KB.refl _) (.inl ⟨by rfl, fun W hW => ?_⟩) ?_; rotate_left
  · (go_simp; first | done | with_reducible rfl)
  try simp only [Act.put, List.setIfInBounds_toArray, List.set_cons_zero, List.set_cons_succ]
  refine btake 9 (oi := _) (v := ?_) (by simp only [List.getElem?_toArray, List.getElem?_cons_succ, List.getElem?_cons_zero]; rfl) (by kernel_rfl) (by exact fun _ _ _ h => h) (by first | assumption | exact KB.refl _) (.inl ⟨by rfl, fun W hW => ?_⟩) ?_; rotate_left
  · (go_simp; first | done | with_reducible rfl)
  try simp only [Act.put, List.setIfInBounds_toArray, List.set_cons_zero, List.set_cons_succ]
  -- 10: newsreel/stamp.Less
  refine bop 10 (o := _) (by simp only [List.getElem?_toArray, List.getElem?_cons_succ, List.getElem?_cons_zero]; rfl) (by kernel_rfl) (by first | assumption | exact KB.refl _) (by rfl) (fun K hK => ?_)
  go_simp
  refine (H.out.2.2.1 _).mono ?_
  rintro e w30 ⟨rfl, hb30⟩
  have st3 := st3.below hb30
  have st4 := st4.below hb30
  have hB := hB.trans (hb30.mono hB.size)
  have e0 := cellB st3.2.1
  have e1 := cellB st3.2.2.1
  have e2 := cellB st3.2.2.2.1
  have e3 := cellB st4.2.1
  have e4 := cellB st4.2.2.1
  have e5 := cellB st4.2.2.2.1
  simp only at e0 e1 e2 e3 e4 e5
  have hkb := KB.of hb30
  refine hK.out _ _ hkb ?_; clear hK K
  try simp only [Act.put, List.setIfInBounds_toArray, List.set_cons_zero, List.set_cons_succ]
  refine btake 11 (oi := _) (v := ?_) (by simp only [List.getElem?_toArray, List.getElem?_cons_succ, List.getElem?_cons_zero]; rfl) (by kernel_rfl) (by exact fun _ _ _ h => h) (by first | assumption | exact KB.refl _) (.inl ⟨by rfl, fun W hW => ?_⟩) ?_; rotate_left
  · (go_simp; first | done | with_reducible rfl)
  try simp only [Act.put, List.setIfInBounds_toArray, List.set_cons_zero, List.set_cons_succ]
  refine btake 12 (oi := _) (v := ?_) (by simp only [List.getElem?_toArray, List.getElem?_cons_succ, List.getElem?_cons_zero]; rfl) (by kernel_rfl) (by exact fun _ _ _ h => h) (by first | assumption | exact KB.refl _) (.inl ⟨by rfl, fun W hW => ?_⟩) ?_; rotate_left
  · (go_simp; first | done | with_reducible rfl)
  try simp only [Act.put, List.setIfInBounds_toArray, List.set_cons_zero, List.set_cons_succ]
  refine btake 13 (oi := _) (v := ?_) (by simp only [List.getElem?_toArray, List.getElem?_cons_succ, List.getElem?_cons_zero]; rfl) (by kernel_rfl) (by exact fun _ _ _ h => h) (by first | assumption | exact KB.refl _) (.inl ⟨by rfl, fun W hW => ?_⟩) ?_; rotate_left
  · (go_simp; first | done | with_reducible rfl)
  try simp only [Act.put, List.setIfInBounds_toArray, List.set_cons_zero, List.set_cons_succ]
  refine btake 14 (oi := _) (v := ?_) (by simp only [List.getElem?_toArray, List.getElem?_cons_succ, List.getElem?_cons_zero]; rfl) (by kernel_rfl) (by exact fun _ _ _ h => h) (by first | assumption | exact KB.refl _) (.inl ⟨by rfl, fun W hW => ?_⟩) ?_; rotate_left
  · (go_simp; first | done | with_reducible rfl)
  try simp only [Act.put, List.setIfInBounds_toArray, List.set_cons_zero, List.set_cons_succ]
  -- 15: newsreel/stamp.Less
  refine bop 15 (o := _) (by simp only [List.getElem?_toArray, List.getElem?_cons_succ, List.getElem?_cons_zero]; rfl) (by kernel_rfl) (by first | assumption | exact KB.refl _) (by rfl) (fun K hK => ?_)
  go_simp
  refine (H.out.2.2.2.1 _).mono ?_
  rintro e w35 ⟨rfl, hb35⟩
  have st3 := st3.below hb35
  have st4 := st4.below hb35
  have hB := hB.trans (hb35.mono hB.size)
  have e0 := cellB st3.2.1
  have e1 := cellB st3.2.2.1
  have e2 := cellB st3.2.2.2.1
  have e3 := cellB st4.2.1
  have e4 := cellB st4.2.2.1
  have e5 := cellB st4.2.2.2.1
  simp only at e0 e1 e2 e3 e4 e5
  have hkb := KB.of hb35
  refine hK.out _ _ hkb ?_; clear hK K
  try simp only [Act.put, List.setIfInBounds_toArray, List.set_cons_zero, List.set_cons_succ]
  refine btake 16 (oi := _) (v := ?_) (by simp only [List.getElem?_toArray, List.getElem?_cons_succ, List.getElem?_cons_zero]; rfl) (by kernel_rfl) (by exact fun _ _ _ h => h) (by first | assumption | exact KB.refl _) (.inl ⟨by rfl, fun W hW => ?_⟩) ?_; rotate_left
  · (go_simp; first | done | with_reducible rfl)
  try simp only [Act.put, List.setIfInBounds_toArray, List.set_cons_zero, List.set_cons_succ]
  refine btake 17 (oi := _) (v := ?_) (by simp only [List.getElem?_toArray, List.getElem?_cons_succ, List.getElem?_cons_zero]; rfl) (by kernel_rfl) (by exact fun _ _ _ h => h) (by first | assumption | exact KB.refl _) (.inl ⟨by rfl, fun W hW => ?_⟩) ?_; rotate_left
  · (go_simp; first | done | with_reducible rfl)
  try simp only [Act.put, List.setIfInBounds_toArray, List.set_cons_zero, List.set_cons_succ]
  refine btake 18 (oi := _) (v := ?_) (by simp only [List.getElem?_toArray, List.getElem?_cons_succ, List.getElem?_cons_zero]; rfl) (by kernel_rfl) (by exact fun _ _ _ h => h) (by first | assumption | exact KB.refl _) (.inl ⟨by rfl, fun W hW => ?_⟩) ?_; rotate_left
  · (go_simp; first | done | with_reducible rfl)
  try simp only [Act.put, List.setIfInBounds_toArray, List.set_cons_zero, List.set_cons_succ]
  refine btake 19 (oi := _) (v := ?_) (by simp only [List.getElem?_toArray, List.getElem?_cons_succ, List.getElem?_cons_zero]; rfl) (by kernel_rfl) (by exact fun _ _ _ h => h) (by first | assumption | exact KB.refl _) (.inl ⟨by rfl, fun W hW => ?_⟩) ?_; rotate_left
  · (go_simp; first | done | with_reducible rfl)
  try simp only [Act.put, List.setIfInBounds_toArray, List.set_cons_zero, List.set_cons_succ]
  -- 20: newsreel/stamp.Bytes
  refine bop 20 (o := _) (by simp only [List.getElem?_toArray, List.getElem?_cons_succ, List.getElem?_cons_zero]; rfl) (by kernel_rfl) (by first | assumption | exact KB.refl _) (by rfl) (fun K hK => ?_)
  go_simp
  refine (H.out.2.2.2.2.1 _).mono ?_
  rintro e w40 ⟨A40, c40, rfl, hown40, hb40⟩
  have hcv := convB (Fresh.sl hown40).1 nine123.length c40 rfl
  have st3 := st3.below hb40
  have st4 := st4.below hb40
  have hB := hB.trans (hb40.mono hB.size)
  have e0 := cellB st3.2.1
  have e1 := cellB st3.2.2.1
  have e2 := cellB st3.2.2.2.1
  have e3 := cellB st4.2.1
  have e4 := cellB st4.2.2.1
  have e5 := cellB st4.2.2.2.1
  simp only at e0 e1 e2 e3 e4 e5
  have hkb := KB.of hb40
  refine hK.out _ _ hkb ?_; clear hK K
  try simp only [Act.put, List.setIfInBounds_toArray, List.set_cons_zero, List.set_cons_succ]
  refine btake 21 (oi := _) (v := ?_) (by simp only [List.getElem?_toArray, List.getElem?_cons_succ, List.getElem?_cons_zero]; rfl) (by kernel_rfl) (by exact fun _ _ _ h => h) (by first | assumption | exact KB.refl _) (.inl ⟨by rfl, fun W hW => ?_⟩) ?_; rotate_left
  · (go_simp; first | done | with_reducible rfl)
  try simp only [Act.put, List.setIfInBounds_toArray, List.set_cons_zero, List.set_cons_succ]
  refine btake 22 (oi := _) (v := ?_) (by simp only [List.getElem?_toArray, List.getElem?_cons_succ, List.getElem?_cons_zero]; rfl) (by kernel_rfl) (by exact fun _ _ _ h => h) (by first | assumption | exact KB.refl _) (.inl ⟨by rfl, fun W hW => ?_⟩) ?_; rotate_left
  · (go_simp; first | done | with_reducible rfl)
  try simp only [Act.put, List.setIfInBounds_toArray, List.set_cons_zero, List.set_cons_succ]
  refine btake 23 (oi := _) (v := ?_) (by simp only [List.getElem?_toArray, List.getElem?_cons_succ, List.getElem?_cons_zero]; rfl) (by kernel_rfl) (by exact fun _ _ _ h => h) (by first | assumption | exact KB.refl _) (.inl ⟨by rfl, fun W hW => ?_⟩) ?_; rotate_left
  · (go_simp; first | done | with_reducible rfl)
  try simp only [Act.put, List.setIfInBounds_toArray, List.set_cons_zero, List.set_cons_succ]
  refine btake 24 (oi := _) (v := ?_) (by simp only [List.getElem?_toArray, List.getElem?_cons_succ, List.getElem?_cons_zero]; rfl) (by kernel_rfl) (by exact fun _ _ _ h => h) (by first | assumption | exact KB.refl _) (.inl ⟨by rfl, fun W hW => ?_⟩) ?_; rotate_left
  · (go_simp; first | done | with_reducible rfl)
  try simp only [Act.put, List.setIfInBounds_toArray, List.set_cons_zero, List.set_cons_succ]
  refine btake 25 (oi := _) (v := ?_) (by simp only [List.getElem?_toArray, List.getElem?_cons_succ, List.getElem?_cons_zero]; rfl) (by kernel_rfl) (by exact fun _ _ _ h => h) (by first | assumption | exact KB.refl _) (.inl ⟨by rfl, fun W hW => ?_⟩) ?_; rotate_left
  · (go_simp; first | done | with_reducible rfl)
  try simp only [Act.put, List.setIfInBounds_toArray, List.set_cons_zero, List.set_cons_succ]
  refine btake 26 (oi := _) (v := ?_) (by simp only [List.getElem?_toArray, List.getElem?_cons_succ, List.getElem?_cons_zero]; rfl) (by kernel_rfl) (by exact fun _ _ _ h => h) (by first | assumption | exact KB.refl _) (.inl ⟨by rfl, fun W hW => ?_⟩) ?_; rotate_left
  · (go_simp; first | done | with_reducible rfl)
  try simp only [Act.put, List.setIfInBounds_toArray, List.set_cons_zero, List.set_cons_succ]
  refine btake 27 (oi := _) (v := ?_) (by simp only [List.getElem?_toArray, List.getElem?_cons_succ, List.getElem?_cons_zero]; rfl) (by kernel_rfl) (by exact fun _ _ _ h => h) (by first | assumption | exact KB.refl _) (.inl ⟨by rfl, fun W hW => ?_⟩) ?_; rotate_left
  · (go_simp; first | done | with_reducible rfl)
  try simp only [Act.put, List.setIfInBounds_toArray, List.set_cons_zero, List.set_cons_succ]
  refine btake 28 (oi := _) (v := ?_) (by simp only [List.getElem?_toArray, List.getElem?_cons_succ, List.getElem?_cons_zero]; rfl) (by kernel_rfl) (by exact fun _ _ _ h => h) (by first | assumption | exact KB.refl _) (.inl ⟨by rfl, fun W hW => ?_⟩) ?_; rotate_left
  · (go_simp; first | done | with_reducible rfl)
  try simp only [Act.put, List.setIfInBounds_toArray, List.set_cons_zero, List.set_cons_succ]
  refine btake 29 (oi := _) (v := ?_) (by simp only [List.getElem?_toArray, List.getElem?_cons_succ, List.getElem?_cons_zero]; rfl) (by kernel_rfl) (by exact fun _ _ _ h => h) (by first | assumption | exact KB.refl _) (.inl ⟨by rfl, fun W hW => ?_⟩) ?_; rotate_left
  · (go_simp; first | done | with_reducible rfl)
  try simp only [Act.put, List.setIfInBounds_toArray, List.set_cons_zero, List.set_cons_succ]
  refine btake 30 (oi := _) (v := ?_) (by simp only [List.getElem?_toArray, List.getElem?_cons_succ, List.getElem?_cons_zero]; rfl) (by kernel_rfl) (by exact fun _ _ _ h => h) (by first | assumption | exact KB.refl _) (.inl ⟨by rfl, fun W hW => ?_⟩) ?_; rotate_left
  · (go_simp; first | done | with_reducible rfl)
  try simp only [Act.put, List.setIfInBounds_toArray, List.set_cons_zero, List.set_cons_succ]
  refine btake 31 (oi := _) (v := ?_) (by simp only [List.getElem?_toArray, List.getElem?_cons_succ, List.getElem?_cons_zero]; rfl) (by kernel_rfl) (by exact fun _ _ _ h => h) (by first | assumption | exact KB.refl _) (.inl ⟨by rfl, fun W hW => ?_⟩) ?_; rotate_left
  · (go_simp; first | done | with_reducible rfl)
  try simp only [Act.put, List.setIfInBounds_toArray, List.set_cons_zero, List.set_cons_succ]
  refine btake 32 (oi := _) (v := ?_) (by simp only [List.getElem?_toArray, List.getElem?_cons_succ, List.getElem?_cons_zero]; rfl) (by kernel_rfl) (by exact fun _ _ _ h => h) (by first | assumption | exact KB.refl _) (.inl ⟨by rfl, fun W hW => ?_⟩) ?_; rotate_left
  · (go_simp; first | done | with_reducible rfl)
  try simp only [Act.put, List.setIfInBounds_toArray, List.set_cons_zero, List.set_cons_succ]
  refine btake 33 (oi := _) (v := ?_) (by simp only [List.getElem?_toArray, List.getElem?_cons_succ, List.getElem?_cons_zero]; rfl) (by kernel_rfl) (by exact fun _ _ _ h => h) (by first | assumption | exact KB.refl _) (.inl ⟨by rfl, fun W hW => ?_⟩) ?_; rotate_left
  · (go_simp; first | done | with_reducible rfl)
  try simp only [Act.put, List.setIfInBounds_toArray, List.set_cons_zero, List.set_cons_succ]
  refine btake 34 (oi := _) (v := ?_) (by simp only [List.getElem?_toArray, List.getElem?_cons_succ, List.getElem?_cons_zero]; rfl) (by kernel_rfl) (by exact fun _ _ _ h => h) (by first | assumption | exact KB.refl _) (.inl ⟨by rfl, fun W hW => ?_⟩) ?_; rotate_left
  · (go_simp; first | done | with_reducible rfl)
  try simp only [Act.put, List.setIfInBounds_toArray, List.set_cons_zero, List.set_cons_succ]
  refine btake 35 (oi := _) (v := ?_) (by simp only [List.getElem?_toArray, List.getElem?_cons_succ, List.getElem?_cons_zero]; rfl) (by kernel_rfl) (by exact fun _ _ _ h => h) (by first | assumption | exact KB.refl _) (.inl ⟨by rfl, fun W hW => ?_⟩) ?_; rotate_left
  · (go_simp; first | done | with_reducible rfl)
  try simp only [Act.put, List.setIfInBounds_toArray, List.set_cons_zero, List.set_cons_succ]
  refine btake 38 (oi := _) (v := ?_) (by simp only [List.getElem?_toArray, List.getElem?_cons_succ, List.getElem?_cons_zero]; rfl) (by kernel_rfl) (by exact fun _ _ _ h => h) (by first | assumption | exact KB.refl _) (.inl ⟨by rfl, fun W hW => ?_⟩) ?_; rotate_left
  · (go_simp; first | done | with_reducible rfl)
  try simp only [Act.put, List.setIfInBounds_toArray, List.set_cons_zero, List.set_cons_succ]
  -- 36: Op.buildSlice 25 2 #[(0, Operand.tmp 44), (1, Operand.tmp 45)]
  refine bop 36 (o := _) (by simp only [List.getElem?_toArray, List.getElem?_cons_succ, List.getElem?_cons_zero]; rfl) (by kernel_rfl) (by first | assumption | exact KB.refl _) (by rfl) (fun K hK => ?_)
  go_simp
  have hb36 := balloc (Below.refl w40.heap.size w40) (.cells #[.int .i64 0, .int .i64 0, .int .i64 0, .int .i64 1, .int .i64 2, .int .i64 3] 23)
  have hs36 : Sl (w40.alloc (.cells #[.int .i64 0, .int .i64 0, .int .i64 0, .int .i64 1, .int .i64 2, .int .i64 3] 23)) (w40.alloc (.cells #[.int .i64 0, .int .i64 0, .int .i64 0, .int .i64 1, .int .i64 2, .int .i64 3] 23)).heap.size (some ⟨w40.heap.size, 0, none⟩) (sv [⟨0, 0, 0⟩, ⟨1, 2, 3⟩]) := (Sl.new w40 23 #[.int .i64 0, .int .i64 0, .int .i64 0, .int .i64 1, .int .i64 2, .int .i64 3] (0, 0)).more (by simp)
  have st3 := st3.below hb36
  have st4 := st4.below hb36
  have hB := hB.trans (hb36.mono hB.size)
  have e0 := cellB st3.2.1
  have e1 := cellB st3.2.2.1
  have e2 := cellB st3.2.2.2.1
  have e3 := cellB st4.2.1
  have e4 := cellB st4.2.2.1
  have e5 := cellB st4.2.2.2.1
  simp only at e0 e1 e2 e3 e4 e5
  have hkb := KB.of hb36
  refine hK.out _ _ hkb ?_; clear hK K
  try simp only [Act.put, List.setIfInBounds_toArray, List.set_cons_zero, List.set_cons_succ]
  -- 37: newsreel/stamp.Max
  refine bop 37 (o := _) (by simp only [List.getElem?_toArray, List.getElem?_cons_succ, List.getElem?_cons_zero]; rfl) (by kernel_rfl) (by first | assumption | exact KB.refl _) (by rfl) (fun K hK => ?_)
  go_simp
  refine (H.out.2.2.2.2.2 (w40.alloc (.cells #[.int .i64 0, .int .i64 0, .int .i64 0, .int .i64 1, .int .i64 2, .int .i64 3] 23)) (some ⟨w40.heap.size, 0, none⟩) hs36).mono ?_
  rintro e w57 ⟨rfl, hb57⟩
  have st3 := st3.below hb57
  have st4 := st4.below hb57
  have hB := hB.trans (hb57.mono hB.size)
  have e0 := cellB st3.2.1
  have e1 := cellB st3.2.2.1
  have e2 := cellB st3.2.2.2.1
  have e3 := cellB st4.2.1
  have e4 := cellB st4.2.2.1
  have e5 := cellB st4.2.2.2.1
  simp only at e0 e1 e2 e3 e4 e5
  have hkb := KB.of hb57
  refine hK.out _ _ hkb ?_; clear hK K
  try simp only [Act.put, List.setIfInBounds_toArray, List.set_cons_zero, List.set_cons_succ]
  refine btake 39 (oi := _) (v := ?_) (by simp only [List.getElem?_toArray, List.getElem?_cons_succ, List.getElem?_cons_zero]; rfl) (by kernel_rfl) (by exact fun _ _ _ h => h) (by first | assumption | exact KB.refl _) (.inl ⟨by rfl, fun W hW => ?_⟩) ?_; rotate_left
  · (go_simp; first | done | with_reducible rfl)
  try simp only [Act.put, List.setIfInBounds_toArray, List.set_cons_zero, List.set_cons_succ]
  refine btake 40 (oi := _) (v := ?_) (by simp only [List.getElem?_toArray, List.getElem?_cons_succ, List.getElem?_cons_zero]; rfl) (by kernel_rfl) (by exact fun _ _ _ h => h) (by first | assumption | exact KB.refl _) (.inl ⟨by rfl, fun W hW => ?_⟩) ?_; rotate_left
  · (go_simp; first | done | with_reducible rfl)
  try simp only [Act.put, List.setIfInBounds_toArray, List.set_cons_zero, List.set_cons_succ]
  refine btake 41 (oi := _) (v := ?_) (by simp only [List.getElem?_toArray, List.getElem?_cons_succ, List.getElem?_cons_zero]; rfl) (by kernel_rfl) (by exact fun _ _ _ h => h) (by first | assumption | exact KB.refl _) (.inl ⟨by rfl, fun W hW => ?_⟩) ?_; rotate_left
  · (go_simp; first | done | with_reducible rfl)
  try simp only [Act.put, List.setIfInBounds_toArray, List.set_cons_zero]
  refine bdone (by kernel_rfl) ?_
  go_wp2_with fail
  go_ret
  exact ⟨rfl, hB⟩
end Go.Proofs.Ythpooogjlmaemaa

