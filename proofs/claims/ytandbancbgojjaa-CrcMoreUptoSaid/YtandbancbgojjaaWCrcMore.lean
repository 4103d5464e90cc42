/- 'CrcMore': the walk of the law. -/
import Derived.Test.YtandbancbgojjaaCrcB
import Derived.Test.YtandbancbgojjaaPar
namespace Go.Proofs.Ytandbancbgojjaa
open Go.RowKit Go.Proofs.Ytandbancbgojjaa.Pc Go.Proofs.Ytandbancbgojjaa.Pl

set_option maxRecDepth 100000 in
set_option maxHeartbeats 6400000 in
theorem CrcMore_walk (w : World) (A : Option Addr) (c : Nat) (l : List UInt8) (hb : Sl w w.heap.size A (bv l)) (hc : l.length ≤ c) (hm : c ≤ 140737488351232) (A1 : Option Addr) (c1 : Nat) (l1 : List UInt8) (hb1 : Sl w w.heap.size A1 (bv l1)) (hc1 : l1.length ≤ c1) (hm1 : c1 ≤ 140737488351232) (A2 : Option Addr) (c2 : Nat) (l2 : List UInt8) (hb2 : Sl w w.heap.size A2 (bv l2)) (hc2 : l2.length ≤ c2) (hm2 : c2 ≤ 140737488351232) (s : Nat) (hs : s < 4294967296) (hk : c + c1 + c2 ≤ 1048576) :
    Calls Try.prog 4 #[.slice A l.length c, .slice A1 l1.length c1, .slice A2 l2.length c2, .int .u32 (s : Int)] w fun e w' => e = .returned (.bool true) ∧ Below w.heap.size w w' := by
  obtain ⟨sb, rfl⟩ : ∃ sb : BitVec 32, s = sb.toNat := ⟨BitVec.ofNat 32 s, by rw [BitVec.toNat_ofNat]; omega⟩
  have e1 : more (sum l) (l1 ++ l2) = sum (l ++ l1 ++ l2) := by rw [sum, sum, ← more_append, List.append_assoc]
  have e2 : more (more (more 0#32 l) l1) l2 = sum (l ++ l1 ++ l2) := by rw [sum, ← more_append, ← more_append, List.append_assoc]
  have e3 : sum [l, l1, l2].flatten = sum (l ++ l1 ++ l2) := by simp
  have e4 : sum [l, [], l1, l2].flatten = sum (l ++ l1 ++ l2) := by simp
  have e5 : sum [l ++ l1 ++ l2].flatten = sum (l ++ l1 ++ l2) := by simp
  have e6 : sum [l].flatten = sum l := by simp
  have m0 : c ≤ maxLen := by simp only [maxLen]; omega
  have m1 : c1 ≤ maxLen := by simp only [maxLen]; omega
  have m2 : c2 ≤ maxLen := by simp only [maxLen]; omega
  have p1 : ∀ w : World, Below w.heap.size w w → True := fun _ _ => trivial
  go_enter Try.func4, Try.ntmps4
  go_wp2_with fail
  refine (known_any w).mono ?_
  rintro e w1 ⟨rfl, hbw1⟩
  have sa := (hb.below hbw1).more hbw1.size
  have sb1 := (hb1.below hbw1).more hbw1.size
  have sb2 := (hb2.below hbw1).more hbw1.size
  go_wp2_with (first
    | (at_builtin; refine app rfl rfl (OwnB.nil w1 w1.heap.size) sa rfl rfl rfl (by simp; omega) (Nat.le_refl _) ?_; intro s3 w3 hown3 hg3 hat3)
    | (at_builtin; refine app rfl rfl hown3 (sb1.below (below_of_grown hg3 (by simp [Value.ownBlock]) (Nat.le_refl _))) rfl rfl rfl (by simp; omega) hg3.size ?_; intro s4 w4 hown4 hg4 hat4)
    | (at_builtin; refine app rfl rfl hown4 (sb2.below ((below_of_grown hg3 (by simp [Value.ownBlock]) (Nat.le_refl _)).trans (below_of_grown hg4 (fun k e => (hown3.lt k e).1) hg3.size))) rfl rfl rfl (by simp; omega) (Nat.le_trans hg3.size hg4.size) ?_; intro s5 w5 hown5 hg5 hat5; obtain ⟨A5, c5, rfl, hc5, hm5, hs5, _, _⟩ := hown5.form; generalize hL5 : [] ++ l ++ l1 ++ l2 = W at *; have HW := Lib.hid hL5; clear hL5))
  have f3 := below_of_grown hg3 (B := w1.heap.size) (by simp [Value.ownBlock]) (Nat.le_refl _)
  have f4 := below_of_grown hg4 (B := w1.heap.size) (fun k e => (hown3.lt k e).1) hg3.size
  have f5 := below_of_grown hg5 (B := w1.heap.size) (fun k e => (hown4.lt k e).1) (Nat.le_trans hg3.size hg4.size)
  have b5 := (f3.trans f4).trans f5
  have sa5 := (sa.below b5).more b5.size
  have sb5 := (sb1.below b5).more b5.size
  have sc5 := (sb2.below b5).more b5.size
  have bw5 := bstep hbw1 b5
  clear hat3 hat4 hat5 hg3 hg4 hg5 f3 f4 f5 hown3 hown4 hown5 b5 sa sb1 sb2
  have hWe : l ++ l1 ++ l2 = W := by rw [← HW.out]; simp
  rw [hWe] at e1 e2 e3 e4 e5
  clear hWe
  generalize hX : sum W = X at *
  have HX := Lib.hid hX
  clear hX
  refine (Sum_any _ _ 1 1 [W] (Mat.one w5 _ _ _ ⟨A5, c5, rfl, hs5, hc5, hm5⟩) rfl (by simp [maxLen])).mono ?_
  rw [e5]
  rintro e w6 ⟨rfl, hb6⟩
  have b56 := balloc (Below.refl w5.heap.size w5) (.cells #[.slice A5 W.length c5] 24)
  have b6 := bstep b56 hb6
  have sa6 := (sa5.below b6).more b6.size
  have sb6 := (sb5.below b6).more b6.size
  have sc6 := (sc5.below b6).more b6.size
  have bw6 := bstep bw5 b6
  clear hs5 b56 b6 hb6 sa5 sb5 sc5
  go_wp2_with fail
  refine (Sum_any _ _ 1 1 [l] (Mat.one w6 _ _ _ ⟨A, c, rfl, sa6, hc, m0⟩) rfl (by simp [maxLen])).mono ?_
  rw [e6]
  rintro e w7 ⟨rfl, hb7⟩
  have b7 := bstep (balloc (Below.refl w6.heap.size w6) (.cells #[.slice A l.length c] 24)) hb7
  have sa7 := (sa6.below b7).more b7.size
  have sb7 := (sb6.below b7).more b7.size
  have sc7 := (sc6.below b7).more b7.size
  have bw7 := bstep bw6 b7
  clear b7 hb7 sa6 sb6 sc6
  go_wp2_with (first
    | (at_builtin; refine app rfl rfl (OwnB.nil w7 w7.heap.size) sb7 rfl rfl rfl (by simp; omega) (Nat.le_refl _) ?_; intro s8 w8 hown8 hg8 hat8)
    | (at_builtin; refine app rfl rfl hown8 (sc7.below (below_of_grown hg8 (by simp [Value.ownBlock]) (Nat.le_refl _))) rfl rfl rfl (by simp; omega) hg8.size ?_; intro s9 w9 hown9 hg9 hat9; obtain ⟨A9, c9, rfl, hc9, hm9, hs9, _, _⟩ := hown9.form; generalize hL9 : [] ++ l1 ++ l2 = V at *; have HV := Lib.hid hL9; clear hL9))
  have f8 := below_of_grown hg8 (B := w7.heap.size) (by simp [Value.ownBlock]) (Nat.le_refl _)
  have f9 := below_of_grown hg9 (B := w7.heap.size) (fun k e => (hown8.lt k e).1) hg8.size
  have b9 := f8.trans f9
  have sa9 := (sa7.below b9).more b9.size
  have sb9 := (sb7.below b9).more b9.size
  have sc9 := (sc7.below b9).more b9.size
  have bw9 := bstep bw7 b9
  have hVe : l1 ++ l2 = V := by rw [← HV.out]; simp
  rw [hVe] at e1
  clear hVe
  clear hat8 hat9 hg8 hg9 f8 f9 hown8 hown9 b9 sa7 sb7 sc7
  refine (More_any _ (sum l) _ A9 c9 V hs9 hc9 hm9).mono ?_
  rw [e1]
  rintro e w10 ⟨rfl, b10⟩
  have sa10 := (sa9.below b10).more b10.size
  have sb10 := (sb9.below b10).more b10.size
  have sc10 := (sc9.below b10).more b10.size
  have bw10 := bstep bw9 b10
  clear b10 sa9 sb9 sc9 hs9 hc9
  go_wp2_with fail
  refine (More_any w10 0#32 _ A c l sa10 hc m0).mono ?_
  rintro e w11 ⟨rfl, b11⟩
  have sa11 := (sa10.below b11).more b11.size
  have sb11 := (sb10.below b11).more b11.size
  have sc11 := (sc10.below b11).more b11.size
  have bw11 := bstep bw10 b11
  clear b11 sa10 sb10 sc10
  go_wp2_with fail
  refine (More_any w11 (more 0#32 l) _ A1 c1 l1 sb11 hc1 m1).mono ?_
  rintro e w12 ⟨rfl, b12⟩
  have sa12 := (sa11.below b12).more b12.size
  have sb12 := (sb11.below b12).more b12.size
  have sc12 := (sc11.below b12).more b12.size
  have bw12 := bstep bw11 b12
  clear b12 sa11 sb11 sc11
  go_wp2_with fail
  refine (More_any w12 (more (more 0#32 l) l1) _ A2 c2 l2 sc12 hc2 m2).mono ?_
  rw [e2]
  rintro e w13 ⟨rfl, b13⟩
  have sa13 := (sa12.below b13).more b13.size
  have sb13 := (sb12.below b13).more b13.size
  have sc13 := (sc12.below b13).more b13.size
  have bw13 := bstep bw12 b13
  clear b13 sa12 sb12 sc12
  go_wp2_with fail
  refine (Sum_any _ _ 3 3 [l, l1, l2] (Mat.three w13 _ _ _ _ _ _ _ ⟨A, c, rfl, sa13, hc, m0⟩ ⟨A1, c1, rfl, sb13, hc1, m1⟩ ⟨A2, c2, rfl, sc13, hc2, m2⟩) rfl (by simp [maxLen])).mono ?_
  rw [e3]
  rintro e w14 ⟨rfl, hb14⟩
  have b14 := bstep (balloc (Below.refl w13.heap.size w13) (.cells #[.slice A l.length c, .slice A1 l1.length c1, .slice A2 l2.length c2] 24)) hb14
  have sa14 := (sa13.below b14).more b14.size
  have sb14 := (sb13.below b14).more b14.size
  have sc14 := (sc13.below b14).more b14.size
  have bw14 := bstep bw13 b14
  clear b14 hb14 sa13 sb13 sc13
  go_wp2_with fail
  refine (Sum_any _ _ 4 4 [l, [], l1, l2] (Mat.four w14 _ _ _ _ _ _ _ _ _ ⟨A, c, rfl, sa14, hc, m0⟩ ⟨none, 0, rfl, Sl.nil, by simp, by simp [maxLen]⟩ ⟨A1, c1, rfl, sb14, hc1, m1⟩ ⟨A2, c2, rfl, sc14, hc2, m2⟩) rfl (by simp [maxLen])).mono ?_
  rw [e4]
  rintro e w15 ⟨rfl, hb15⟩
  have b15 := bstep (balloc (Below.refl w14.heap.size w14) (.cells #[.slice A l.length c, .slice none 0 0, .slice A1 l1.length c1, .slice A2 l2.length c2] 24)) hb15
  have sa15 := (sa14.below b15).more b15.size
  have bw15 := bstep bw14 b15
  clear b15 hb15 sa14 sb14 sc14
  go_wp2_with fail
  refine (More_any w15 sb _ A c l sa15 hc m0).mono ?_
  rintro e w16 ⟨rfl, b16⟩
  have sa16 := (sa15.below b16).more b16.size
  have bw16 := bstep bw15 b16
  go_wp2_with fail
  refine (RefMore_any w16 sb _ A c l sa16 hc m0).mono ?_
  rintro e w17 ⟨rfl, rfl⟩
  go_wp2_with fail
  go_ret
  exact ⟨rfl, bw16⟩
end Go.Proofs.Ytandbancbgojjaa

