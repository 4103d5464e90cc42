/- Checksums: the known sum. -/
import Derived.Test.YtandbancbgojjaaCrcO
import Derived.Lib.SlBytesConst
namespace Go.Proofs.Ytandbancbgojjaa
open Go.RowKit Go.Proofs.Ytandbancbgojjaa.Pc Go.Proofs.Ytandbancbgojjaa.Pl

theorem open_seal (l : List UInt8) : openS (sealS l) = some l := by
  have h4 : (fixF (sum l).toNat 4).length = 4 := fixF_len _ _
  have hN := bv_lt (sum l)
  have hd : (sealS l).length - 4 = l.length := by simp [sealS, h4]
  unfold openS
  rw [if_neg (by simp [sealS, h4]), hd]
  have e1 : (sealS l).drop l.length = fixF (sum l).toNat 4 := by simp [sealS]
  have e2 : (sealS l).take l.length = l := by simp [sealS]
  rw [e1, e2, if_pos ?_]
  unfold big
  rw [List.take_of_length_le (by omega), bigF_fixF]
  simp only [Nat.zero_mul, Nat.zero_add]
  omega
theorem Sl.mark (w : World) (l : List UInt8) (fr : Nat × Nat) : Sl (w.alloc (.cells (bv l).toArray 5 fr)) (w.heap.size + 1) (some ⟨w.heap.size, 0, none⟩) (bv l) := by
  have := Sl.new w 5 (bv l).toArray fr
  simpa using this
theorem run_const_at (w : World) (C : Array Value) (n c g : Nat) (hg : g = w.heap.size) :
    (convert 24 24 (.slice (some ⟨g, 0, none⟩) n c)).run Try.prog (w.alloc (.cells C 5)) = .ok (.slice (some ⟨g, 0, none⟩) n c) (w.alloc (.cells C 5 (C.size, C.size + 1))) := by
  subst hg; exact Lib.run_convert_bytes_const w 24 5 C n c Try.underlying24 Try.underlying5
def news : List UInt8 := [110, 101, 119, 115]
def n14 : List UInt8 := [49, 50, 51, 52]
def n59 : List UInt8 := [53, 54, 55, 56, 57]
def n19 : List UInt8 := [49, 50, 51, 52, 53, 54, 55, 56, 57]
theorem sum_n19 : (((more 0#32 n19).toNat : Nat) : Int) = 3421780262 := by kernel_rfl
theorem sum_two : (((sum [n14, n59].flatten).toNat : Nat) : Int) = 3421780262 := by kernel_rfl

set_option maxRecDepth 100000 in
set_option maxHeartbeats 1600000 in
theorem known_any (w : World) : Calls Try.prog 9 #[] w fun e w' => e = .returned (.bool true) ∧ Below w.heap.size w w' := by
  have kc := fun (w : World) (C : Array Value) (n c : Nat) => Lib.run_convert_bytes_const (P := Try.prog) w 24 5 C n c Try.underlying24 Try.underlying5
  have kc1 := fun (w : World) (C1 C : Array Value) (fr : Nat × Nat) (n c : Nat) => run_const_at (w.alloc (.cells C1 5 fr)) C n c (w.heap.size + 1) (by simp)
  go_enter Try.func9, Try.ntmps9
  go_wp2_with fail
  obtain ⟨l, hl, hs0⟩ : ∃ l, l = news ∧ Sl (w.alloc (.cells #[.int .u8 110, .int .u8 101, .int .u8 119, .int .u8 115] 5 (4, 5))) (w.heap.size + 1) (some ⟨w.heap.size, 0, none⟩) (bv l) := ⟨news, rfl, Sl.new w 5 #[.int .u8 110, .int .u8 101, .int .u8 119, .int .u8 115] (4, 5)⟩
  have hbe0 : Below w.heap.size w (w.alloc (.cells #[.int .u8 110, .int .u8 101, .int .u8 119, .int .u8 115] 5 (4, 5))) := balloc (Below.refl _ _) _
  have hll : l.length = 4 := by rw [hl]; rfl
  have hstr : (Value.string ⟨l.toArray⟩) = .string ⟨news.toArray⟩ := by rw [hl]
  clear hl
  have hseal := Seal_any (w.alloc (.cells #[.int .u8 110, .int .u8 101, .int .u8 119, .int .u8 115] 5 (4, 5))) (some ⟨w.heap.size, 0, none⟩) 4 4 l (hs0.more (by simp)) hll.symm (by omega) (by simp [maxLen]) (by omega)
  refine hseal.mono ?_
  clear hseal hs0
  rintro e w2 ⟨A2, c2, rfl, hown2, hb2⟩
  have hs2 := Fresh.sl hown2
  have hb2' : Below w.heap.size w w2 := hbe0.trans (hb2.mono hbe0.size)
  have ho := open_seal l
  have hl2 : (sealS l).length = 8 := by simp [sealS, hll, fixF_len]
  generalize sealS l = S at *
  have hl3 : S.length ≤ 140737488355328 := by omega
  clear hbe0 hb2 hl2
  have hop := Open_any w2 A2 S.length c2 S hs2.1 rfl hs2.2.1 hs2.2.2 hl3
  rw [ho] at hop
  go_wp2_with fail
  refine hop.mono ?_
  clear hop
  rintro e w3 ⟨A3, c3, rfl, hown3, hb3⟩
  have hb3' := bstep hb2' hb3
  go_wp2_with fail
  have ha := (SlcIs.mark w3 n14 #[.int .u8 49, .int .u8 50, .int .u8 51, .int .u8 52] 4 (4, 5) rfl rfl (by simp [n14])).alloc (.cells #[.int .u8 53, .int .u8 54, .int .u8 55, .int .u8 56, .int .u8 57] 5 (5, 6))
  have hc := SlcIs.mark (w3.alloc (.cells #[.int .u8 49, .int .u8 50, .int .u8 51, .int .u8 52] 5 (4, 5))) n59 #[.int .u8 53, .int .u8 54, .int .u8 55, .int .u8 56, .int .u8 57] 5 (5, 6) rfl rfl (by simp [n59])
  have hM := Mat.two _ 24 _ _ _ _ ha hc
  have hsum := Sum_any _ _ 2 2 [n14, n59] hM rfl (by simp [maxLen])
  rw [sum_two] at hsum
  simp only [World.size_alloc] at hsum
  refine hsum.mono ?_
  clear hsum hM ha hc
  rintro e w4 ⟨rfl, hb4⟩
  have hb34 : Below w3.heap.size w3 w4 := (balloc (balloc (balloc (Below.refl _ _) _) _) _).trans (hb4.mono (by omega))
  have hown4 := hown3.below hb34
  have hb4' := bstep hb3' hb34
  clear hb4 hb34 hown3 hb3 hb3' hb2'
  go_wp2_with fail
  have hb19 : Sl (w4.alloc (.cells #[.int .u8 49, .int .u8 50, .int .u8 51, .int .u8 52, .int .u8 53, .int .u8 54, .int .u8 55, .int .u8 56, .int .u8 57] 5 (9, 10))) (w4.heap.size + 1) (some ⟨w4.heap.size, 0, none⟩) (bv n19) := Sl.new w4 5 #[.int .u8 49, .int .u8 50, .int .u8 51, .int .u8 52, .int .u8 53, .int .u8 54, .int .u8 55, .int .u8 56, .int .u8 57] (9, 10)
  have hmore := More_any _ 0#32 (w4.heap.size + 1) (some ⟨w4.heap.size, 0, none⟩) 9 n19 hb19 (by simp [n19]) (by simp [maxLen])
  rw [sum_n19] at hmore
  refine Calls.mono hmore ?_
  clear hmore hb19
  rintro e w5 ⟨rfl, hb5⟩
  have hb45 : Below w4.heap.size w4 w5 := bstep (balloc (Below.refl _ _) _) hb5
  have hown5 := hown4.below hb45
  have hb5' := bstep hb4' hb45
  clear hb5 hb45 hown4 hb4'
  have hcv := conv (OwnB.sl hown5).1 4 c3 rfl
  go_wp2_with fail
  go_ret
  exact ⟨rfl, hb5'⟩
end Go.Proofs.Ytandbancbgojjaa

