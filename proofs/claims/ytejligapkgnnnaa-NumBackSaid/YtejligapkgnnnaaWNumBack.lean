/- 'NumBack' of the numbers: the walk of the law. -/
import Derived.Test.YtejligapkgnnnaaNumLaw
import Derived.Test.YtejligapkgnnnaaFrame
import Derived.Test.YtejligapkgnnnaaReg
namespace Go.Proofs.Ytejligapkgnnnaa
open Go.RowKit Go.Proofs.Ytejligapkgnnnaa.Pl

def BackRel (L : Nat) (x9 : Value) : Prop := ∃ k : Nat, k ≤ L ∧ x9 = .int .i64 (k : Int)

set_option maxRecDepth 100000 in
set_option maxHeartbeats 1600000 in
theorem NumBack_walk (w : World) (v : Nat) (hv : U64 v) (A : Option Addr) (c : Nat) (l : List UInt8) (hb : Sl w w.heap.size A (bv l)) (hc : l.length ≤ c) (hn : c ≤ 140737488351232) :
    Calls Try.prog 6 #[.int .u64 (v : Int), .slice A l.length c] w fun e w' => e = .returned (.bool true) ∧ Below w.heap.size w w' := by
  have hlen := enc_len v
  have htk := take_enc v hv.out l
  have HTL := Lib.hid (fun i => take_less v i hv.out)
  have HTK := Lib.hid htk
  obtain ⟨E, hE⟩ : ∃ E, Pl.enc v = E := ⟨_, rfl⟩
  have HE := Lib.hid hE
  rw [hE] at hlen
  clear htk hE
  go_enter Try.func6, Try.ntmps6
  go_wp2_with fail
  refine (known_any w).mono ?_
  rintro e w1 ⟨rfl, hb1⟩
  have hbl := hb.below hb1
  go_wp2_with fail
  refine (Put_nil _ [v] E (by rw [← HE.out]; simp [encs]) (by simpa using hv) (by simp) _ _ rfl _ (by exact Sl.more (Sl.lit64 w1 [v]) (by simp))).mono ?_
  rintro e w2 ⟨A2, c2, rfl, h1, h2⟩
  have hp := Fresh.sl h1
  have hb2 := bstep (balloc hb1 _) h2
  have hbl2 := (hb.below hb2)
  clear hbl
  go_wp2_with (first
    | (at_builtin; refine app rfl rfl (OwnB.nil w2 w2.heap.size) hp.1 rfl rfl rfl (by simp; omega) (Nat.le_refl _) ?_; intro s3 w3 hown3 hg3 hat3)
    | (at_builtin; refine app rfl rfl hown3 (hbl2.grown hg3 (by simp [Value.ownBlock])) rfl rfl rfl (by simp; omega) hg3.size ?_; intro s4 w4 hown4 hg4 hat4))
  have hb3 : Below w2.heap.size w2 w3 := below_of_grown hg3 (by simp [Value.ownBlock]) (Nat.le_refl _)
  have hb4 : Below w2.heap.size w2 w4 := own_below hb3 hb3.size hown3 hg4
  rw [List.nil_append] at hown4
  obtain ⟨A4, c4, rfl, hc4, hm4, hs4, _⟩ := hown4.form
  clear hown3 hg3 hg4 hat3 hat4 hb3
  refine (Take_lit _ _ _ _ _ (E ++ l) v E.length 0 hs4 (by simp) hc4 hm4 (by rw [← HE.out]; exact HTK.out)).mono ?_
  rintro e w5 ⟨rfl, rfl⟩
  go_wp2_with fail
  refine (Size_lit _ v E.length hv (by rw [HE.out])).mono ?_
  rintro e w6 ⟨rfl, h6⟩
  have hb6 := bstep (bstep hb2 hb4) h6
  have hp6 := (hp.1.below hb4).below' h6
  have hc2 := hp.2
  clear hp hb hbl2 h1 hown4 hs4
  go_wp2_with fail
  go_loop [9] (fun x9 => BackRel E.length x9) (fun x9 => E.length - (intOf x9).toNat)
  case atStart => exact ⟨0, Nat.zero_le _, rfl⟩
  case round =>
    obtain ⟨k, hk, rfl⟩ := hrel
    have hm2 : c2 ≤ 9223372036854775807 := by have := hc2.2; simp only [maxLen] at this; omega
    by_cases hlt : k < E.length
    · have i1 : (k : Int) ≤ (c2 : Int) := by omega
      go_wp2_with fail
      refine (Take_lit _ _ _ k c2 (E.take k) 0 0 20 (by have := hp6.tk k; rw [bv_take] at this; exact this) (by rw [List.length_take]; omega) (by omega) hc2.2 (by rw [← HE.out]; exact HTL.out k (by rw [HE.out]; exact hlt))).mono ?_
      rintro e w7 ⟨rfl, rfl⟩
      go_wp2_with fail
      go_round
      case rel => exact ⟨k + 1, hlt, by go_num⟩
      case measure => simp [intOf]; omega
    · go_wp2_with fail
      go_ret
      exact ⟨rfl, hb6⟩
end Go.Proofs.Ytejligapkgnnnaa

