/- 'NumTakes' of the numbers: the walk of the law. -/
import Derived.Test.YtejligapkgnnnaaNumLaw
import Derived.Test.YtejligapkgnnnaaFrame
import Derived.Test.YtejligapkgnnnaaPar
import Derived.Laws.BitsAllLaws
namespace Go.Proofs.Ytejligapkgnnnaa
open Go.RowKit Go.Proofs.Ytejligapkgnnnaa.Pl

set_option maxRecDepth 100000 in
set_option maxHeartbeats 1600000 in
theorem NumTakes_walk (w : World) (A : Option Addr) (c : Nat) (l : List UInt8) (hb : Sl w w.heap.size A (bv l)) (hc : l.length ≤ c) (hn : c ≤ 140737488351232) (v : Nat) (hv : U64 v) (cut : Nat) (hcut : cut < 256) (at' : Nat) (hat : at' < 256) (bb : Nat) (hby : bb < 256) :
    Calls Try.prog 5 #[.slice A l.length c, .int .u64 (v : Int), .int .u8 (cut : Int), .int .u8 (at' : Int), .int .u8 (bb : Int)] w fun e w' => e = .returned (.bool true) ∧ Below w.heap.size w w' := by
  have hlen := enc_len v
  obtain ⟨E, hE⟩ : ∃ E, Pl.enc v = E := ⟨_, rfl⟩
  have HE := Lib.hid hE
  rw [hE] at hlen
  clear hE
  have hm : c ≤ maxLen := by simp only [maxLen]; omega
  have Hm := Lib.hid hm
  clear hm
  go_enter Try.func5, Try.ntmps5
  go_wp2_with fail
  refine (known_any w).mono ?_
  rintro e w1 ⟨rfl, hb1⟩
  have hbl := hb.below hb1
  go_wp2_with fail
  refine (takes_any w1 _ _ c l hbl hc Hm.out).mono ?_
  rintro e w2 ⟨rfl, rfl⟩
  go_wp2_with fail
  have hP := RefPut_any (w1.alloc (.cells (uv [v]).toArray 38)) none (some ⟨w1.heap.size, 0, none⟩) 0 1 [] [v] Sl.nil (Sl.more (Sl.lit64 w1 [v]) (by simp)) (by simpa using hv) (by simp)
  rw [show [] ++ encs [v] = E by rw [← HE.out]; simp [encs]] at hP
  refine hP.mono ?_
  clear hP
  rintro e w2 ⟨A2, c2, rfl, h1, h2⟩
  have hp := SlcIs.of h1
  obtain ⟨g, cap, ev, hg1, hg2, hg3, hg4⟩ := h1.head (by omega)
  injection ev with ev1 ev2 ev3
  subst ev1 ev3
  have hb2 := bstep (balloc hb1 _) h2
  have hbl2 := hb.below hb2
  have hcap : c2 ≤ 9223372036854775807 := by simp only [maxLen] at hg4; omega
  have hk : (cut : Int) % ((E.length : Int) + 1) = ((cut % (E.length + 1) : Nat) : Int) := by simp
  have hkl : cut % (E.length + 1) ≤ E.length := by have := Nat.mod_lt cut (show 0 < E.length + 1 by omega); omega
  generalize cut % (E.length + 1) = k at hk hkl
  have i1 : (k : Int) ≤ (c2 : Int) := by omega
  have hi : (at' : Int) % (E.length : Int) = ((at' % E.length : Nat) : Int) := by simp
  have hil : at' % E.length < E.length := Nat.mod_lt _ (by omega)
  generalize at' % E.length = i at hi hil
  obtain ⟨q1, q2, q3, q4⟩ := h1.store i bb hil hby
  have hsl := (SlcIs.of h1)
  obtain ⟨_, _, e1, hs2, _, _⟩ := hsl
  injection e1 with e1 _ e3
  subst e1 e3
  have Q3 := Lib.hid q3
  have Q4 := Lib.hid q4
  clear hbl hp q3 q4 h1
  go_wp2_with fail
  refine (takes_lit w2 _ _ _ c2 (E.take k) (by have := hs2.tk k; rw [bv_take] at this; exact this) (by rw [List.length_take]; omega) (by omega) hg4).mono ?_
  rintro e w3 ⟨rfl, rfl⟩
  obtain ⟨x1, hx1, hx1l⟩ : ∃ x : Nat, bits .or .u8 (at' : Int) 128 = (x : Int) ∧ x < 256 :=
    ⟨at' ||| 128, by have := u8_or_nat at' 128 hat (by omega); exact this, Nat.or_lt_two_pow (n := 8) (by omega) (by omega)⟩
  obtain ⟨x2, hx2, hx2l⟩ : ∃ x : Nat, bits .and .u8 128 (bb : Int) = (x : Int) ∧ x < 256 :=
    ⟨128 &&& bb, by have := u8_and_nat 128 bb (by omega) hby; exact this, Nat.lt_of_le_of_lt (Nat.and_le_left) (by omega)⟩
  have Hs2 := Lib.hid hs2
  clear hs2
  go_wp2_with (first
    | (at_builtin; refine appM (k := [255, 255, 255, 255, 255, 255, 255, 255, 255]) rfl rfl (OwnB.nil _ w2.heap.size) rfl rfl rfl rfl (by simp) (by decide) (by simp) ?_; intro s5 w5 hown5 hg5 hat5)
    | (at_builtin; refine appN rfl rfl hown5 (two_bv bb at' hby hat) rfl rfl rfl (by simp) (by have := hg5.size; simp at this; omega) ?_; intro s6 w6 hown6 hg6 hat6))
  -- where things stand
  have hw3 : (w2.setCell ⟨g, i, none⟩ (.int .u8 (bb : Int))).heap.size = w2.heap.size := by simp
  have q3 := Q3.out
  have q4 := Q4.out
  have hgw : w.heap.size ≤ g := by have := hb1.size; simp at hg1; omega
  have hb3 : Below w.heap.size w (w2.setCell ⟨g, i, none⟩ (.int .u8 (bb : Int))) := hb2.setCell (by simpa using hgw) _
  generalize w2.setCell ⟨g, i, none⟩ (.int .u8 (bb : Int)) = w3 at *
  have hb5 : Below w3.heap.size w3 w5 := below_of_grown hg5 (by simp [Value.ownBlock]) (Nat.le_refl _)
  have hb6 : Below w3.heap.size w3 w6 := hb5.trans ((below_of_grown hg6 (fun k e => by have := (hown5.lt k e).1; omega) hb5.size).mono (Nat.le_refl _))
  rw [List.nil_append] at hown6
  have hown6' := hown6
  obtain ⟨g6, c6, rfl, hg61, hg62, hc6, hm6⟩ := hown6.head (by simp)
  have hEl : (E.set i (UInt8.ofNat bb)).length = E.length := List.length_set ..
  have q36 := q3.below hb6
  have hs36 := (OwnB.sl (l := E.set i (UInt8.ofNat bb)) (by rw [hEl]; exact q36)).1
  have hb6' := bstep hb3 hb6
  have hbl6 := (hb.below hb6').more hb6'.size
  obtain ⟨Q, hQ⟩ : ∃ Q : List UInt8, [255, 255, 255, 255, 255, 255, 255, 255, 255] ++ [UInt8.ofNat bb, UInt8.ofNat at'] = Q := ⟨_, rfl⟩
  have hQl : Q.length = 11 := by rw [← hQ]; rfl
  rw [hQ] at hown6 hown6' hc6
  simp only [hQ]
  rw [hQl] at hown6 hown6' hc6
  have hc6' : (11 : Int) ≤ (c6 : Int) := by omega
  have hs6 := (OwnB.sl (l := Q) (by rw [hQl]; exact hown6)).1
  clear hQ hg5 hg6 hat5 hat6 hown5 hb5 hbl2
  go_wp2_with fail
  refine (takes_lit w6 _ _ E.length c2 (E.set i (UInt8.ofNat bb)) hs36 hEl.symm (by omega) hg4).mono ?_
  rintro e w7' ⟨rfl, rfl⟩
  go_wp2_with (at_builtin; refine appG (by rfl) rfl q36 hbl6 rfl rfl rfl (by simp only [List.length_set]; omega) (by have := h2.size; have := hb6.size; omega) ?_; intro s7 w7 hown7 hg7 hat7)
  obtain ⟨A7, c7, rfl, hc7, hm7, hs7, _, _⟩ := hown7.form
  have hQ7 := hown6.keep hg7 (.inr (by simp [Value.ownBlock]; omega))
  have hb7 := below_of_grown hg7 (B := w.heap.size) (fun k e => by simp [Value.ownBlock] at e; omega) hb6'.size
  have hb7' := hb6'.trans hb7
  have hsQ7 := (OwnB.sl (l := Q) (by rw [hQl]; exact hQ7)).1
  clear hat7 hg7 hown7 q36 hbl6 hs36 q1 q2 q3 q4 Q3 Q4 hs6
  go_wp2_with fail
  refine (takes_lit w7 _ _ _ c7 _ hs7 rfl hc7 hm7).mono ?_
  rintro e w7' ⟨rfl, rfl⟩
  go_wp2_with fail
  refine (takes_lit w7 _ _ 11 c6 Q hsQ7 hQl.symm (by omega) hm6).mono ?_
  rintro e w7' ⟨rfl, rfl⟩
  go_wp2_with fail
  refine (takes_lit w7 _ _ 10 c6 (Q.take 10) (by have := hsQ7.tk 10; rw [bv_take] at this; exact this) (by rw [List.length_take]; omega) (by omega) hm6).mono ?_
  rintro e w7' ⟨rfl, rfl⟩
  go_wp2_with fail
  refine (takes_lit w7 _ _ 9 c6 (Q.take 9) (by have := hsQ7.tk 9; rw [bv_take] at this; exact this) (by rw [List.length_take]; omega) (by omega) hm6).mono ?_
  rintro e w7' ⟨rfl, rfl⟩
  have hown8 := (OwnB.one w7 x1 hx1l).alloc (.cells #[.int .u8 (x2 : Int), .int .u8 ((0 : Nat) : Int)] 5)
  have hs8 := Sl.two (w7.alloc (.cells #[.int .u8 (x1 : Int)] 5)) x2 0 hx2l (by omega)
  simp only [World.size_alloc, Int.ofNat_eq_natCast, Int.natCast_zero] at hs8 hown8
  go_wp2_with (at_builtin; refine appG (by rfl) rfl hown8 hs8 rfl rfl rfl (by simp) (by simp; omega) ?_; intro s9 w9 hown9 hg9 hat9)
  obtain ⟨A9, c9, rfl, hc9, hm9, hs9, _, _⟩ := hown9.form
  have hb9 := below_of_grown hg9 (B := w7.heap.size) (fun k e => by simp [Value.ownBlock] at e; omega) (by simp; omega)
  have hb9' := bstep hb7' ((((Below.refl w7.heap.size w7).alloc (Nat.le_refl _) _).alloc (by simp) _).trans hb9)
  clear hat9 hg9 hown9
  go_wp2_with fail
  refine (takes_lit w9 _ _ _ c9 _ hs9 rfl hc9 hm9).mono ?_
  rintro e w9' ⟨rfl, rfl⟩
  go_wp2_with fail
  go_ret
  exact ⟨rfl, hb9'⟩
end Go.Proofs.Ytejligapkgnnnaa

