/- 'FlagsJoin': the walk of the law. -/
import Derived.Test.YtjijhmeagjhfoaaFlZ
namespace Go.Proofs.Ytjijhmeagjhfoaa
open Go.RowKit
set_option maxRecDepth 20000

def E32 : ET Try.prog 55 58 Nat := {
  n := 1
  bytes := 4
  cells := fun n => [.int .u32 (n : Int)]
  zero := 0
  z := .int .u32 0
  ty := Try.underlying55
  info := by kernel_rfl
  zc := rfl
  pos := by omega
  len := fun _ => rfl
  one := fun x u hu => by simp at hu; rw [hu]; rfl
  small := by omega }
theorem E32_dv (l : List Nat) : E32.dv l = l.map fun (n : Nat) => Value.int .u32 (n : Int) := by
  induction l with
  | nil => rfl
  | cons x l ih => rw [ET.dv_cons, ih]; rfl
theorem E32.below_ {w wr w1 : World} {x : Value} {B : Nat} {l : List Nat} (hown : E32.Own wr B x l) (hb : Below B w wr) (hB : B ≤ wr.heap.size) (hg : wr.grownBy w1 x.ownBlock) : Below B w w1 := hown.below_of hb hB hg
set_option maxRecDepth 100000 in
set_option maxHeartbeats 8000000 in
theorem FlagsJoin_walk (w : World) (A0 : Option Addr) (c0 : Nat) (l0 : List Nat) (s0 : Sl w w.heap.size A0 (l0.map fun (n : Nat) => Value.int .u32 (n : Int))) (hc0 : l0.length ≤ c0) (hm0 : c0 * 4 ≤ 140737488351232) (hb0 : ∀ n ∈ l0, n < 4294967296)
    (A1 : Option Addr) (c1 : Nat) (l1 : List Nat) (s1 : Sl w w.heap.size A1 (l1.map fun (n : Nat) => Value.int .u32 (n : Int))) (hc1 : l1.length ≤ c1) (hm1 : c1 * 4 ≤ 140737488351232) (hb1 : ∀ n ∈ l1, n < 4294967296)
    (A2 : Option Addr) (c2 : Nat) (l2 : List Nat) (s2 : Sl w w.heap.size A2 (l2.map fun (n : Nat) => Value.int .u32 (n : Int))) (hc2 : l2.length ≤ c2) (hm2 : c2 * 4 ≤ 140737488351232) (hb2 : ∀ n ∈ l2, n < 4294967296) :
    Calls Try.prog 5 #[.slice A0 l0.length c0, .slice A1 l1.length c1, .slice A2 l2.length c2] w fun e w' => e = .returned (.bool true) ∧ Below w.heap.size w w' := by
  obtain ⟨n0, hn0⟩ : ∃ n, l0.length = n := ⟨_, rfl⟩
  obtain ⟨n1, hn1⟩ : ∃ n, l1.length = n := ⟨_, rfl⟩
  obtain ⟨n2, hn2⟩ : ∃ n, l2.length = n := ⟨_, rfl⟩
  rw [hn0, hn1, hn2]
  have HN := Lib.hid (And.intro hn0 (And.intro hn1 hn2))
  have HS := Lib.hid (And.intro s0 (And.intro s1 s2))
  have HB := Lib.hid (And.intro hb0 (And.intro hb1 hb2))
  have HC := Lib.hid (And.intro hc0 (And.intro hc1 hc2))
  clear hn0 hn1 hn2 s0 s1 s2 hb0 hb1 hb2 hc0 hc1 hc2 hm0 hm1 hm2
  by_cases hbig : n0 > 100 ∨ n1 > 100 ∨ n2 > 100
  · go_enter Try.func5, Try.ntmps5
    go_wp2_with fail
    refine (known_any w).mono ?_
    rintro e w1 ⟨rfl, hb⟩
    have HB1 := Lib.hid hb
    clear hb
    by_cases h0 : n0 > 100
    · have h0' : (100 : Int) < (n0 : Int) := by omega
      go_wp2
      go_ret
      exact ⟨rfl, HB1.out⟩
    · have h0' : ¬ (100 : Int) < (n0 : Int) := by omega
      by_cases h1 : n1 > 100
      · have h1' : (100 : Int) < (n1 : Int) := by omega
        go_wp2
        go_ret
        exact ⟨rfl, HB1.out⟩
      · have h1' : ¬ (100 : Int) < (n1 : Int) := by omega
        have h2' : (100 : Int) < (n2 : Int) := by omega
        go_wp2
        go_ret
        exact ⟨rfl, HB1.out⟩
  · have h0 : n0 ≤ 100 := by omega
    have h1 : n1 ≤ 100 := by omega
    have h2 : n2 ≤ 100 := by omega
    clear hbig
    have h0' : ¬ (100 : Int) < (n0 : Int) := by omega
    have h1' : ¬ (100 : Int) < (n1 : Int) := by omega
    have h2' : ¬ (100 : Int) < (n2 : Int) := by omega
    go_enter Try.func5, Try.ntmps5
    go_wp2_with fail
    refine (known_any w).mono ?_
    rintro e w1 ⟨rfl, hb⟩
    have O0 := Lib.hid (show Objs w [] w1 from (Objs.nil w).below hb)
    clear hb
    go_wp2_with fail
    have sl0 : ∀ {L W}, Objs w L W → Sl W W.heap.size A0 (l0.map fun (n : Nat) => Value.int .u32 (n : Int)) := fun h => (HS.out.1.below h.2.2).more h.2.2.size
    have sl1 : ∀ {L W}, Objs w L W → Sl W W.heap.size A1 (l1.map fun (n : Nat) => Value.int .u32 (n : Int)) := fun h => (HS.out.2.1.below h.2.2).more h.2.2.size
    have sl2 : ∀ {L W}, Objs w L W → Sl W W.heap.size A2 (l2.map fun (n : Nat) => Value.int .u32 (n : Int)) := fun h => (HS.out.2.2.below h.2.2).more h.2.2.size
    have S := Lib.hid (And.intro @sl0 (And.intro @sl1 @sl2))
    clear sl0 sl1 sl2
    refine (O0.out.of A0 c0 n0 l0 (S.out.1 O0.out) HB.out.1 HN.out.1.symm (by omega)).mono ?_
    rintro e w2 ⟨ma, ba, rfl, ho⟩
    have O1 := Lib.hid ho
    clear ho
    go_wp2_with fail
    refine (O1.out.of A1 c1 n1 l1 (S.out.2.1 O1.out) HB.out.2.1 HN.out.2.1.symm (by omega)).mono ?_
    rintro e w3 ⟨mb, bb, rfl, ho⟩
    have O2 := Lib.hid ho
    clear ho
    go_wp2_with fail
    refine (O2.out.of A2 c2 n2 l2 (S.out.2.2 O2.out) HB.out.2.2 HN.out.2.2.symm (by omega)).mono ?_
    rintro e w4 ⟨mc, bc, rfl, ho⟩
    have O3 := Lib.hid ho
    clear ho
    go_wp2_with fail
    refine (O3.out.of A0 c0 n0 l0 (S.out.1 O3.out) HB.out.1 HN.out.1.symm (by omega)).mono ?_
    rintro e w5 ⟨md, bd, rfl, ho⟩
    have O4 := Lib.hid ho
    clear ho
    go_wp2_with fail
    refine (O4.out.of A1 c1 n1 l1 (S.out.2.1 O4.out) HB.out.2.1 HN.out.2.1.symm (by omega)).mono ?_
    rintro e w6 ⟨me, be, rfl, ho⟩
    have O5 := Lib.hid ho
    clear ho
    have q2 := S.out.2.2 O5.out
    rw [← E32_dv] at q2
    have HQ := Lib.hid q2
    clear q2
    go_wp2_with (first
      | (refine appE (E := E32) (l := []) (m := n2) (base := w6.heap.size) rfl rfl (ET.Own.nil _ _) HQ.out HN.out.2.2.symm rfl rfl (by have := HN.out.2.2; simp; omega) (Nat.le_refl _) ?_
         intro v7 w7 hown7 hg7 hat7
         have hb7 : Below w6.heap.size w6 w7 := ET.Own.below_of (ET.Own.nil (E := E32) w6 w6.heap.size) (Below.refl _ _) (Nat.le_refl _) hg7
         obtain ⟨A7, c7, rfl, _⟩ := hown7.form
         rw [List.nil_append] at hown7
         have O6 := Lib.hid (And.intro hown7 (And.intro hb7 (O5.out.below hb7)))
         clear hown7 hg7 hat7 hb7
         simp only [Act.put, List.setIfInBounds_toArray, List.set_cons_zero, List.set_cons_succ])
      | (refine appE (E := E32) (l := l2) (m := n0) (base := w6.heap.size) rfl rfl O6.out.1 (by rw [E32_dv]; exact S.out.1 O6.out.2.2) HN.out.1.symm rfl rfl (by have := HN.out; omega) O6.out.2.1.size ?_
         intro v8 w8 hown8 hg8 hat8
         have hb8 : Below w6.heap.size w6 w8 := ET.Own.below_of O6.out.1 O6.out.2.1 O6.out.2.1.size hg8
         obtain ⟨A8, c8, rfl, _⟩ := hown8.form
         have O7 := Lib.hid (And.intro hown8 (And.intro hb8 (O5.out.below hb8)))
         clear hown8 hg8 hat8 hb8
         simp only [Act.put, List.setIfInBounds_toArray, List.set_cons_zero, List.set_cons_succ])
      | (refine appE (E := E32) (l := l2 ++ l0) (m := n1) (base := w6.heap.size) rfl rfl O7.out.1 (by rw [E32_dv]; exact S.out.2.1 O7.out.2.2) HN.out.2.1.symm rfl rfl (by have := HN.out; rw [List.length_append]; omega) O7.out.2.1.size ?_
         intro v9 w9 hown9 hg9 hat9
         have hb9 : Below w6.heap.size w6 w9 := ET.Own.below_of O7.out.1 O7.out.2.1 O7.out.2.1.size hg9
         obtain ⟨A9, c9, rfl, _, _, hs9, _⟩ := hown9.form
         have O8 := Lib.hid (And.intro hs9 (And.intro hb9 (O5.out.below hb9)))
         clear hown9 hg9 hat9 hb9 hs9
         simp only [Act.put, List.setIfInBounds_toArray, List.set_cons_zero, List.set_cons_succ])
      | fail)
    have hq9 := O8.out.1
    rw [E32_dv] at hq9
    refine (O8.out.2.2.of A9 c9 (l2.length + (l0.length + l1.length)) (l2 ++ l0 ++ l1) hq9 (fun n hn => ?_) (by simp only [List.length_append]; omega) (by have := HN.out; omega)).mono ?_
    · rcases List.mem_append.1 hn with h | h
      · rcases List.mem_append.1 h with h | h
        · exact HB.out.2.2 n h
        · exact HB.out.1 n h
      · exact HB.out.2.1 n h
    rintro e w10 ⟨mz, bz, rfl, ho⟩
    have ho2 : Objs w [(ma, ba, ofR l0), (mb, bb, ofR l1), (mc, bc, ofR l2), (md, bd, ofR l0), (me, be, ofR l1), (mz, bz, ofR (l2 ++ l0 ++ l1))] w10 := ho
    have J1 := join_comm (GoodR.of l0) (GoodR.of l1)
    have J2 := join_assoc (GoodR.of l0) (GoodR.of l1) (GoodR.of l2)
    have J3 := join_all l0 l1 l2
    have J4 := join_less (GoodR.of l0) (GoodR.of l1) (GoodR.of l2)
    have J5 := join_self (((GoodR.of l0).join (GoodR.of l1)).join (GoodR.of l2))
    have L0 := ofR_len l0
    have L1 := ofR_len l1
    have L2 := ofR_len l2
    have L01 := len_join (ofR l1) (ofR l0) (GoodR.of l0).1
    have L10 := len_join (ofR l0) (ofR l1) (GoodR.of l1).1
    have L12 := len_join (ofR l2) (ofR l1) (GoodR.of l1).1
    have L012 := len_join (ofR l2) (joinR (ofR l0) (ofR l1)) ((GoodR.of l0).join (GoodR.of l1)).1
    have L112 := len_join (joinR (ofR l1) (ofR l2)) (ofR l0) (GoodR.of l0).1
    rw [← J3] at ho2
    generalize ofR l0 = x at *
    generalize ofR l1 = y at *
    generalize ofR l2 = z at *
    have LN := Lib.hid (show x.length ≤ 100 ∧ y.length ≤ 100 ∧ z.length ≤ 100 ∧ (joinR x y).length ≤ 200 ∧ (joinR y x).length ≤ 200 ∧ (joinR y z).length ≤ 200 ∧ (joinR (joinR x y) z).length ≤ 300 by have := HN.out; omega)
    have JJ := Lib.hid (And.intro J1 (And.intro J2 (And.intro J4 J5)))
    have O9 := Lib.hid ho2
    clear ho ho2 hq9 J1 J2 J3 J4 J5 L0 L1 L2 L01 L10 L12 L012 L112 O0 O1 O2 O3 O4 O5 O6 O7 O8 HQ
    go_wp2_with fail
    refine (O9.out.join (i := 0) (j := 1) rfl rfl (by omega) (by have := LN.out; omega)).mono ?_
    rintro e w11 ⟨rfl, ho⟩
    have O10 := Lib.hid (show Objs w [(ma, ba, joinR x y), (mb, bb, y), (mc, bc, z), (md, bd, x), (me, be, y), (mz, bz, joinR (joinR x y) z)] w11 from ho)
    clear ho O9
    go_wp2_with fail
    refine (O10.out.same (i := 1) (j := 4) rfl rfl (decide_eq_true rfl)).mono ?_
    rintro e w12 ⟨rfl, ho⟩
    have O11 := Lib.hid ho
    clear ho O10
    go_wp2_with fail
    refine (O11.out.join (i := 1) (j := 3) rfl rfl (by omega) (by have := LN.out; omega)).mono ?_
    rintro e w13 ⟨rfl, ho⟩
    have O12 := Lib.hid (show Objs w [(ma, ba, joinR x y), (mb, bb, joinR y x), (mc, bc, z), (md, bd, x), (me, be, y), (mz, bz, joinR (joinR x y) z)] w13 from ho)
    clear ho O11
    go_wp2_with fail
    refine (O12.out.same (i := 0) (j := 1) rfl rfl (decide_eq_true JJ.out.1)).mono ?_
    rintro e w14 ⟨rfl, ho⟩
    have O13 := Lib.hid ho
    clear ho O12
    go_wp2_with fail
    refine (O13.out.join (i := 0) (j := 2) rfl rfl (by omega) (by have := LN.out; omega)).mono ?_
    rintro e w15 ⟨rfl, ho⟩
    have O14 := Lib.hid (show Objs w [(ma, ba, joinR (joinR x y) z), (mb, bb, joinR y x), (mc, bc, z), (md, bd, x), (me, be, y), (mz, bz, joinR (joinR x y) z)] w15 from ho)
    clear ho O13
    go_wp2_with fail
    refine (O14.out.join (i := 4) (j := 2) rfl rfl (by omega) (by have := LN.out; omega)).mono ?_
    rintro e w16 ⟨rfl, ho⟩
    have O15 := Lib.hid (show Objs w [(ma, ba, joinR (joinR x y) z), (mb, bb, joinR y x), (mc, bc, z), (md, bd, x), (me, be, joinR y z), (mz, bz, joinR (joinR x y) z)] w16 from ho)
    clear ho O14
    go_wp2_with fail
    refine (O15.out.join (i := 3) (j := 4) rfl rfl (by omega) (by have := LN.out; omega)).mono ?_
    rintro e w17 ⟨rfl, ho⟩
    have O16 := Lib.hid (show Objs w [(ma, ba, joinR (joinR x y) z), (mb, bb, joinR y x), (mc, bc, z), (md, bd, joinR x (joinR y z)), (me, be, joinR y z), (mz, bz, joinR (joinR x y) z)] w17 from ho)
    clear ho O15
    go_wp2_with fail
    refine (O16.out.same (i := 0) (j := 3) rfl rfl (decide_eq_true JJ.out.2.1)).mono ?_
    rintro e w18 ⟨rfl, ho⟩
    have O17 := Lib.hid ho
    clear ho O16
    go_wp2_with fail
    refine (O17.out.same (i := 0) (j := 5) rfl rfl (decide_eq_true rfl)).mono ?_
    rintro e w19 ⟨rfl, ho⟩
    have O18 := Lib.hid ho
    clear ho O17
    go_wp2_with fail
    refine (O18.out.join (i := 0) (j := 1) rfl rfl (by omega) (by have := LN.out; omega)).mono ?_
    rintro e w20 ⟨rfl, ho⟩
    have ho2 : Objs w [(ma, ba, joinR (joinR (joinR x y) z) (joinR y x)), (mb, bb, joinR y x), (mc, bc, z), (md, bd, joinR x (joinR y z)), (me, be, joinR y z), (mz, bz, joinR (joinR x y) z)] w20 := ho
    rw [JJ.out.2.2.1] at ho2
    have O19 := Lib.hid ho2
    clear ho ho2 O18
    go_wp2_with fail
    refine (Join_nil w20 ma).mono ?_
    rintro e w21 ⟨rfl, rfl⟩
    go_wp2_with fail
    refine (O19.out.copy (i := 0) rfl).mono ?_
    rintro e w22 ⟨mk, bk, rfl, ho⟩
    have O20 := Lib.hid (show Objs w [(ma, ba, joinR (joinR x y) z), (mb, bb, joinR y x), (mc, bc, z), (md, bd, joinR x (joinR y z)), (me, be, joinR y z), (mz, bz, joinR (joinR x y) z), (mk, bk, joinR (joinR x y) z)] w22 from ho)
    clear ho O19
    go_wp2_with fail
    refine (O20.out.join (i := 0) (j := 6) rfl rfl (by omega) (by have := LN.out; omega)).mono ?_
    rintro e w23 ⟨rfl, ho⟩
    have ho2 : Objs w [(ma, ba, joinR (joinR (joinR x y) z) (joinR (joinR x y) z)), (mb, bb, joinR y x), (mc, bc, z), (md, bd, joinR x (joinR y z)), (me, be, joinR y z), (mz, bz, joinR (joinR x y) z), (mk, bk, joinR (joinR x y) z)] w23 := ho
    rw [JJ.out.2.2.2] at ho2
    have O21 := Lib.hid ho2
    clear ho ho2 O20
    go_wp2_with fail
    refine (O21.out.same (i := 0) (j := 3) rfl rfl (decide_eq_true JJ.out.2.1)).mono ?_
    rintro e w24 ⟨rfl, ho⟩
    have O22 := Lib.hid ho
    clear ho O21
    go_wp2_with fail
    refine (Same_nil w24 ma).mono ?_
    rintro e w25 ⟨rfl, hb⟩
    have HL := Lib.hid ((O22.out.below hb).2.2)
    clear hb
    go_wp2_with fail
    go_ret
    exact ⟨rfl, HL.out⟩
end Go.Proofs.Ytjijhmeagjhfoaa

