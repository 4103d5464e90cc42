/- The walk of VectorTakes. -/
import Derived.Test.YtaflikgdlkaefaaGreatT09
import Derived.Test.YtaflikgdlkaefaaGreatT12
import Derived.Test.YtaflikgdlkaefaaGreatT13
import Derived.Test.YtaflikgdlkaefaaGreatT15
import Derived.Test.YtaflikgdlkaefaaGreatT17
import Derived.Test.YtaflikgdlkaefaaGreatT18
open List (getElem?_toArray getElem?_cons_succ getElem?_cons_zero)
namespace Go.Proofs.YtaflikgdlkaefaaGreat
open Go.RowKit Go.Proofs.YtaflikgdlkaefaaGreat.Pl Go.Proofs.YtaflikgdlkaefaaGreat.Sp Go.Proofs.YtaflikgdlkaefaaGreat.Ve
set_option maxRecDepth 20000

theorem vt_and63 (k : Nat) (hk : k < 256) : bits .and .u8 (k : Int) 63 = ((k % 64 : Nat) : Int) := by
 rw [show (63 : Int) = ((63 : Nat) : Int) from rfl, u8_and_nat _ _ hk (by omega), show (63 : Nat) = 2 ^ 6 - 1 from rfl, Nat.and_two_pow_sub_one_eq_mod]
theorem vt_and3 (k : Nat) (hk : k < 18446744073709551616) : bits .and .u64 (k : Int) 3 = ((k % 4 : Nat) : Int) := by
 rw [show (3 : Int) = ((3 : Nat) : Int) from rfl, u64_and_nat _ _ hk (by omega), show (3 : Nat) = 2 ^ 2 - 1 from rfl, Nat.and_two_pow_sub_one_eq_mod]
theorem sl_postU (A : Option Addr) (m c j : Nat) (hj : j ≤ m) (hc : m ≤ c) :
  ∃ A2, (∀ w, (Instr.sliceAt 43 (.slice A m c) (some (.int .i64 (j : Int))) none none).run Tryz.prog w = .ok (.slice A2 (m - j) (c - j)) w) ∧ ∀ (w : World) (B : Nat) (o : List Nat), o.length = m → Sl w B A (uv o) → Sl w B A2 (uv (o.drop j)) := by
 obtain ⟨i, hi, hz, hz1, hz2⟩ := info_parts u64info
 refine ⟨if c = j then A else A.map (fun x => x.add (j * i.size)), fun w => ?_, fun w B o ho hS => ?_⟩
 ·simp [Instr.sliceAt, Instr.slice, run_underlying Tryz.underlying43, Instr.sliceBounds, Instr.sliceBound, asIntOf, Go.sizeOf, typeInfo, hi]
  intro h; omega
 ·have h := hS.cut j c (by rw [show (uv o).length = o.length by simp [uv]]; omega)
  rw [show (uv o).drop j = uv (o.drop j) by simp [uv, List.map_drop]] at h
  rw [show j * i.size = j by rw [hz1]; omega]
  exact h
theorem exec_postU {a : Act} {o : Oper} {x y : Operand} (ho : o.op = .slice 43 x (some y) none none) {A A2 : Option Addr} {m c j : Nat} (hx : a.eval x = .slice A m c) (hy : a.eval y = .int .i64 (j : Int))
  (h : ∀ w, (Instr.sliceAt 43 (.slice A m c) (some (.int .i64 (j : Int))) none none).run Tryz.prog w = .ok (.slice A2 (m - j) (c - j)) w) (w : World) :
  (execOp a.eval o).run Tryz.prog w = .ok (.value (.slice A2 (m - j) (c - j))) w := by
 simp [execOp, ho, hx, hy, h]
theorem vt_bv2 (z : Nat) (hz : z < 256) : bv [1, UInt8.ofNat z] = [.int .u8 1, .int .u8 (z : Int)] := by
 simp [bv, u8v]
 omega
theorem vt_bv1 (z : Nat) (hz : z < 256) : bv [UInt8.ofNat z] = [.int .u8 (z : Int)] := by
 simp [bv, u8v]
 omega
/-- bytes that stand in a slice -/
def BS (w : World) (u : Value) : Prop := ∃ A n c l, u = .slice A n c ∧ Sl w w.heap.size A (bv l) ∧ n = l.length ∧ n ≤ c ∧ c ≤ maxLen ∧ n ≤ 300000
theorem BS.below {w w' : World} {u : Value} (h : BS w u) (hb : Below w.heap.size w w') : BS w' u := by
 obtain ⟨A, n, c, l, e, h1, h2, h3, h4, h5⟩ := h
 exact ⟨A, n, c, l, e, (h1.below hb).more hb.size, h2, h3, h4, h5⟩
set_option maxRecDepth 100000 in
set_option maxHeartbeats 25600000 in
theorem VectorTakes_walk (w : World) (A : Option Addr) (c : Nat) (b : List UInt8) (hb : Sl w w.heap.size A (bv b)) (hbc : b.length ≤ c) (hcm : c ≤ 140737488351232) (A' : Option Addr) (c' : Nat) (x : List Nat) (hx : Sl w w.heap.size A' (wv x)) (hxl : ∀ m ∈ x, m < 65536)
  (at' : Int) (ha : -9223372036854775808 ≤ at' ∧ at' ≤ 9223372036854775807) (by' : Nat) (hby : by' < 256) (how : Nat) (hhow : how < 256) (A'' : Option Addr) (c'' : Nat) (l : List Nat) (hl : Sl w w.heap.size A'' (uv l)) (hlc : l.length ≤ c'') (_hlm : c'' * 8 ≤ 140737488351232) (hlu : ∀ n ∈ l, U64 n) :
  Calls Tryz.prog 4 #[.slice A b.length c, .slice A' x.length c', .int .i64 at', .int .u8 (by' : Int), .int .u8 (how : Int), .slice A'' l.length c''] w fun e w' => e = .returned (.bool true) ∧ Below w.heap.size w w' := by
 obtain ⟨nb, hnb⟩ : ∃ m, b.length = m := ⟨_, rfl⟩
 obtain ⟨nx, hnx⟩ : ∃ m, x.length = m := ⟨_, rfl⟩
 obtain ⟨nl, hnl⟩ : ∃ m, l.length = m := ⟨_, rfl⟩
 have hcm' : c ≤ maxLen := by unfold maxLen; omega
 rw [hnb] at hbc
 rw [hnl] at hlc
 rw [hnb, hnx, hnl]
 have HV := Lib.hid (And.intro hb (And.intro hbc (And.intro hcm' (And.intro hnb (And.intro hx (And.intro hxl (And.intro hnx (And.intro hl (And.intro hlc (And.intro hlu hnl))))))))))
 have HK := Lib.hid (vknown_any w)
 clear hb hbc hcm hcm' hnb hx hxl hnx hl hlc _hlm hlu hnl
 go_enter Tryz.func4, Tryz.ntmps4
 go_wp2_with fail
 refine HK.out.mono ?_
 rintro e w1 ⟨rfl, h1⟩
 by_cases q1 : 60 < nx
 ·have hd1 : decide ((60 : Int) < (nx : Int)) = true := by rw [decide_eq_true_eq]; omega
  go_wp2_with fail
  go_ret
  exact ⟨rfl, h1⟩
 have hdq1 : decide ((60 : Int) < (nx : Int)) = false := by rw [decide_eq_false_iff_not]; omega
 by_cases q2 : 1000 < nb
 ·have hd1 : decide ((1000 : Int) < (nb : Int)) = true := by rw [decide_eq_true_eq]; omega
  go_wp2_with fail
  go_ret
  exact ⟨rfl, h1⟩
 have hdq2 : decide ((1000 : Int) < (nb : Int)) = false := by rw [decide_eq_false_iff_not]; omega
 by_cases q3 : 60 < nl
 ·have hd1 : decide ((60 : Int) < (nl : Int)) = true := by rw [decide_eq_true_eq]; omega
  go_wp2_with fail
  go_ret
  exact ⟨rfl, h1⟩
 have hdq3 : decide ((60 : Int) < (nl : Int)) = false := by rw [decide_eq_false_iff_not]; omega
 obtain ⟨z, hz⟩ : ∃ z, by' % 64 = z := ⟨_, rfl⟩
 have f1 : bits .and .u8 (by' : Int) 63 = (z : Int) := by rw [vt_and63 by' hby, hz]
 have hz8 : z < 256 := by omega
 have h2 := balloc (Below.refl w1.heap.size w1) (.cells #[.int .u8 1, .int .u8 (z : Int)] 5)
 have hs2 : Sl (w1.alloc (.cells #[.int .u8 1, .int .u8 (z : Int)] 5)) (w1.alloc (.cells #[.int .u8 1, .int .u8 (z : Int)] 5)).heap.size (some ⟨w1.heap.size, 0, none⟩) (bv [1, UInt8.ofNat z]) := by
  rw [vt_bv2 z hz8]
  exact (Sl.new w1 5 #[.int .u8 1, .int .u8 (z : Int)] (0, 0)).more (by simp)
 have hb2 := h1.trans (h2.mono h1.size)
 have H2 := Lib.hid (And.intro hs2 hb2)
 clear h1 h2 hs2 hb2 hz HK
 by_cases q4 : 1 < nl
 ·have hd4 : decide ((1 : Int) < (nl : Int)) = true := by rw [decide_eq_true_eq]; omega
  have hl2 := (HV.out.2.2.2.2.2.2.2.1.below H2.out.2).more H2.out.2.size
  obtain ⟨bl, ol, eA, _, _, hcell⟩ := hl2.at_ (k := 0) (by simp [uv]; have := HV.out.2.2.2.2.2.2.2.2.2.2; omega)
  subst eA
  have hl0 : 0 < l.length := by have := HV.out.2.2.2.2.2.2.2.2.2.2; omega
  obtain ⟨l0, hl0e⟩ : ∃ v, l[0] = v := ⟨_, rfl⟩
  have hx0 := hcell 0 (.int .u64 (l0 : Int)) (by rw [← hl0e]; simp [uv, List.getElem?_eq_getElem hl0])
  rw [Nat.add_zero] at hx0
  have hl0u : l0 < 18446744073709551616 := HV.out.2.2.2.2.2.2.2.2.2.1 l0 (by rw [← hl0e]; exact List.getElem_mem hl0)
  obtain ⟨z3, hz3⟩ : ∃ v, l0 % 4 = v := ⟨_, rfl⟩
  have f2 : bits .and .u64 (l0 : Int) 3 = (z3 : Int) := by rw [vt_and3 l0 hl0u, hz3]
  obtain ⟨zq, hzq⟩ : ∃ v, (nl - 1) / 2 = v := ⟨_, rfl⟩
  have w1' : IntKind.i64.wrap ((nl : Int) - 1) = ((nl - 1 : Nat) : Int) := by rw [IntKind.wrap_i64]; omega
  have w2' : IntKind.u64.wrap ((nl - 1 : Nat) : Int) = ((nl - 1 : Nat) : Int) := by rw [IntKind.wrap_u64]; omega
  have w3' : IntKind.u64.wrap (((nl - 1 : Nat) : Int) / 2) = (zq : Int) := by rw [IntKind.wrap_u64]; omega
  have n0 : (0 : Int) < (nl : Int) := by omega
  obtain ⟨A9, hsl9, hS9⟩ := sl_postU (some ⟨bl, ol, none⟩) nl c'' 1 (by omega) HV.out.2.2.2.2.2.2.2.2.1
  have HSL := Lib.hid (And.intro hsl9 hS9)
  have hb3 := balloc (Below.refl _ (w1.alloc (.cells #[.int .u8 1, .int .u8 (z : Int)] 5))) (.cells #[.int .u64 (z3 : Int), .int .u64 (zq : Int)] 45)
  have hs3 := u64_sl2 (w1.alloc (.cells #[.int .u8 1, .int .u8 (z : Int)] 5)) z3 zq
  rw [EU_dv, World.size_alloc w1] at hs3
  have hU : ∀ x ∈ [z3, zq], U64 x := fun x hx => by
   rcases List.mem_cons.1 hx with rfl | hx
   ·exact U64.mk (by omega)
   ·rw [List.mem_singleton.1 hx]; exact U64.mk (by omega)
  have hP1 := RefPut_any ((w1.alloc (.cells #[.int .u8 1, .int .u8 (z : Int)] 5)).alloc (.cells #[.int .u64 (z3 : Int), .int .u64 (zq : Int)] 45)) (some ⟨w1.heap.size, 0, none⟩) (some ⟨w1.heap.size + 1, 0, none⟩) 2 2 [1, UInt8.ofNat z] [z3, zq] ((H2.out.1.below hb3).more hb3.size) hs3 hU (by simp)
  have HP1 := Lib.hid hP1
  have HB3 := Lib.hid (H2.out.2.trans (hb3.mono H2.out.2.size))
  clear hcell hl0 hl0e hl0u hsl9 hS9 hb3 hs3 hU hP1 hz3 hzq
  go_wp2_with fail
  refine HP1.out.mono ?_
  rintro e w4 ⟨A4, c4, rfl, hown4, h4⟩
  obtain ⟨n4, hn4⟩ : ∃ m, ([1, UInt8.ofNat z] ++ encs [z3, zq]).length = m := ⟨_, rfl⟩
  have hs4 : Sl w4 w4.heap.size A4 (bv ([1, UInt8.ofNat z] ++ encs [z3, zq])) := (Fresh.sl hown4).1
  have hl4 : n4 ≤ 22 := by
   have := encs_len [z3, zq]
   rw [← hn4, List.length_append]
   simp only [List.length_cons, List.length_nil] at this ⊢
   omega
  rw [hn4]
  have B4 := HB3.out.trans (h4.mono HB3.out.size)
  have hs9 := HSL.out.2 w4 _ l HV.out.2.2.2.2.2.2.2.2.2.2 ((HV.out.2.2.2.2.2.2.2.1.below B4).more B4.size)
  have hP2 := RefPut_any w4 A4 A9 c4 (c'' - 1) ([1, UInt8.ofNat z] ++ encs [z3, zq]) (l.drop 1) hs4 hs9 (fun x hx => HV.out.2.2.2.2.2.2.2.2.2.1 x (List.mem_of_mem_drop hx)) (by rw [hn4, List.length_drop]; have := HV.out.2.2.2.2.2.2.2.2.2.2; omega)
  rw [hn4, List.length_drop, HV.out.2.2.2.2.2.2.2.2.2.2] at hP2
  have HP2 := Lib.hid hP2
  have HB4 := Lib.hid B4
  have HN4 := Lib.hid (And.intro hn4 hl4)
  clear hown4 h4 hn4 hs4 hl4 B4 hs9 hP2 HP1 HB3 hx0 f1 f2 w1' w2' w3'
  go_wp2_with (refine mval rfl (exec_postU rfl rfl rfl HSL.out.1 _) ?_)
  refine HP2.out.mono ?_
  rintro e w5 ⟨Ap, cp, rfl, hown5, h5⟩
  obtain ⟨P, hP⟩ : ∃ P, [1, UInt8.ofNat z] ++ encs [z3, zq] ++ encs (l.drop 1) = P := ⟨_, rfl⟩
  rw [hP] at hown5
  obtain ⟨np, hnp⟩ : ∃ m, P.length = m := ⟨_, rfl⟩
  obtain ⟨y1, y2, y3⟩ := Fresh.sl hown5
  have hnl5 : np ≤ 700 := by
   have h1 := encs_len (l.drop 1)
   have h2 := HN4.out
   have h3 := HV.out.2.2.2.2.2.2.2.2.2.2
   rw [← hnp, ← hP, List.length_append, h2.1]
   rw [List.length_drop] at h1
   omega
  have hle5 : ([1, UInt8.ofNat z] ++ encs [z3, zq] ++ encs (l.drop 1)).length = np := by rw [hP]; exact hnp
  rw [hle5]
  rw [hnp] at y2
  have B5 := HB4.out.trans (h5.mono HB4.out.size)
  have HPB := Lib.hid (And.intro y1 (And.intro hnp.symm (And.intro y2 (And.intro y3 (And.intro hnl5 B5)))))
  clear hown5 h5 hP hnp y1 y2 y3 hnl5 hle5 B5 HP2 HB4 HN4 H2
  generalize w5 = W0 at *
  go_wp2_with fail
  refine (SVec_own W0 A' nx c' x ((HV.out.2.2.2.2.1.below HPB.out.2.2.2.2.2).more HPB.out.2.2.2.2.2.size) HV.out.2.2.2.2.2.2.1.symm (by omega) HV.out.2.2.2.2.2.1).mono ?_
  rintro e u3 ha
  obtain ⟨A3, n3, c3, R3, rfl, hv3, h3⟩ := ha.ans
  have hr3 : rightV (vecX x) = true := ofV_right _
  have hl3 : Lim 120 (vecX x) := ofV_lim.mono (by have := xds_len x; have := HV.out.2.2.2.2.2.2.1; omega)
  have hn3 : n3 ≤ 64 := by rw [← hv3.len]; exact right_length hr3
  obtain ⟨n4, hn4⟩ : ∃ m, (bytesV (vecX x)).length = m := ⟨_, rfl⟩
  have hn4l : n4 ≤ 200000 := by
   have h1 := bytesV_le hl3
   have h3 : (vecX x).length * (20 * 120 + 21) ≤ 64 * (20 * 120 + 21) := Nat.mul_le_mul_right _ (by rw [hv3.len]; exact hn3)
   omega
  have HBY := Lib.hid (RVBytes_any u3 A3 n3 c3 R3 (vecX x) hv3 (by omega) (hl3.mono (by omega)))
  have B3 := Lib.hid h3
  have HN4 := Lib.hid (And.intro hn4 hn4l)
  clear ha hv3 h3 hr3 hl3 hn3 hn4
  go_wp2_with fail
  refine HBY.out.mono ?_
  rintro e u4 ⟨A4, c4, rfl, hown4, h4⟩
  rw [HN4.out.1]
  have hCh := Changed_any u4 A4 n4 c4 (bytesV (vecX x)) (Fresh.sl hown4).1 HN4.out.1.symm (by rw [HN4.out.1]; omega) at' ha.1 ha.2 by' hby how hhow
  rw [HN4.out.1] at hCh
  have HCH := Lib.hid hCh
  have B4 := Lib.hid (B3.out.trans (h4.mono B3.out.size))
  clear hown4 h4 hCh HBY B3
  go_wp2_with fail
  refine HCH.out.mono ?_
  rintro e u5 ⟨A5, c5, l5, rfl, hs5, h51, h52, h53, h5⟩
  obtain ⟨n5, hn5⟩ : ∃ m, l5.length = m := ⟨_, rfl⟩
  rw [hn5] at h51 h53 ⊢
  have B5 := Lib.hid (B4.out.trans (h5.mono B4.out.size))
  have S5 := Lib.hid (And.intro hs5 (And.intro hn5 (And.intro h51 h52)))
  obtain ⟨z7, hz7⟩ : ∃ v, by' % 70 = v := ⟨_, rfl⟩
  have f7 : (by' : Int).tmod 70 = (z7 : Int) := by rw [← hz7]; rfl
  have f7' : (by' : Int) % 70 = (z7 : Int) := by omega
  have hz78 : z7 < 256 := by omega
  have hob : OwnB (u5.alloc (.cells #[.int .u8 (z7 : Int)] 5)) u5.heap.size (.slice (some ⟨u5.heap.size, 0, none⟩) 1 1) [UInt8.ofNat z7] := by
   have := OwnB.lit u5 u5.heap.size [UInt8.ofNat z7] (Nat.le_refl _) (by simp [maxLen])
   rw [vt_bv1 z7 hz78] at this
   exact this
  have hba := balloc (Below.refl u5.heap.size u5) (.cells #[.int .u8 (z7 : Int)] 5)
  have Bb := HPB.out.2.2.2.2.2.trans ((B5.out.trans (hba.mono B5.out.size)).mono HPB.out.2.2.2.2.2.size)
  have hsb := (HV.out.1.below Bb).more Bb.size
  have HO := Lib.hid (And.intro hob (And.intro hba hsb))
  clear hs5 hn5 h51 h52 h5 hob hba hsb Bb hz7 HCH B4
  go_wp2_with (at_builtin; refine app rfl rfl HO.out.1 HO.out.2.2 HV.out.2.2.2.1.symm rfl rfl (by rw [HV.out.2.2.2.1, List.length_singleton]; omega) HO.out.2.1.size ?_; intro v6 u6 hown6 hg6 hat6; obtain ⟨A6, c6, e6, h61, h62, h63, _⟩ := hown6.form; obtain ⟨n6, hn6⟩ : ∃ m, ([UInt8.ofNat z7] ++ b).length = m := ⟨_, rfl⟩; rw [hn6] at e6 h61; subst e6; have H6 := Lib.hid (And.intro hown6 (And.intro hg6 (And.intro h61 (And.intro h62 (And.intro h63 hn6))))); clear hown6 hg6 hat6 h61 h62 h63 hn6)
  have B56 : Below u5.heap.size u5 u6 := own_below HO.out.2.1 HO.out.2.1.size HO.out.1 H6.out.2.1
  have hbA := balloc (Below.refl u6.heap.size u6) (.cells #[.slice A nb c, .slice A5 n5 c5, .slice Ap np cp, .slice A6 n6 c6] 41)
  have a8 := At.new u6 41 #[.slice A nb c, .slice A5 n5 c5, .slice Ap np cp, .slice A6 n6 c6]
  have B58 := B56.trans (hbA.mono B56.size)
  have B08 := B5.out.trans (B58.mono B5.out.size)
  have Bw8 := HPB.out.2.2.2.2.2.trans (B08.mono HPB.out.2.2.2.2.2.size)
  have hT : ∀ k : Nat, k < 4 → ∃ u, ([.slice A nb c, .slice A5 n5 c5, .slice Ap np cp, .slice A6 n6 c6] : List Value)[k]? = some u ∧ BS (u6.alloc (.cells #[.slice A nb c, .slice A5 n5 c5, .slice Ap np cp, .slice A6 n6 c6] 41)) u := fun k hk => by
   match k, hk with
   | 0, _ => exact ⟨_, rfl, A, nb, c, b, rfl, (HV.out.1.below Bw8).more Bw8.size, HV.out.2.2.2.1.symm, HV.out.2.1, HV.out.2.2.1, by omega⟩
   | 1, _ => exact ⟨_, rfl, A5, n5, c5, l5, rfl, (S5.out.1.below B58).more B58.size, S5.out.2.1.symm, S5.out.2.2.1, S5.out.2.2.2, by have := HN4.out.2; omega⟩
   | 2, _ => exact ⟨_, rfl, Ap, np, cp, P, rfl, (HPB.out.1.below B08).more B08.size, HPB.out.2.1, HPB.out.2.2.1, HPB.out.2.2.2.1, by have := HPB.out.2.2.2.2.1; omega⟩
   | 3, _ => exact ⟨_, rfl, A6, n6, c6, [UInt8.ofNat z7] ++ b, rfl, (H6.out.2.2.2.2.1.below hbA).more hbA.size, H6.out.2.2.2.2.2.symm, H6.out.2.2.1, H6.out.2.2.2.1, by have h1 := H6.out.2.2.2.2.2; have h2 := HV.out.2.2.2.1; rw [List.length_append, List.length_singleton] at h1; omega⟩
  have HS := Lib.hid (And.intro a8 (And.intro hT Bw8))
  clear B56 hbA a8 B58 B08 Bw8 hT HO H6 S5 B5 HPB HN4 h53 f7 f7' hz78
  generalize u6.alloc (.cells #[.slice A nb c, .slice A5 n5 c5, .slice Ap np cp, .slice A6 n6 c6] 41) = W8 at *
  generalize u6.heap.size = g8 at *
  go_loopw [75] (fun x75 wr => ∃ (k : Nat), k ≤ 4 ∧ x75 = .int .i64 (k : Int) ∧ Below W8.heap.size W8 wr) (fun x75 _ => 4 - (intOf x75).toNat)
  case atStart => exact ⟨0, by omega, rfl, Below.refl _ _⟩
  case round =>
   obtain ⟨k, hk, rfl, hbel⟩ := hrel
   by_cases hlt : k < 4
   ·obtain ⟨u, hu, hBS⟩ := HS.out.2.1 k hlt
    have ck := (HS.out.1.below hbel).c k hu
    obtain ⟨Av, nv, cv, v, rfl, hs, hvl, hvc, hvm, hvb⟩ := hBS.below hbel
    have hd1 : decide ((k : Int) < 4) = true := by rw [decide_eq_true_eq]; omega
    have hn0 : (0 : Int) ≤ (k : Int) := by omega
    have hn1 : (k : Int) < 4 := by omega
    obtain ⟨⟨V, j, ev⟩, hTv⟩ : ∃ T, takeV v = T := ⟨_, rfl⟩
    have hok : ev = 0 → rightV V = true ∧ 1 ≤ j ∧ j ≤ nv ∧ bytesV V = v.take j := fun h => by
     have := takeV_ok (b := v) (by rw [hTv]; exact h)
     rw [hTv] at this
     dsimp only at this
     rw [hvl]
     exact this
    have hbad : ev ≠ 0 → V = [] ∧ j = 0 := fun h => by
     have := takeV_bad (b := v) (by rw [hTv]; exact h)
     rw [hTv] at this
     simp only [Prod.mk.injEq] at this
     exact ⟨this.1, this.2.1⟩
    have hlim : Lim 300000 V ∧ V.length ≤ 64 := by
     by_cases h : ev = 0
     ·obtain ⟨h1, _, _, h4⟩ := hok h
      refine ⟨fun p hp => Nat.le_trans (bytesV_ge h1 p hp) ?_, right_length h1⟩
      rw [h4, List.length_take]
      omega
     ·rw [(hbad h).1]
      exact ⟨fun p hp => absurd hp (by simp), by simp⟩
    have hTk := VTake_any wr Av nv cv v hs hvl hvc hvm (by omega)
    rw [hTv] at hTk
    have HTK := Lib.hid hTk
    have HVV := Lib.hid (And.intro hs (And.intro hvl (And.intro hvc (And.intro hvm (And.intro hvb (And.intro hTv (And.intro hok (And.intro hlim hbel))))))))
    clear hTk hs hvl hvc hvm hvb hTv hok hbad hlim hu hBS
    go_wp2_with fail
    refine HTK.out.mono ?_
    rintro e t1 ⟨A1, n1, c1, R1, rfl, hv1, h1⟩
    dsimp only at hv1 ⊢
    have hb1 := h1.trans ((balloc (Below.refl t1.heap.size t1) (.cells #[.slice A1 n1 c1] 24)).mono h1.size)
    have a1 := At.new t1 24 #[.slice A1 n1 c1]
    have hTk := RVTake_any (t1.alloc (.cells #[.slice A1 n1 c1] 24)) Av nv cv v ((HVV.out.1.below hb1).more hb1.size) HVV.out.2.1 HVV.out.2.2.1 HVV.out.2.2.2.1 (by have := HVV.out.2.2.2.2.1; omega)
    rw [HVV.out.2.2.2.2.2.1] at hTk
    have HTD := Lib.hid hTk
    have HY := Lib.hid (And.intro (hv1.below (balloc (Below.refl t1.heap.size t1) (.cells #[.slice A1 n1 c1] 24))) (And.intro a1 hb1))
    clear hTk hv1 h1 hb1 a1 HTK ck
    go_wp2_with fail
    generalize t1.alloc (.cells #[.slice A1 n1 c1] 24) = t2 at *
    generalize t1.heap.size = g16 at *
    refine HTD.out.mono ?_
    rintro e t3 ⟨A2, n2, c2, R2, rfl, hv2, h3⟩
    dsimp only at hv2 ⊢
    have hbx := balloc (Below.refl t3.heap.size t3) (.cells #[.slice A2 n2 c2] 24)
    have hb3 := h3.trans (hbx.mono h3.size)
    have a2 := At.new t3 24 #[.slice A2 n2 c2]
    have y16 := (HY.out.2.1.below hb3).c 0 rfl
    have hn1l : n1 ≤ 64 := by rw [← HY.out.1.len]; exact HVV.out.2.2.2.2.2.2.2.1.2
    have hSm := SameV_any (t3.alloc (.cells #[.slice A2 n2 c2] 24)) A1 A2 n1 n2 c1 c2 R1 R2 V V (HY.out.1.below hb3) (hv2.below hbx) (by omega) (HVV.out.2.2.2.2.2.2.2.1.1.mono (by omega)) (HVV.out.2.2.2.2.2.2.2.1.1.mono (by omega))
    rw [decide_eq_true rfl] at hSm
    have HSM := Lib.hid hSm
    have HZ := Lib.hid (And.intro (HY.out.1.below hb3) (And.intro (HY.out.2.1.below hb3) (HY.out.2.2.trans (hb3.mono HY.out.2.2.size))))
    clear hSm hv2 h3 hbx hb3 a2 HTD HY
    go_wp2_with fail
    refine HSM.out.mono ?_
    rintro e t5 ⟨rfl, h5⟩
    have hv5 := HZ.out.1.below h5
    have k16 := HZ.out.2.1.below h5
    have Br5 := HZ.out.2.2.trans (h5.mono HZ.out.2.2.size)
    have hs5 := (HVV.out.1.below Br5).more Br5.size
    have B85 := HVV.out.2.2.2.2.2.2.2.2.trans (Br5.mono HVV.out.2.2.2.2.2.2.2.2.size)
    have hncv := HVV.out.2.2.1
    have g0 := k16.c 0 rfl
    have e0 := cellB g0
    clear h5 HSM y16
    by_cases he : ev = 0
    ·obtain ⟨hr, j1, j2, hby⟩ := HVV.out.2.2.2.2.2.2.1 he
     subst he
     have hDB := fun W (hW : Below t5.heap.size t5 W) => VBytes_any W A1 n1 c1 R1 V (hv5.below hW) (by omega) (HVV.out.2.2.2.2.2.2.2.1.1.mono (by omega))
     unfold Fresh at hDB
     rw [hby] at hDB
     have hsT : Sl t5 t5.heap.size Av (bv (v.take j)) := by rw [← bv_take]; exact hs5.tk _
     obtain ⟨Q, hQ⟩ : ∃ Q, v.take j = Q := ⟨_, rfl⟩
     have hQj : Q.length = j := by rw [← hQ, List.length_take]; have := HVV.out.2.1; omega
     rw [hQ] at hDB hsT
     rw [hQj] at hDB
     have HP2 := Lib.hid hDB
     have HQ := Lib.hid hQj
     have hcvV := convB hsT j cv hQj.symm
     have q1 : decide ((j : Int) < 1) = false := by rw [decide_eq_false_iff_not]; omega
     have q2 : decide ((nv : Int) < (j : Int)) = false := by rw [decide_eq_false_iff_not]; omega
     have q5 : decide (nv < j) = false := by rw [decide_eq_false_iff_not]; omega
     have q6 : decide (j < 1) = false := by rw [decide_eq_false_iff_not]; omega
     have q3 : (0 : Int) ≤ (j : Int) := by omega
     have q4 : (j : Int) ≤ (cv : Int) := by omega
     clear hDB hby hQ hQj hsT hr hs5
     go_wp2_with fail
     have hb0 : Below t5.heap.size t5 t5.drew := (Below.refl _ t5).drew
     refine bstart (by kernel_rfl) ?_
     refine btake 0 (oi := _) (v := ?_) (by simp only [List.getElem?_toArray, List.getElem?_cons_zero]; rfl) (by kernel_rfl) (by exact fun _ _ _ h => h) (by first | assumption | exact KB.refl _) (.inl ⟨by rfl, fun W hW => ?_⟩) ?_; rotate_left
     ·(go_simp; first | done | with_reducible rfl)
     try simp only [Act.put, List.setIfInBounds_toArray, List.set_cons_zero, List.set_cons_succ]
     refine btake 1 (oi := _) (v := ?_) (by simp only [getElem?_toArray, getElem?_cons_succ, getElem?_cons_zero]; rfl) (by kernel_rfl) (by exact fun _ _ _ h => h) (by first | assumption | exact KB.refl _) (.inl ⟨by rfl, fun W hW => ?_⟩) ?_; rotate_left
     ·(go_simp; first | done | with_reducible rfl)
     try simp only [Act.put, List.setIfInBounds_toArray, List.set_cons_zero, List.set_cons_succ]
     refine btake 2 (oi := _) (v := ?_) (by simp only [getElem?_toArray, getElem?_cons_succ, getElem?_cons_zero]; rfl) (by kernel_rfl) (by exact fun _ _ _ h => h) (by first | assumption | exact KB.refl _) (.inl ⟨by rfl, fun W hW => ?_⟩) ?_; rotate_left
     ·(go_simp; first | done | with_reducible rfl)
     try simp only [Act.put, List.setIfInBounds_toArray, List.set_cons_zero, List.set_cons_succ]
     refine btake 3 (oi := _) (v := ?_) (by simp only [getElem?_toArray, getElem?_cons_succ, getElem?_cons_zero]; rfl) (by kernel_rfl) (by exact fun _ _ _ h => h) (by first | assumption | exact KB.refl _) (.inl ⟨by rfl, fun W hW => ?_⟩) ?_; rotate_left
     ·(go_simp; first | done | with_reducible rfl)
     try simp only [Act.put, List.setIfInBounds_toArray, List.set_cons_zero, List.set_cons_succ]
     refine btake 4 (oi := _) (v := ?_) (by simp only [getElem?_toArray, getElem?_cons_succ, getElem?_cons_zero]; rfl) (by kernel_rfl) (by exact fun _ _ _ h => h) (by first | assumption | exact KB.refl _) (.inl ⟨by rfl, fun W hW => ?_⟩) ?_; rotate_left
     ·(go_simp; first | done | with_reducible rfl)
     try simp only [Act.put, List.setIfInBounds_toArray, List.set_cons_zero, List.set_cons_succ]
     refine btake 5 (oi := _) (v := ?_) (by simp only [getElem?_toArray, getElem?_cons_succ, getElem?_cons_zero]; rfl) (by kernel_rfl) (by exact fun _ _ _ h => h) (by first | assumption | exact KB.refl _) (.inl ⟨by rfl, fun W hW => ?_⟩) ?_; rotate_left
     ·(go_simp; first | done | with_reducible rfl)
     try simp only [Act.put, List.setIfInBounds_toArray, List.set_cons_zero, List.set_cons_succ]
     refine btake 6 (oi := _) (v := ?_) (by simp only [getElem?_toArray, getElem?_cons_succ, getElem?_cons_zero]; rfl) (by kernel_rfl) (by exact fun _ _ _ h => h) (by first | assumption | exact KB.refl _) (.inl ⟨by rfl, fun W hW => ?_⟩) ?_; rotate_left
     ·(go_simp; first | done | with_reducible rfl)
     try simp only [Act.put, List.setIfInBounds_toArray, List.set_cons_zero, List.set_cons_succ]
     refine btake 7 (oi := _) (v := ?_) (by simp only [getElem?_toArray, getElem?_cons_succ, getElem?_cons_zero]; rfl) (by kernel_rfl) (by exact fun _ _ _ h => h) (by first | assumption | exact KB.refl _) (.inl ⟨by rfl, fun W hW => ?_⟩) ?_; rotate_left
     ·(go_simp; first | done | with_reducible rfl)
     try simp only [Act.put, List.setIfInBounds_toArray, List.set_cons_zero, List.set_cons_succ]
     refine btake 8 (oi := _) (v := ?_) (by simp only [getElem?_toArray, getElem?_cons_succ, getElem?_cons_zero]; rfl) (by kernel_rfl) (by exact fun _ _ _ h => h) (by first | assumption | exact KB.refl _) (.inl ⟨by rfl, fun W hW => ?_⟩) ?_; rotate_left
     ·(go_simp; first | done | with_reducible rfl)
     try simp only [Act.put, List.setIfInBounds_toArray, List.set_cons_zero, List.set_cons_succ]
     refine btake 9 (oi := _) (v := ?_) (by simp only [getElem?_toArray, getElem?_cons_succ, getElem?_cons_zero]; rfl) (by kernel_rfl) (by exact fun _ _ _ h => h) (by first | assumption | exact KB.refl _) (.inl ⟨by rfl, fun W hW => ?_⟩) ?_; rotate_left
     ·(go_simp; first | done | with_reducible rfl)
     try simp only [Act.put, List.setIfInBounds_toArray, List.set_cons_zero, List.set_cons_succ]
     refine btake 10 (oi := _) (v := ?_) (by simp only [getElem?_toArray, getElem?_cons_succ, getElem?_cons_zero]; rfl) (by kernel_rfl) (by exact fun _ _ _ h => h) (by first | assumption | exact KB.refl _) (.inl ⟨by rfl, fun W hW => ?_⟩) ?_; rotate_left
     ·(go_simp; first | done | with_reducible rfl)
     try simp only [Act.put, List.setIfInBounds_toArray, List.set_cons_zero, List.set_cons_succ]
     refine btake 11 (oi := _) (v := ?_) (by simp only [getElem?_toArray, getElem?_cons_succ, getElem?_cons_zero]; rfl) (by kernel_rfl) (by exact fun _ _ _ h => h) (by first | assumption | exact KB.refl _) (.inl ⟨by rfl, fun W hW => ?_⟩) ?_; rotate_left
     ·(go_simp; first | done | with_reducible rfl)
     try simp only [Act.put, List.setIfInBounds_toArray, List.set_cons_zero, List.set_cons_succ]
     refine btake 12 (oi := _) (v := ?_) (by simp only [getElem?_toArray, getElem?_cons_succ, getElem?_cons_zero]; rfl) (by kernel_rfl) (by exact fun _ _ _ h => h) (by first | assumption | exact KB.refl _) (.inl ⟨by rfl, fun W hW => ?_⟩) ?_; rotate_left
     ·(go_simp; first | done | with_reducible rfl)
     try simp only [Act.put, List.setIfInBounds_toArray, List.set_cons_zero, List.set_cons_succ]
     refine btake 15 (oi := _) (v := ?_) (by simp only [getElem?_toArray, getElem?_cons_succ, getElem?_cons_zero]; rfl) (by kernel_rfl) (by exact fun _ _ _ h => h) (by first | assumption | exact KB.refl _) (.inl ⟨by rfl, fun W hW => ?_⟩) ?_; rotate_left
     ·(go_simp; first | done | with_reducible rfl)
     try simp only [Act.put, List.setIfInBounds_toArray, List.set_cons_zero, List.set_cons_succ]
     refine btake 16 (oi := _) (v := ?_) (by simp only [getElem?_toArray, getElem?_cons_succ, getElem?_cons_zero]; rfl) (by kernel_rfl) (by exact fun _ _ _ h => h) (by first | assumption | exact KB.refl _) (.inl ⟨by rfl, fun W hW => ?_⟩) ?_; rotate_left
     ·(go_simp; first | done | with_reducible rfl)
     try simp only [Act.put, List.setIfInBounds_toArray, List.set_cons_zero, List.set_cons_succ]
     refine btake 17 (oi := _) (v := ?_) (by simp only [getElem?_toArray, getElem?_cons_succ, getElem?_cons_zero]; rfl) (by kernel_rfl) (by exact fun _ _ _ h => h) (by first | assumption | exact KB.refl _) (.inl ⟨by rfl, fun W hW => ?_⟩) ?_; rotate_left
     ·(go_simp; first | done | with_reducible rfl)
     try simp only [Act.put, List.setIfInBounds_toArray, List.set_cons_zero, List.set_cons_succ]
     refine btake 18 (oi := _) (v := ?_) (by simp only [getElem?_toArray, getElem?_cons_succ, getElem?_cons_zero]; rfl) (by kernel_rfl) (by exact fun _ _ _ h => h) (by first | assumption | exact KB.refl _) (.inl ⟨by rfl, fun W hW => ?_⟩) ?_; rotate_left
     ·(go_simp; first | done | with_reducible rfl)
     try simp only [Act.put, List.setIfInBounds_toArray, List.set_cons_zero, List.set_cons_succ]
     refine bop 13 (o := _) (by simp only [getElem?_toArray, getElem?_cons_succ, getElem?_cons_zero]; rfl) (by kernel_rfl) (by first | assumption | exact KB.refl _) (by rfl) (fun K hK => ?_)
     go_simp
     refine (HP2.out _ hb0).mono ?_
     rintro e t7 ⟨A19, c19, rfl, g9, h7⟩
     have hb7 := hb0.trans (h7.mono hb0.size)
     have hkb := KB.of hb7
     have hcv2 := convB (OwnB.sl (l := Q) (by rw [HQ.out]; exact g9)).1 j c19 HQ.out.symm
     refine hK.out _ _ hkb ?_; clear hK K
     try simp only [Act.put, List.setIfInBounds_toArray, List.set_cons_zero, List.set_cons_succ]
     refine btake 14 (oi := _) (v := ?_) (by simp only [getElem?_toArray, getElem?_cons_succ, getElem?_cons_zero]; rfl) (by kernel_rfl) (by exact fun _ _ _ h => h) (by first | assumption | exact KB.refl _) (.inl ⟨by rfl, fun W hW => ?_⟩) ?_; rotate_left
     ·(go_simp; first | done | with_reducible rfl)
     try simp only [Act.put, List.setIfInBounds_toArray, List.set_cons_zero, List.set_cons_succ]
     refine btake 19 (oi := _) (v := ?_) (by simp only [getElem?_toArray, getElem?_cons_succ, getElem?_cons_zero]; rfl) (by kernel_rfl) (by exact fun _ _ _ h => h) (by first | assumption | exact KB.refl _) (.inl ⟨by rfl, fun W hW => ?_⟩) ?_; rotate_left
     ·(go_simp; first | done | with_reducible rfl)
     try simp only [Act.put, List.setIfInBounds_toArray, List.set_cons_zero, List.set_cons_succ]
     refine btake 20 (oi := _) (v := ?_) (by simp only [getElem?_toArray, getElem?_cons_succ, getElem?_cons_zero]; rfl) (by kernel_rfl) (by exact fun _ _ _ h => h) (by first | assumption | exact KB.refl _) (.inl ⟨by rfl, fun W hW => ?_⟩) ?_; rotate_left
     ·(go_simp; first | done | with_reducible rfl)
     try simp only [Act.put, List.setIfInBounds_toArray, List.set_cons_zero, List.set_cons_succ]
     refine btake 21 (oi := _) (v := ?_) (by simp only [getElem?_toArray, getElem?_cons_succ, getElem?_cons_zero]; rfl) (by kernel_rfl) (by exact fun _ _ _ h => h) (by first | assumption | exact KB.refl _) (.inl ⟨by rfl, fun W hW => ?_⟩) ?_; rotate_left
     ·(go_simp; first | done | with_reducible rfl)
     try simp only [Act.put, List.setIfInBounds_toArray, List.set_cons_zero, List.set_cons_succ]
     refine bdone (by kernel_rfl) ?_
     have hbz := B85.trans (hb7.mono B85.size)
     clear hcvV hcv2 hkb g9 h7 e0 g0
     go_wp2_with fail
     go_roundw
     case rel => exact ⟨k + 1, by omega, by go_num, hbz⟩
     case measure => simp [intOf]; omega
    ·have he1 : ((ev : Int) == 0) = false := by rw [beq_eq_false_iff_ne]; omega
     have he2 : decide ((ev : Int) = 0) = false := by rw [decide_eq_false_iff_not]; omega
     clear hs5 hv5
     go_wp2_with fail
     refine bstart (by kernel_rfl) ?_
     refine btake 0 (oi := _) (v := ?_) (by simp only [List.getElem?_toArray, List.getElem?_cons_zero]; rfl) (by kernel_rfl) (by exact fun _ _ _ h => h) (by first | assumption | exact KB.refl _) (.inl ⟨by rfl, fun W hW => ?_⟩) ?_; rotate_left
     ·(go_simp; first | done | with_reducible rfl)
     try simp only [Act.put, List.setIfInBounds_toArray, List.set_cons_zero, List.set_cons_succ]
     refine btake 1 (oi := _) (v := ?_) (by simp only [getElem?_toArray, getElem?_cons_succ, getElem?_cons_zero]; rfl) (by kernel_rfl) (by exact fun _ _ _ h => h) (by first | assumption | exact KB.refl _) (.inl ⟨by rfl, fun W hW => ?_⟩) ?_; rotate_left
     ·(go_simp; first | done | with_reducible rfl)
     try simp only [Act.put, List.setIfInBounds_toArray, List.set_cons_zero, List.set_cons_succ]
     refine btake 2 (oi := _) (v := ?_) (by simp only [getElem?_toArray, getElem?_cons_succ, getElem?_cons_zero]; rfl) (by kernel_rfl) (by exact fun _ _ _ h => h) (by first | assumption | exact KB.refl _) (.inl ⟨by rfl, fun W hW => ?_⟩) ?_; rotate_left
     ·(go_simp; first | done | with_reducible rfl)
     try simp only [Act.put, List.setIfInBounds_toArray, List.set_cons_zero, List.set_cons_succ]
     refine btake 3 (oi := _) (v := undef) (by simp only [getElem?_toArray, getElem?_cons_succ, getElem?_cons_zero]; rfl) (by kernel_rfl) (by exact fun _ _ _ h => h) (by first | assumption | exact KB.refl _) (.inr ⟨by rfl, rfl⟩) ?_
     try simp only [Act.put, List.setIfInBounds_toArray, List.set_cons_zero, List.set_cons_succ]
     refine btake 4 (oi := _) (v := undef) (by simp only [getElem?_toArray, getElem?_cons_succ, getElem?_cons_zero]; rfl) (by kernel_rfl) (by exact fun _ _ _ h => h) (by first | assumption | exact KB.refl _) (.inr ⟨by rfl, rfl⟩) ?_
     try simp only [Act.put, List.setIfInBounds_toArray, List.set_cons_zero, List.set_cons_succ]
     refine btake 5 (oi := _) (v := undef) (by simp only [getElem?_toArray, getElem?_cons_succ, getElem?_cons_zero]; rfl) (by kernel_rfl) (by exact fun _ _ _ h => h) (by first | assumption | exact KB.refl _) (.inr ⟨by rfl, rfl⟩) ?_
     try simp only [Act.put, List.setIfInBounds_toArray, List.set_cons_zero, List.set_cons_succ]
     refine btake 6 (oi := _) (v := undef) (by simp only [getElem?_toArray, getElem?_cons_succ, getElem?_cons_zero]; rfl) (by kernel_rfl) (by exact fun _ _ _ h => h) (by first | assumption | exact KB.refl _) (.inr ⟨by rfl, rfl⟩) ?_
     try simp only [Act.put, List.setIfInBounds_toArray, List.set_cons_zero, List.set_cons_succ]
     refine btake 7 (oi := _) (v := undef) (by simp only [getElem?_toArray, getElem?_cons_succ, getElem?_cons_zero]; rfl) (by kernel_rfl) (by exact fun _ _ _ h => h) (by first | assumption | exact KB.refl _) (.inr ⟨by rfl, rfl⟩) ?_
     try simp only [Act.put, List.setIfInBounds_toArray, List.set_cons_zero, List.set_cons_succ]
     refine btake 8 (oi := _) (v := undef) (by simp only [getElem?_toArray, getElem?_cons_succ, getElem?_cons_zero]; rfl) (by kernel_rfl) (by exact fun _ _ _ h => h) (by first | assumption | exact KB.refl _) (.inr ⟨by rfl, rfl⟩) ?_
     try simp only [Act.put, List.setIfInBounds_toArray, List.set_cons_zero, List.set_cons_succ]
     refine btake 9 (oi := _) (v := undef) (by simp only [getElem?_toArray, getElem?_cons_succ, getElem?_cons_zero]; rfl) (by kernel_rfl) (by exact fun _ _ _ h => h) (by first | assumption | exact KB.refl _) (.inr ⟨by rfl, rfl⟩) ?_
     try simp only [Act.put, List.setIfInBounds_toArray, List.set_cons_zero, List.set_cons_succ]
     refine btake 10 (oi := _) (v := undef) (by simp only [getElem?_toArray, getElem?_cons_succ, getElem?_cons_zero]; rfl) (by kernel_rfl) (by exact fun _ _ _ h => h) (by first | assumption | exact KB.refl _) (.inr ⟨by rfl, rfl⟩) ?_
     try simp only [Act.put, List.setIfInBounds_toArray, List.set_cons_zero, List.set_cons_succ]
     refine btake 11 (oi := _) (v := undef) (by simp only [getElem?_toArray, getElem?_cons_succ, getElem?_cons_zero]; rfl) (by kernel_rfl) (by exact fun _ _ _ h => h) (by first | assumption | exact KB.refl _) (.inr ⟨by rfl, rfl⟩) ?_
     try simp only [Act.put, List.setIfInBounds_toArray, List.set_cons_zero, List.set_cons_succ]
     refine btake 12 (oi := _) (v := undef) (by simp only [getElem?_toArray, getElem?_cons_succ, getElem?_cons_zero]; rfl) (by kernel_rfl) (by exact fun _ _ _ h => h) (by first | assumption | exact KB.refl _) (.inr ⟨by rfl, rfl⟩) ?_
     try simp only [Act.put, List.setIfInBounds_toArray, List.set_cons_zero, List.set_cons_succ]
     refine btake 13 (oi := _) (v := undef) (by simp only [getElem?_toArray, getElem?_cons_succ, getElem?_cons_zero]; rfl) (by kernel_rfl) (by exact fun _ _ _ h => h) (by first | assumption | exact KB.refl _) (.inr ⟨by rfl, rfl⟩) ?_
     try simp only [Act.put, List.setIfInBounds_toArray, List.set_cons_zero, List.set_cons_succ]
     refine btake 14 (oi := _) (v := undef) (by simp only [getElem?_toArray, getElem?_cons_succ, getElem?_cons_zero]; rfl) (by kernel_rfl) (by exact fun _ _ _ h => h) (by first | assumption | exact KB.refl _) (.inr ⟨by rfl, rfl⟩) ?_
     try simp only [Act.put, List.setIfInBounds_toArray, List.set_cons_zero, List.set_cons_succ]
     refine btake 15 (oi := _) (v := undef) (by simp only [getElem?_toArray, getElem?_cons_succ, getElem?_cons_zero]; rfl) (by kernel_rfl) (by exact fun _ _ _ h => h) (by first | assumption | exact KB.refl _) (.inr ⟨by rfl, rfl⟩) ?_
     try simp only [Act.put, List.setIfInBounds_toArray, List.set_cons_zero, List.set_cons_succ]
     refine btake 16 (oi := _) (v := undef) (by simp only [getElem?_toArray, getElem?_cons_succ, getElem?_cons_zero]; rfl) (by kernel_rfl) (by exact fun _ _ _ h => h) (by first | assumption | exact KB.refl _) (.inr ⟨by rfl, rfl⟩) ?_
     try simp only [Act.put, List.setIfInBounds_toArray, List.set_cons_zero, List.set_cons_succ]
     refine btake 17 (oi := _) (v := undef) (by simp only [getElem?_toArray, getElem?_cons_succ, getElem?_cons_zero]; rfl) (by kernel_rfl) (by exact fun _ _ _ h => h) (by first | assumption | exact KB.refl _) (.inr ⟨by rfl, rfl⟩) ?_
     try simp only [Act.put, List.setIfInBounds_toArray, List.set_cons_zero, List.set_cons_succ]
     refine btake 18 (oi := _) (v := undef) (by simp only [getElem?_toArray, getElem?_cons_succ, getElem?_cons_zero]; rfl) (by kernel_rfl) (by exact fun _ _ _ h => h) (by first | assumption | exact KB.refl _) (.inr ⟨by rfl, rfl⟩) ?_
     try simp only [Act.put, List.setIfInBounds_toArray, List.set_cons_zero, List.set_cons_succ]
     refine btake 19 (oi := _) (v := undef) (by simp only [getElem?_toArray, getElem?_cons_succ, getElem?_cons_zero]; rfl) (by kernel_rfl) (by exact fun _ _ _ h => h) (by first | assumption | exact KB.refl _) (.inr ⟨by rfl, rfl⟩) ?_
     try simp only [Act.put, List.setIfInBounds_toArray, List.set_cons_zero, List.set_cons_succ]
     refine btake 20 (oi := _) (v := undef) (by simp only [getElem?_toArray, getElem?_cons_succ, getElem?_cons_zero]; rfl) (by kernel_rfl) (by exact fun _ _ _ h => h) (by first | assumption | exact KB.refl _) (.inr ⟨by rfl, rfl⟩) ?_
     try simp only [Act.put, List.setIfInBounds_toArray, List.set_cons_zero, List.set_cons_succ]
     refine btake 21 (oi := _) (v := ?_) (by simp only [getElem?_toArray, getElem?_cons_succ, getElem?_cons_zero]; rfl) (by kernel_rfl) (by exact fun _ _ _ h => h) (by first | assumption | exact KB.refl _) (.inl ⟨by rfl, fun W hW => ?_⟩) ?_; rotate_left
     ·(go_simp; first | done | with_reducible rfl)
     try simp only [Act.put, List.setIfInBounds_toArray, List.set_cons_zero, List.set_cons_succ]
     refine bdone (by kernel_rfl) ?_
     have hbz := B85.drew
     go_wp2_with fail
     go_roundw
     case rel => exact ⟨k + 1, by omega, by go_num, hbz⟩
     case measure => simp [intOf]; omega
   ·obtain rfl : k = 4 := by omega
    have hd1 : decide (((4 : Nat) : Int) < 4) = false := by rw [decide_eq_false_iff_not]; omega
    have hbz := HS.out.2.2.trans (hbel.mono HS.out.2.2.size)
    go_wp2_with fail
    go_ret
    exact ⟨rfl, hbz⟩
 ·have hd4 : decide ((1 : Int) < (nl : Int)) = false := by rw [decide_eq_false_iff_not]; omega
  have HPB := Lib.hid (And.intro H2.out.1 (And.intro (show (2 : Nat) = [1, UInt8.ofNat z].length from rfl) (And.intro (Nat.le_refl 2) (And.intro (show 2 ≤ maxLen by simp [maxLen]) (And.intro (show 2 ≤ 700 by omega) H2.out.2)))))
  clear H2
  go_wp2_with fail
  generalize w1.alloc (.cells #[.int .u8 1, .int .u8 (z : Int)] 5) = W0 at *
  go_wp2_with fail
  refine (SVec_own W0 A' nx c' x ((HV.out.2.2.2.2.1.below HPB.out.2.2.2.2.2).more HPB.out.2.2.2.2.2.size) HV.out.2.2.2.2.2.2.1.symm (by omega) HV.out.2.2.2.2.2.1).mono ?_
  rintro e u3 ha
  obtain ⟨A3, n3, c3, R3, rfl, hv3, h3⟩ := ha.ans
  have hr3 : rightV (vecX x) = true := ofV_right _
  have hl3 : Lim 120 (vecX x) := ofV_lim.mono (by have := xds_len x; have := HV.out.2.2.2.2.2.2.1; omega)
  have hn3 : n3 ≤ 64 := by rw [← hv3.len]; exact right_length hr3
  obtain ⟨n4, hn4⟩ : ∃ m, (bytesV (vecX x)).length = m := ⟨_, rfl⟩
  have hn4l : n4 ≤ 200000 := by
   have h1 := bytesV_le hl3
   have h3 : (vecX x).length * (20 * 120 + 21) ≤ 64 * (20 * 120 + 21) := Nat.mul_le_mul_right _ (by rw [hv3.len]; exact hn3)
   omega
  have HBY := Lib.hid (RVBytes_any u3 A3 n3 c3 R3 (vecX x) hv3 (by omega) (hl3.mono (by omega)))
  have B3 := Lib.hid h3
  have HN4 := Lib.hid (And.intro hn4 hn4l)
  clear ha hv3 h3 hr3 hl3 hn3 hn4
  go_wp2_with fail
  refine HBY.out.mono ?_
  rintro e u4 ⟨A4, c4, rfl, hown4, h4⟩
  rw [HN4.out.1]
  have hCh := Changed_any u4 A4 n4 c4 (bytesV (vecX x)) (Fresh.sl hown4).1 HN4.out.1.symm (by rw [HN4.out.1]; omega) at' ha.1 ha.2 by' hby how hhow
  rw [HN4.out.1] at hCh
  have HCH := Lib.hid hCh
  have B4 := Lib.hid (B3.out.trans (h4.mono B3.out.size))
  clear hown4 h4 hCh HBY B3
  go_wp2_with fail
  refine HCH.out.mono ?_
  rintro e u5 ⟨A5, c5, l5, rfl, hs5, h51, h52, h53, h5⟩
  obtain ⟨n5, hn5⟩ : ∃ m, l5.length = m := ⟨_, rfl⟩
  rw [hn5] at h51 h53 ⊢
  have B5 := Lib.hid (B4.out.trans (h5.mono B4.out.size))
  have S5 := Lib.hid (And.intro hs5 (And.intro hn5 (And.intro h51 h52)))
  obtain ⟨z7, hz7⟩ : ∃ v, by' % 70 = v := ⟨_, rfl⟩
  have f7 : (by' : Int).tmod 70 = (z7 : Int) := by rw [← hz7]; rfl
  have f7' : (by' : Int) % 70 = (z7 : Int) := by omega
  have hz78 : z7 < 256 := by omega
  have hob : OwnB (u5.alloc (.cells #[.int .u8 (z7 : Int)] 5)) u5.heap.size (.slice (some ⟨u5.heap.size, 0, none⟩) 1 1) [UInt8.ofNat z7] := by
   have := OwnB.lit u5 u5.heap.size [UInt8.ofNat z7] (Nat.le_refl _) (by simp [maxLen])
   rw [vt_bv1 z7 hz78] at this
   exact this
  have hba := balloc (Below.refl u5.heap.size u5) (.cells #[.int .u8 (z7 : Int)] 5)
  have Bb := HPB.out.2.2.2.2.2.trans ((B5.out.trans (hba.mono B5.out.size)).mono HPB.out.2.2.2.2.2.size)
  have hsb := (HV.out.1.below Bb).more Bb.size
  have HO := Lib.hid (And.intro hob (And.intro hba hsb))
  clear hs5 hn5 h51 h52 h5 hob hba hsb Bb hz7 HCH B4
  go_wp2_with (at_builtin; refine app rfl rfl HO.out.1 HO.out.2.2 HV.out.2.2.2.1.symm rfl rfl (by rw [HV.out.2.2.2.1, List.length_singleton]; omega) HO.out.2.1.size ?_; intro v6 u6 hown6 hg6 hat6; obtain ⟨A6, c6, e6, h61, h62, h63, _⟩ := hown6.form; obtain ⟨n6, hn6⟩ : ∃ m, ([UInt8.ofNat z7] ++ b).length = m := ⟨_, rfl⟩; rw [hn6] at e6 h61; subst e6; have H6 := Lib.hid (And.intro hown6 (And.intro hg6 (And.intro h61 (And.intro h62 (And.intro h63 hn6))))); clear hown6 hg6 hat6 h61 h62 h63 hn6)
  have B56 : Below u5.heap.size u5 u6 := own_below HO.out.2.1 HO.out.2.1.size HO.out.1 H6.out.2.1
  have hbA := balloc (Below.refl u6.heap.size u6) (.cells #[.slice A nb c, .slice A5 n5 c5, .slice (some ⟨w1.heap.size, 0, none⟩) 2 2, .slice A6 n6 c6] 41)
  have a8 := At.new u6 41 #[.slice A nb c, .slice A5 n5 c5, .slice (some ⟨w1.heap.size, 0, none⟩) 2 2, .slice A6 n6 c6]
  have B58 := B56.trans (hbA.mono B56.size)
  have B08 := B5.out.trans (B58.mono B5.out.size)
  have Bw8 := HPB.out.2.2.2.2.2.trans (B08.mono HPB.out.2.2.2.2.2.size)
  have hT : ∀ k : Nat, k < 4 → ∃ u, ([.slice A nb c, .slice A5 n5 c5, .slice (some ⟨w1.heap.size, 0, none⟩) 2 2, .slice A6 n6 c6] : List Value)[k]? = some u ∧ BS (u6.alloc (.cells #[.slice A nb c, .slice A5 n5 c5, .slice (some ⟨w1.heap.size, 0, none⟩) 2 2, .slice A6 n6 c6] 41)) u := fun k hk => by
   match k, hk with
   | 0, _ => exact ⟨_, rfl, A, nb, c, b, rfl, (HV.out.1.below Bw8).more Bw8.size, HV.out.2.2.2.1.symm, HV.out.2.1, HV.out.2.2.1, by omega⟩
   | 1, _ => exact ⟨_, rfl, A5, n5, c5, l5, rfl, (S5.out.1.below B58).more B58.size, S5.out.2.1.symm, S5.out.2.2.1, S5.out.2.2.2, by have := HN4.out.2; omega⟩
   | 2, _ => exact ⟨_, rfl, (some ⟨w1.heap.size, 0, none⟩), 2, 2, [1, UInt8.ofNat z], rfl, (HPB.out.1.below B08).more B08.size, HPB.out.2.1, HPB.out.2.2.1, HPB.out.2.2.2.1, by have := HPB.out.2.2.2.2.1; omega⟩
   | 3, _ => exact ⟨_, rfl, A6, n6, c6, [UInt8.ofNat z7] ++ b, rfl, (H6.out.2.2.2.2.1.below hbA).more hbA.size, H6.out.2.2.2.2.2.symm, H6.out.2.2.1, H6.out.2.2.2.1, by have h1 := H6.out.2.2.2.2.2; have h2 := HV.out.2.2.2.1; rw [List.length_append, List.length_singleton] at h1; omega⟩
  have HS := Lib.hid (And.intro a8 (And.intro hT Bw8))
  clear B56 hbA a8 B58 B08 Bw8 hT HO H6 S5 B5 HPB HN4 h53 f7 f7' hz78
  generalize u6.alloc (.cells #[.slice A nb c, .slice A5 n5 c5, .slice (some ⟨w1.heap.size, 0, none⟩) 2 2, .slice A6 n6 c6] 41) = W8 at *
  generalize u6.heap.size = g8 at *
  go_loopw [75] (fun x75 wr => ∃ (k : Nat), k ≤ 4 ∧ x75 = .int .i64 (k : Int) ∧ Below W8.heap.size W8 wr) (fun x75 _ => 4 - (intOf x75).toNat)
  case atStart => exact ⟨0, by omega, rfl, Below.refl _ _⟩
  case round =>
   obtain ⟨k, hk, rfl, hbel⟩ := hrel
   by_cases hlt : k < 4
   ·obtain ⟨u, hu, hBS⟩ := HS.out.2.1 k hlt
    have ck := (HS.out.1.below hbel).c k hu
    obtain ⟨Av, nv, cv, v, rfl, hs, hvl, hvc, hvm, hvb⟩ := hBS.below hbel
    have hd1 : decide ((k : Int) < 4) = true := by rw [decide_eq_true_eq]; omega
    have hn0 : (0 : Int) ≤ (k : Int) := by omega
    have hn1 : (k : Int) < 4 := by omega
    obtain ⟨⟨V, j, ev⟩, hTv⟩ : ∃ T, takeV v = T := ⟨_, rfl⟩
    have hok : ev = 0 → rightV V = true ∧ 1 ≤ j ∧ j ≤ nv ∧ bytesV V = v.take j := fun h => by
     have := takeV_ok (b := v) (by rw [hTv]; exact h)
     rw [hTv] at this
     dsimp only at this
     rw [hvl]
     exact this
    have hbad : ev ≠ 0 → V = [] ∧ j = 0 := fun h => by
     have := takeV_bad (b := v) (by rw [hTv]; exact h)
     rw [hTv] at this
     simp only [Prod.mk.injEq] at this
     exact ⟨this.1, this.2.1⟩
    have hlim : Lim 300000 V ∧ V.length ≤ 64 := by
     by_cases h : ev = 0
     ·obtain ⟨h1, _, _, h4⟩ := hok h
      refine ⟨fun p hp => Nat.le_trans (bytesV_ge h1 p hp) ?_, right_length h1⟩
      rw [h4, List.length_take]
      omega
     ·rw [(hbad h).1]
      exact ⟨fun p hp => absurd hp (by simp), by simp⟩
    have hTk := VTake_any wr Av nv cv v hs hvl hvc hvm (by omega)
    rw [hTv] at hTk
    have HTK := Lib.hid hTk
    have HVV := Lib.hid (And.intro hs (And.intro hvl (And.intro hvc (And.intro hvm (And.intro hvb (And.intro hTv (And.intro hok (And.intro hlim hbel))))))))
    clear hTk hs hvl hvc hvm hvb hTv hok hbad hlim hu hBS
    go_wp2_with fail
    refine HTK.out.mono ?_
    rintro e t1 ⟨A1, n1, c1, R1, rfl, hv1, h1⟩
    dsimp only at hv1 ⊢
    have hb1 := h1.trans ((balloc (Below.refl t1.heap.size t1) (.cells #[.slice A1 n1 c1] 24)).mono h1.size)
    have a1 := At.new t1 24 #[.slice A1 n1 c1]
    have hTk := RVTake_any (t1.alloc (.cells #[.slice A1 n1 c1] 24)) Av nv cv v ((HVV.out.1.below hb1).more hb1.size) HVV.out.2.1 HVV.out.2.2.1 HVV.out.2.2.2.1 (by have := HVV.out.2.2.2.2.1; omega)
    rw [HVV.out.2.2.2.2.2.1] at hTk
    have HTD := Lib.hid hTk
    have HY := Lib.hid (And.intro (hv1.below (balloc (Below.refl t1.heap.size t1) (.cells #[.slice A1 n1 c1] 24))) (And.intro a1 hb1))
    clear hTk hv1 h1 hb1 a1 HTK ck
    go_wp2_with fail
    generalize t1.alloc (.cells #[.slice A1 n1 c1] 24) = t2 at *
    generalize t1.heap.size = g16 at *
    refine HTD.out.mono ?_
    rintro e t3 ⟨A2, n2, c2, R2, rfl, hv2, h3⟩
    dsimp only at hv2 ⊢
    have hbx := balloc (Below.refl t3.heap.size t3) (.cells #[.slice A2 n2 c2] 24)
    have hb3 := h3.trans (hbx.mono h3.size)
    have a2 := At.new t3 24 #[.slice A2 n2 c2]
    have y16 := (HY.out.2.1.below hb3).c 0 rfl
    have hn1l : n1 ≤ 64 := by rw [← HY.out.1.len]; exact HVV.out.2.2.2.2.2.2.2.1.2
    have hSm := SameV_any (t3.alloc (.cells #[.slice A2 n2 c2] 24)) A1 A2 n1 n2 c1 c2 R1 R2 V V (HY.out.1.below hb3) (hv2.below hbx) (by omega) (HVV.out.2.2.2.2.2.2.2.1.1.mono (by omega)) (HVV.out.2.2.2.2.2.2.2.1.1.mono (by omega))
    rw [decide_eq_true rfl] at hSm
    have HSM := Lib.hid hSm
    have HZ := Lib.hid (And.intro (HY.out.1.below hb3) (And.intro (HY.out.2.1.below hb3) (HY.out.2.2.trans (hb3.mono HY.out.2.2.size))))
    clear hSm hv2 h3 hbx hb3 a2 HTD HY
    go_wp2_with fail
    refine HSM.out.mono ?_
    rintro e t5 ⟨rfl, h5⟩
    have hv5 := HZ.out.1.below h5
    have k16 := HZ.out.2.1.below h5
    have Br5 := HZ.out.2.2.trans (h5.mono HZ.out.2.2.size)
    have hs5 := (HVV.out.1.below Br5).more Br5.size
    have B85 := HVV.out.2.2.2.2.2.2.2.2.trans (Br5.mono HVV.out.2.2.2.2.2.2.2.2.size)
    have hncv := HVV.out.2.2.1
    have g0 := k16.c 0 rfl
    have e0 := cellB g0
    clear h5 HSM y16
    by_cases he : ev = 0
    ·obtain ⟨hr, j1, j2, hby⟩ := HVV.out.2.2.2.2.2.2.1 he
     subst he
     have hDB := fun W (hW : Below t5.heap.size t5 W) => VBytes_any W A1 n1 c1 R1 V (hv5.below hW) (by omega) (HVV.out.2.2.2.2.2.2.2.1.1.mono (by omega))
     unfold Fresh at hDB
     rw [hby] at hDB
     have hsT : Sl t5 t5.heap.size Av (bv (v.take j)) := by rw [← bv_take]; exact hs5.tk _
     obtain ⟨Q, hQ⟩ : ∃ Q, v.take j = Q := ⟨_, rfl⟩
     have hQj : Q.length = j := by rw [← hQ, List.length_take]; have := HVV.out.2.1; omega
     rw [hQ] at hDB hsT
     rw [hQj] at hDB
     have HP2 := Lib.hid hDB
     have HQ := Lib.hid hQj
     have hcvV := convB hsT j cv hQj.symm
     have q1 : decide ((j : Int) < 1) = false := by rw [decide_eq_false_iff_not]; omega
     have q2 : decide ((nv : Int) < (j : Int)) = false := by rw [decide_eq_false_iff_not]; omega
     have q5 : decide (nv < j) = false := by rw [decide_eq_false_iff_not]; omega
     have q6 : decide (j < 1) = false := by rw [decide_eq_false_iff_not]; omega
     have q3 : (0 : Int) ≤ (j : Int) := by omega
     have q4 : (j : Int) ≤ (cv : Int) := by omega
     clear hDB hby hQ hQj hsT hr hs5
     go_wp2_with fail
     have hb0 : Below t5.heap.size t5 t5.drew := (Below.refl _ t5).drew
     refine bstart (by kernel_rfl) ?_
     refine btake 0 (oi := _) (v := ?_) (by simp only [List.getElem?_toArray, List.getElem?_cons_zero]; rfl) (by kernel_rfl) (by exact fun _ _ _ h => h) (by first | assumption | exact KB.refl _) (.inl ⟨by rfl, fun W hW => ?_⟩) ?_; rotate_left
     ·(go_simp; first | done | with_reducible rfl)
     try simp only [Act.put, List.setIfInBounds_toArray, List.set_cons_zero, List.set_cons_succ]
     refine btake 1 (oi := _) (v := ?_) (by simp only [getElem?_toArray, getElem?_cons_succ, getElem?_cons_zero]; rfl) (by kernel_rfl) (by exact fun _ _ _ h => h) (by first | assumption | exact KB.refl _) (.inl ⟨by rfl, fun W hW => ?_⟩) ?_; rotate_left
     ·(go_simp; first | done | with_reducible rfl)
     try simp only [Act.put, List.setIfInBounds_toArray, List.set_cons_zero, List.set_cons_succ]
     refine btake 2 (oi := _) (v := ?_) (by simp only [getElem?_toArray, getElem?_cons_succ, getElem?_cons_zero]; rfl) (by kernel_rfl) (by exact fun _ _ _ h => h) (by first | assumption | exact KB.refl _) (.inl ⟨by rfl, fun W hW => ?_⟩) ?_; rotate_left
     ·(go_simp; first | done | with_reducible rfl)
     try simp only [Act.put, List.setIfInBounds_toArray, List.set_cons_zero, List.set_cons_succ]
     refine btake 3 (oi := _) (v := ?_) (by simp only [getElem?_toArray, getElem?_cons_succ, getElem?_cons_zero]; rfl) (by kernel_rfl) (by exact fun _ _ _ h => h) (by first | assumption | exact KB.refl _) (.inl ⟨by rfl, fun W hW => ?_⟩) ?_; rotate_left
     ·(go_simp; first | done | with_reducible rfl)
     try simp only [Act.put, List.setIfInBounds_toArray, List.set_cons_zero, List.set_cons_succ]
     refine btake 4 (oi := _) (v := ?_) (by simp only [getElem?_toArray, getElem?_cons_succ, getElem?_cons_zero]; rfl) (by kernel_rfl) (by exact fun _ _ _ h => h) (by first | assumption | exact KB.refl _) (.inl ⟨by rfl, fun W hW => ?_⟩) ?_; rotate_left
     ·(go_simp; first | done | with_reducible rfl)
     try simp only [Act.put, List.setIfInBounds_toArray, List.set_cons_zero, List.set_cons_succ]
     refine btake 5 (oi := _) (v := ?_) (by simp only [getElem?_toArray, getElem?_cons_succ, getElem?_cons_zero]; rfl) (by kernel_rfl) (by exact fun _ _ _ h => h) (by first | assumption | exact KB.refl _) (.inl ⟨by rfl, fun W hW => ?_⟩) ?_; rotate_left
     ·(go_simp; first | done | with_reducible rfl)
     try simp only [Act.put, List.setIfInBounds_toArray, List.set_cons_zero, List.set_cons_succ]
     refine btake 6 (oi := _) (v := ?_) (by simp only [getElem?_toArray, getElem?_cons_succ, getElem?_cons_zero]; rfl) (by kernel_rfl) (by exact fun _ _ _ h => h) (by first | assumption | exact KB.refl _) (.inl ⟨by rfl, fun W hW => ?_⟩) ?_; rotate_left
     ·(go_simp; first | done | with_reducible rfl)
     try simp only [Act.put, List.setIfInBounds_toArray, List.set_cons_zero, List.set_cons_succ]
     refine btake 7 (oi := _) (v := ?_) (by simp only [getElem?_toArray, getElem?_cons_succ, getElem?_cons_zero]; rfl) (by kernel_rfl) (by exact fun _ _ _ h => h) (by first | assumption | exact KB.refl _) (.inl ⟨by rfl, fun W hW => ?_⟩) ?_; rotate_left
     ·(go_simp; first | done | with_reducible rfl)
     try simp only [Act.put, List.setIfInBounds_toArray, List.set_cons_zero, List.set_cons_succ]
     refine btake 8 (oi := _) (v := ?_) (by simp only [getElem?_toArray, getElem?_cons_succ, getElem?_cons_zero]; rfl) (by kernel_rfl) (by exact fun _ _ _ h => h) (by first | assumption | exact KB.refl _) (.inl ⟨by rfl, fun W hW => ?_⟩) ?_; rotate_left
     ·(go_simp; first | done | with_reducible rfl)
     try simp only [Act.put, List.setIfInBounds_toArray, List.set_cons_zero, List.set_cons_succ]
     refine btake 9 (oi := _) (v := ?_) (by simp only [getElem?_toArray, getElem?_cons_succ, getElem?_cons_zero]; rfl) (by kernel_rfl) (by exact fun _ _ _ h => h) (by first | assumption | exact KB.refl _) (.inl ⟨by rfl, fun W hW => ?_⟩) ?_; rotate_left
     ·(go_simp; first | done | with_reducible rfl)
     try simp only [Act.put, List.setIfInBounds_toArray, List.set_cons_zero, List.set_cons_succ]
     refine btake 10 (oi := _) (v := ?_) (by simp only [getElem?_toArray, getElem?_cons_succ, getElem?_cons_zero]; rfl) (by kernel_rfl) (by exact fun _ _ _ h => h) (by first | assumption | exact KB.refl _) (.inl ⟨by rfl, fun W hW => ?_⟩) ?_; rotate_left
     ·(go_simp; first | done | with_reducible rfl)
     try simp only [Act.put, List.setIfInBounds_toArray, List.set_cons_zero, List.set_cons_succ]
     refine btake 11 (oi := _) (v := ?_) (by simp only [getElem?_toArray, getElem?_cons_succ, getElem?_cons_zero]; rfl) (by kernel_rfl) (by exact fun _ _ _ h => h) (by first | assumption | exact KB.refl _) (.inl ⟨by rfl, fun W hW => ?_⟩) ?_; rotate_left
     ·(go_simp; first | done | with_reducible rfl)
     try simp only [Act.put, List.setIfInBounds_toArray, List.set_cons_zero, List.set_cons_succ]
     refine btake 12 (oi := _) (v := ?_) (by simp only [getElem?_toArray, getElem?_cons_succ, getElem?_cons_zero]; rfl) (by kernel_rfl) (by exact fun _ _ _ h => h) (by first | assumption | exact KB.refl _) (.inl ⟨by rfl, fun W hW => ?_⟩) ?_; rotate_left
     ·(go_simp; first | done | with_reducible rfl)
     try simp only [Act.put, List.setIfInBounds_toArray, List.set_cons_zero, List.set_cons_succ]
     refine btake 15 (oi := _) (v := ?_) (by simp only [getElem?_toArray, getElem?_cons_succ, getElem?_cons_zero]; rfl) (by kernel_rfl) (by exact fun _ _ _ h => h) (by first | assumption | exact KB.refl _) (.inl ⟨by rfl, fun W hW => ?_⟩) ?_; rotate_left
     ·(go_simp; first | done | with_reducible rfl)
     try simp only [Act.put, List.setIfInBounds_toArray, List.set_cons_zero, List.set_cons_succ]
     refine btake 16 (oi := _) (v := ?_) (by simp only [getElem?_toArray, getElem?_cons_succ, getElem?_cons_zero]; rfl) (by kernel_rfl) (by exact fun _ _ _ h => h) (by first | assumption | exact KB.refl _) (.inl ⟨by rfl, fun W hW => ?_⟩) ?_; rotate_left
     ·(go_simp; first | done | with_reducible rfl)
     try simp only [Act.put, List.setIfInBounds_toArray, List.set_cons_zero, List.set_cons_succ]
     refine btake 17 (oi := _) (v := ?_) (by simp only [getElem?_toArray, getElem?_cons_succ, getElem?_cons_zero]; rfl) (by kernel_rfl) (by exact fun _ _ _ h => h) (by first | assumption | exact KB.refl _) (.inl ⟨by rfl, fun W hW => ?_⟩) ?_; rotate_left
     ·(go_simp; first | done | with_reducible rfl)
     try simp only [Act.put, List.setIfInBounds_toArray, List.set_cons_zero, List.set_cons_succ]
     refine btake 18 (oi := _) (v := ?_) (by simp only [getElem?_toArray, getElem?_cons_succ, getElem?_cons_zero]; rfl) (by kernel_rfl) (by exact fun _ _ _ h => h) (by first | assumption | exact KB.refl _) (.inl ⟨by rfl, fun W hW => ?_⟩) ?_; rotate_left
     ·(go_simp; first | done | with_reducible rfl)
     try simp only [Act.put, List.setIfInBounds_toArray, List.set_cons_zero, List.set_cons_succ]
     refine bop 13 (o := _) (by simp only [getElem?_toArray, getElem?_cons_succ, getElem?_cons_zero]; rfl) (by kernel_rfl) (by first | assumption | exact KB.refl _) (by rfl) (fun K hK => ?_)
     go_simp
     refine (HP2.out _ hb0).mono ?_
     rintro e t7 ⟨A19, c19, rfl, g9, h7⟩
     have hb7 := hb0.trans (h7.mono hb0.size)
     have hkb := KB.of hb7
     have hcv2 := convB (OwnB.sl (l := Q) (by rw [HQ.out]; exact g9)).1 j c19 HQ.out.symm
     refine hK.out _ _ hkb ?_; clear hK K
     try simp only [Act.put, List.setIfInBounds_toArray, List.set_cons_zero, List.set_cons_succ]
     refine btake 14 (oi := _) (v := ?_) (by simp only [getElem?_toArray, getElem?_cons_succ, getElem?_cons_zero]; rfl) (by kernel_rfl) (by exact fun _ _ _ h => h) (by first | assumption | exact KB.refl _) (.inl ⟨by rfl, fun W hW => ?_⟩) ?_; rotate_left
     ·(go_simp; first | done | with_reducible rfl)
     try simp only [Act.put, List.setIfInBounds_toArray, List.set_cons_zero, List.set_cons_succ]
     refine btake 19 (oi := _) (v := ?_) (by simp only [getElem?_toArray, getElem?_cons_succ, getElem?_cons_zero]; rfl) (by kernel_rfl) (by exact fun _ _ _ h => h) (by first | assumption | exact KB.refl _) (.inl ⟨by rfl, fun W hW => ?_⟩) ?_; rotate_left
     ·(go_simp; first | done | with_reducible rfl)
     try simp only [Act.put, List.setIfInBounds_toArray, List.set_cons_zero, List.set_cons_succ]
     refine btake 20 (oi := _) (v := ?_) (by simp only [getElem?_toArray, getElem?_cons_succ, getElem?_cons_zero]; rfl) (by kernel_rfl) (by exact fun _ _ _ h => h) (by first | assumption | exact KB.refl _) (.inl ⟨by rfl, fun W hW => ?_⟩) ?_; rotate_left
     ·(go_simp; first | done | with_reducible rfl)
     try simp only [Act.put, List.setIfInBounds_toArray, List.set_cons_zero, List.set_cons_succ]
     refine btake 21 (oi := _) (v := ?_) (by simp only [getElem?_toArray, getElem?_cons_succ, getElem?_cons_zero]; rfl) (by kernel_rfl) (by exact fun _ _ _ h => h) (by first | assumption | exact KB.refl _) (.inl ⟨by rfl, fun W hW => ?_⟩) ?_; rotate_left
     ·(go_simp; first | done | with_reducible rfl)
     try simp only [Act.put, List.setIfInBounds_toArray, List.set_cons_zero, List.set_cons_succ]
     refine bdone (by kernel_rfl) ?_
     have hbz := B85.trans (hb7.mono B85.size)
     clear hcvV hcv2 hkb g9 h7 e0 g0
     go_wp2_with fail
     go_roundw
     case rel => exact ⟨k + 1, by omega, by go_num, hbz⟩
     case measure => simp [intOf]; omega
    ·have he1 : ((ev : Int) == 0) = false := by rw [beq_eq_false_iff_ne]; omega
     have he2 : decide ((ev : Int) = 0) = false := by rw [decide_eq_false_iff_not]; omega
     clear hs5 hv5
     go_wp2_with fail
     refine bstart (by kernel_rfl) ?_
     refine btake 0 (oi := _) (v := ?_) (by simp only [List.getElem?_toArray, List.getElem?_cons_zero]; rfl) (by kernel_rfl) (by exact fun _ _ _ h => h) (by first | assumption | exact KB.refl _) (.inl ⟨by rfl, fun W hW => ?_⟩) ?_; rotate_left
     ·(go_simp; first | done | with_reducible rfl)
     try simp only [Act.put, List.setIfInBounds_toArray, List.set_cons_zero, List.set_cons_succ]
     refine btake 1 (oi := _) (v := ?_) (by simp only [getElem?_toArray, getElem?_cons_succ, getElem?_cons_zero]; rfl) (by kernel_rfl) (by exact fun _ _ _ h => h) (by first | assumption | exact KB.refl _) (.inl ⟨by rfl, fun W hW => ?_⟩) ?_; rotate_left
     ·(go_simp; first | done | with_reducible rfl)
     try simp only [Act.put, List.setIfInBounds_toArray, List.set_cons_zero, List.set_cons_succ]
     refine btake 2 (oi := _) (v := ?_) (by simp only [getElem?_toArray, getElem?_cons_succ, getElem?_cons_zero]; rfl) (by kernel_rfl) (by exact fun _ _ _ h => h) (by first | assumption | exact KB.refl _) (.inl ⟨by rfl, fun W hW => ?_⟩) ?_; rotate_left
     ·(go_simp; first | done | with_reducible rfl)
     try simp only [Act.put, List.setIfInBounds_toArray, List.set_cons_zero, List.set_cons_succ]
     refine btake 3 (oi := _) (v := undef) (by simp only [getElem?_toArray, getElem?_cons_succ, getElem?_cons_zero]; rfl) (by kernel_rfl) (by exact fun _ _ _ h => h) (by first | assumption | exact KB.refl _) (.inr ⟨by rfl, rfl⟩) ?_
     try simp only [Act.put, List.setIfInBounds_toArray, List.set_cons_zero, List.set_cons_succ]
     refine btake 4 (oi := _) (v := undef) (by simp only [getElem?_toArray, getElem?_cons_succ, getElem?_cons_zero]; rfl) (by kernel_rfl) (by exact fun _ _ _ h => h) (by first | assumption | exact KB.refl _) (.inr ⟨by rfl, rfl⟩) ?_
     try simp only [Act.put, List.setIfInBounds_toArray, List.set_cons_zero, List.set_cons_succ]
     refine btake 5 (oi := _) (v := undef) (by simp only [getElem?_toArray, getElem?_cons_succ, getElem?_cons_zero]; rfl) (by kernel_rfl) (by exact fun _ _ _ h => h) (by first | assumption | exact KB.refl _) (.inr ⟨by rfl, rfl⟩) ?_
     try simp only [Act.put, List.setIfInBounds_toArray, List.set_cons_zero, List.set_cons_succ]
     refine btake 6 (oi := _) (v := undef) (by simp only [getElem?_toArray, getElem?_cons_succ, getElem?_cons_zero]; rfl) (by kernel_rfl) (by exact fun _ _ _ h => h) (by first | assumption | exact KB.refl _) (.inr ⟨by rfl, rfl⟩) ?_
     try simp only [Act.put, List.setIfInBounds_toArray, List.set_cons_zero, List.set_cons_succ]
     refine btake 7 (oi := _) (v := undef) (by simp only [getElem?_toArray, getElem?_cons_succ, getElem?_cons_zero]; rfl) (by kernel_rfl) (by exact fun _ _ _ h => h) (by first | assumption | exact KB.refl _) (.inr ⟨by rfl, rfl⟩) ?_
     try simp only [Act.put, List.setIfInBounds_toArray, List.set_cons_zero, List.set_cons_succ]
     refine btake 8 (oi := _) (v := undef) (by simp only [getElem?_toArray, getElem?_cons_succ, getElem?_cons_zero]; rfl) (by kernel_rfl) (by exact fun _ _ _ h => h) (by first | assumption | exact KB.refl _) (.inr ⟨by rfl, rfl⟩) ?_
     try simp only [Act.put, List.setIfInBounds_toArray, List.set_cons_zero, List.set_cons_succ]
     refine btake 9 (oi := _) (v := undef) (by simp only [getElem?_toArray, getElem?_cons_succ, getElem?_cons_zero]; rfl) (by kernel_rfl) (by exact fun _ _ _ h => h) (by first | assumption | exact KB.refl _) (.inr ⟨by rfl, rfl⟩) ?_
     try simp only [Act.put, List.setIfInBounds_toArray, List.set_cons_zero, List.set_cons_succ]
     refine btake 10 (oi := _) (v := undef) (by simp only [getElem?_toArray, getElem?_cons_succ, getElem?_cons_zero]; rfl) (by kernel_rfl) (by exact fun _ _ _ h => h) (by first | assumption | exact KB.refl _) (.inr ⟨by rfl, rfl⟩) ?_
     try simp only [Act.put, List.setIfInBounds_toArray, List.set_cons_zero, List.set_cons_succ]
     refine btake 11 (oi := _) (v := undef) (by simp only [getElem?_toArray, getElem?_cons_succ, getElem?_cons_zero]; rfl) (by kernel_rfl) (by exact fun _ _ _ h => h) (by first | assumption | exact KB.refl _) (.inr ⟨by rfl, rfl⟩) ?_
     try simp only [Act.put, List.setIfInBounds_toArray, List.set_cons_zero, List.set_cons_succ]
     refine btake 12 (oi := _) (v := undef) (by simp only [getElem?_toArray, getElem?_cons_succ, getElem?_cons_zero]; rfl) (by kernel_rfl) (by exact fun _ _ _ h => h) (by first | assumption | exact KB.refl _) (.inr ⟨by rfl, rfl⟩) ?_
     try simp only [Act.put, List.setIfInBounds_toArray, List.set_cons_zero, List.set_cons_succ]
     refine btake 13 (oi := _) (v := undef) (by simp only [getElem?_toArray, getElem?_cons_succ, getElem?_cons_zero]; rfl) (by kernel_rfl) (by exact fun _ _ _ h => h) (by first | assumption | exact KB.refl _) (.inr ⟨by rfl, rfl⟩) ?_
     try simp only [Act.put, List.setIfInBounds_toArray, List.set_cons_zero, List.set_cons_succ]
     refine btake 14 (oi := _) (v := undef) (by simp only [getElem?_toArray, getElem?_cons_succ, getElem?_cons_zero]; rfl) (by kernel_rfl) (by exact fun _ _ _ h => h) (by first | assumption | exact KB.refl _) (.inr ⟨by rfl, rfl⟩) ?_
     try simp only [Act.put, List.setIfInBounds_toArray, List.set_cons_zero, List.set_cons_succ]
     refine btake 15 (oi := _) (v := undef) (by simp only [getElem?_toArray, getElem?_cons_succ, getElem?_cons_zero]; rfl) (by kernel_rfl) (by exact fun _ _ _ h => h) (by first | assumption | exact KB.refl _) (.inr ⟨by rfl, rfl⟩) ?_
     try simp only [Act.put, List.setIfInBounds_toArray, List.set_cons_zero, List.set_cons_succ]
     refine btake 16 (oi := _) (v := undef) (by simp only [getElem?_toArray, getElem?_cons_succ, getElem?_cons_zero]; rfl) (by kernel_rfl) (by exact fun _ _ _ h => h) (by first | assumption | exact KB.refl _) (.inr ⟨by rfl, rfl⟩) ?_
     try simp only [Act.put, List.setIfInBounds_toArray, List.set_cons_zero, List.set_cons_succ]
     refine btake 17 (oi := _) (v := undef) (by simp only [getElem?_toArray, getElem?_cons_succ, getElem?_cons_zero]; rfl) (by kernel_rfl) (by exact fun _ _ _ h => h) (by first | assumption | exact KB.refl _) (.inr ⟨by rfl, rfl⟩) ?_
     try simp only [Act.put, List.setIfInBounds_toArray, List.set_cons_zero, List.set_cons_succ]
     refine btake 18 (oi := _) (v := undef) (by simp only [getElem?_toArray, getElem?_cons_succ, getElem?_cons_zero]; rfl) (by kernel_rfl) (by exact fun _ _ _ h => h) (by first | assumption | exact KB.refl _) (.inr ⟨by rfl, rfl⟩) ?_
     try simp only [Act.put, List.setIfInBounds_toArray, List.set_cons_zero, List.set_cons_succ]
     refine btake 19 (oi := _) (v := undef) (by simp only [getElem?_toArray, getElem?_cons_succ, getElem?_cons_zero]; rfl) (by kernel_rfl) (by exact fun _ _ _ h => h) (by first | assumption | exact KB.refl _) (.inr ⟨by rfl, rfl⟩) ?_
     try simp only [Act.put, List.setIfInBounds_toArray, List.set_cons_zero, List.set_cons_succ]
     refine btake 20 (oi := _) (v := undef) (by simp only [getElem?_toArray, getElem?_cons_succ, getElem?_cons_zero]; rfl) (by kernel_rfl) (by exact fun _ _ _ h => h) (by first | assumption | exact KB.refl _) (.inr ⟨by rfl, rfl⟩) ?_
     try simp only [Act.put, List.setIfInBounds_toArray, List.set_cons_zero, List.set_cons_succ]
     refine btake 21 (oi := _) (v := ?_) (by simp only [getElem?_toArray, getElem?_cons_succ, getElem?_cons_zero]; rfl) (by kernel_rfl) (by exact fun _ _ _ h => h) (by first | assumption | exact KB.refl _) (.inl ⟨by rfl, fun W hW => ?_⟩) ?_; rotate_left
     ·(go_simp; first | done | with_reducible rfl)
     try simp only [Act.put, List.setIfInBounds_toArray, List.set_cons_zero, List.set_cons_succ]
     refine bdone (by kernel_rfl) ?_
     have hbz := B85.drew
     go_wp2_with fail
     go_roundw
     case rel => exact ⟨k + 1, by omega, by go_num, hbz⟩
     case measure => simp [intOf]; omega
   ·obtain rfl : k = 4 := by omega
    have hd1 : decide (((4 : Nat) : Int) < 4) = false := by rw [decide_eq_false_iff_not]; omega
    have hbz := HS.out.2.2.trans (hbel.mono HS.out.2.2.size)
    go_wp2_with fail
    go_ret
    exact ⟨rfl, hbz⟩
end Go.Proofs.YtaflikgdlkaefaaGreat
/- 'VectorTakes': whatever comes in, the law returns true and leaves it as it was. No condition. -/
namespace Go.Proofs.YtaflikgdlkaefaaGreat.vectorTakes
open Go.RowKit

theorem walk {H : Type} {enc : TypeId × Value → H} (W : World) (args : Array Value) (ds : List (DataW H)) (p : List MemPlace) (h : Args enc Tryz.f4 W args ds p) :
  Calls Tryz.prog 4 args W fun e W' => e = .returned (.bool true) ∧ Below W.heap.size W W' := by
 obtain ⟨base, vs, rfl, m0⟩ := h.many (ts := [41, 42, 3, 5, 5, 43]) (by rw [Tryz.params4])
 obtain ⟨v0, vs1, d0, ds1, p0, q0, rfl, rfl, o0, m1⟩ := m0.cons
 obtain ⟨v1, vs2, d1, ds2, p1, q1, rfl, rfl, o1, m2⟩ := m1.cons
 obtain ⟨v2, vs3, d2, ds3, p2, q2, rfl, rfl, o2, m3⟩ := m2.cons
 obtain ⟨v3, vs4, d3, ds4, p3, q3, rfl, rfl, o3, m4⟩ := m3.cons
 obtain ⟨v4, vs5, d4, ds5, p4, q4, rfl, rfl, o4, m5⟩ := m4.cons
 obtain ⟨v5, vs6, d5, ds6, p5, q5, rfl, rfl, o5, m6⟩ := m5.cons
 obtain ⟨rfl, rfl⟩ := m6.nil
 obtain ⟨A0, c0, l0, rfl, h0a, h0b, h0c, h0d⟩ := o0.bytes
 obtain ⟨A1, c1, l1, rfl, h1a, h1b, h1c, h1e, h1d⟩ := o1.u16s
 obtain ⟨n2, rfl, h2a⟩ := o2.i64 Tryz.underlying3
 obtain ⟨n3, rfl, h3a⟩ := o3.u8 Tryz.underlying5
 obtain ⟨n4, rfl, h4a⟩ := o4.u8 Tryz.underlying5
 obtain ⟨A5, c5, l5, rfl, h5a, h5b, h5c, h5e, h5d⟩ := o5.u64s
 exact VectorTakes_walk W A0 c0 l0 h0a h0b h0c A1 c1 l1 h1a h1e n2 h2a n3 h3a n4 h4a A5 c5 l5 h5a h5b h5c h5e

theorem types : ∀ t ∈ Tryz.f4.params.toList, Tryz.prog.readableRec t = true ∧ t < Tryz.prog.types.size := by
 rw [Tryz.params4]
 intro t ht
 simp only [List.mem_cons, List.not_mem_nil, or_false] at ht
 rcases ht with rfl | rfl | rfl | rfl | rfl | rfl
 all_goals exact ⟨by kernel_rfl, of_decide_eq_true (by kernel_rfl)⟩
theorem fits (H : Type) (ds : List (DataW H)) (hl : ds.length = Tryz.f4.params.toList.length) : Rows.vectorTakesSpec.fn H (ds ++ []) = { results := [.lit (.bool true)], args := ds } := by
 rw [Tryz.params4] at hl
 match ds, hl with
 | [d0, d1, d2, d3, d4, d5], _ => rfl

set_option maxRecDepth 100000 in
theorem over : Rows.vectorTakesRow.holds Tryz.pinned (OpenSpec.ofChange Rows.vectorTakesSpec) :=
 OpenClaim.holds_of_wide 4 Tryz.f4 rfl rfl rfl rfl rfl rfl rfl ⟨rfl, rfl, rfl, rfl, rfl⟩ rfl rfl rfl rfl rfl (by kernel_rfl) Tryz.func4 (by kernel_rfl)
  (of_decide_eq_true (by kernel_rfl)) (by unfold Func.isWrapper; first | (rw [if_pos (by decide +kernel)]; kernel_rfl) | (rw [if_neg (by decide +kernel)]; exact ⟨rfl, rfl⟩))
  (fun os started H enc _ => lifted 4 Tryz.f4 Rows.vectorTakesSpec Tryz.func4 (by kernel_rfl) rfl rfl types fits os started H enc
   (ChangeSpec.witness6 (enc := enc) (C := Tryz.checked) false ⟨#[], #[.slice none 0 0, .slice none 0 0, .int .i64 0, .int .u8 0, .int .u8 0, .slice none 0 0], []⟩ 8 (by kernel_rfl) (by kernel_rfl) (by kernel_rfl) (by kernel_rfl))
   (fun W args ds p h => walk W args ds p h))

theorem proved : Rows.VectorTakesSaid := over
end Go.Proofs.YtaflikgdlkaefaaGreat.vectorTakes
