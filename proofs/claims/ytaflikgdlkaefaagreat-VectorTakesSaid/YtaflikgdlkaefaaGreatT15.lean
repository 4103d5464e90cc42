/- Vectors: the document's Part, VecBase, VecHas, VecExtra. -/
import Derived.Laws.BitsAllLaws
import Derived.Test.YtaflikgdlkaefaaGreatT06
import Derived.Test.YtaflikgdlkaefaaGreatT07
import Derived.Test.YtaflikgdlkaefaaGreatT09
import Derived.Test.YtaflikgdlkaefaaGreatT10
import Derived.Test.YtaflikgdlkaefaaGreatT14
open List (getElem?_toArray getElem?_cons_succ getElem?_cons_zero)
namespace Go.Proofs.YtaflikgdlkaefaaGreat
open Go.RowKit Go.Maps Go.Proofs.YtaflikgdlkaefaaGreat.Pl Go.Proofs.YtaflikgdlkaefaaGreat.Sp Go.Proofs.YtaflikgdlkaefaaGreat.Ve
set_option maxRecDepth 20000

theorem look_drop {V : VL} {k : Nat} {p : Int × List Rg} (h : V[k]? = some p) (r : Int) : look (V.drop k) r = if p.1 = r then some p.2 else look (V.drop (k + 1)) r := by
 obtain ⟨hk, he⟩ := List.getElem?_eq_some_iff.1 h
 rw [List.drop_eq_getElem_cons hk, he]
 exact look_cons p _ r
set_option maxRecDepth 100000 in
set_option maxHeartbeats 3200000 in
theorem Part_any (w : World) (A : Option Addr) (n c : Nat) (R : List RA) (V : VL) (hv : VS w A n c R V) (hl : n ≤ 1000000) (r : Int) :
  Calls Tryz.prog 41 #[.agg #[.slice A n c], .int .i64 r] w (RAns w (partV V r)) := by
 go_enter Tryz.func41, Tryz.ntmps41
 have hb0 : Below w.heap.size w (w.alloc (.cells #[.slice A n c] 24)) := balloc (Below.refl _ _) _
 have x0 : (w.alloc (.cells #[.slice A n c] 24)).cell? ⟨w.heap.size, 0, none⟩ = some (.slice A n c) := by simp
 have xs : w.heap.size < (w.alloc (.cells #[.slice A n c] 24)).heap.size := by simp
 go_wp2_with fail
 generalize w.alloc (.cells #[.slice A n c] 24) = W at *
 go_loopw [5] (fun x5 wr => ∃ (k : Nat), k ≤ n ∧ x5 = .int .i64 (k : Int) ∧ look V r = look (V.drop k) r ∧ wr = W) (fun x5 _ => n - (intOf x5).toNat)
 case atStart => exact ⟨0, by omega, rfl, by simp, rfl⟩
 case round =>
  obtain ⟨k, hk, rfl, hlk, rfl⟩ := hrel
  by_cases hlt : k < n
  ·obtain ⟨q, b, o, _, hV, hq, rfl, hbW, c0, c1⟩ := hv.at_ hlt
   rw [look_drop hV] at hlk
   replace c0 := (hb0.cell hbW).trans c0
   replace c1 := (hb0.cell hbW).trans c1
   have hd1 : decide ((k : Int) < (n : Int)) = true := by rw [decide_eq_true_eq]; omega
   have hn0 : (0 : Int) ≤ (k : Int) := by omega
   have hn1 : (k : Int) < (n : Int) := by omega
   have hq2 := Lib.hid (hq.below hb0)
   obtain ⟨r', A', c', l⟩ := q
   dsimp only at *
   by_cases g : r' = r
   ·have hd2 : ((r' : Int) == r) = true := by simpa using g
    have HF := Lib.hid (show partV V r = l by rw [partV, hlk, if_pos g]; rfl)
    clear hlk g hv hq hV
    go_wp2_with fail
    go_ret
    rw [HF.out]
    exact ⟨A', c', rfl, hq2.out.1, hq2.out.2.1, hq2.out.2.2, hb0⟩
   ·have hd2 : ((r' : Int) == r) = false := by simpa using g
    rw [if_neg g] at hlk
    have HK := Lib.hid hlk
    clear hlk g hv hq hV
    go_wp2_with fail
    go_roundw
    case rel => exact ⟨k + 1, by omega, by go_num, HK.out, by first | rfl | trivial⟩
    case measure => simp [intOf]; omega
  ·obtain rfl : k = n := by omega
   have hd1 : decide ((k : Int) < (k : Int)) = false := by rw [decide_eq_false_iff_not]; omega
   have HF := Lib.hid (show partV V r = [] by rw [partV, hlk, ← hv.len, List.drop_length]; rfl)
   clear hlk hv
   go_wp2_with fail
   go_ret
   rw [HF.out]
   exact RAns.nil hb0
end Go.Proofs.YtaflikgdlkaefaaGreat
/- Vectors: the document's VecBase, VecExtra. -/
namespace Go.Proofs.YtaflikgdlkaefaaGreat
open Go.RowKit Go.Maps Go.Proofs.YtaflikgdlkaefaaGreat.Pl Go.Proofs.YtaflikgdlkaefaaGreat.Sp Go.Proofs.YtaflikgdlkaefaaGreat.Ve
set_option maxRecDepth 20000

set_option maxRecDepth 100000 in
set_option maxHeartbeats 3200000 in
theorem RVBase_any (w : World) (A : Option Addr) (n c : Nat) (R : List RA) (V : VL) (hv : VS w A n c R V) (hl : n ≤ 1000000) (hm : Lim 1000000 V) (r : Int) :
  Calls Tryz.prog 14 #[.agg #[.slice A n c], .int .i64 r] w fun e w' => e = .returned (.int .i64 (baseV V r)) ∧ Below w.heap.size w w' := by
 have hb0 : Below w.heap.size w (w.alloc (.cells #[.slice A n c] 24)) := balloc (Below.refl _ _) _
 have x0 : (w.alloc (.cells #[.slice A n c] 24)).cell? ⟨w.heap.size, 0, none⟩ = some (.slice A n c) := by simp
 have xs : w.heap.size < (w.alloc (.cells #[.slice A n c] 24)).heap.size := by simp
 have HR := Lib.hid (RVRight_any _ A n c R V (hv.below hb0) hl hm)
 obtain ⟨p, hp⟩ : ∃ p, rightV V = p := ⟨_, rfl⟩
 rw [hp] at HR
 cases p with
 | false =>
  have HF := Lib.hid (show baseV V r = 0 by rw [baseV, if_neg (by rw [hp]; simp)])
  clear hp hv hm
  go_enter Tryz.func14, Tryz.ntmps14
  go_wp2_with fail
  refine HR.out.mono ?_
  rintro e w1 ⟨rfl, h1⟩
  have hbz := hb0.trans (h1.mono hb0.size)
  go_wp2_with fail
  go_ret
  exact ⟨ret_i HF.out.symm, hbz⟩
 | true =>
  have HF := Lib.hid (show baseV V r = firstS (partV V r) by rw [baseV, if_pos hp])
  have HT := Lib.hid (fun W (hW : Below w.heap.size w W) => Part_any W A n c R V (hv.below hW) hl r)
  have HL := Lib.hid (hm.part r)
  clear hp hv hm
  go_enter Tryz.func14, Tryz.ntmps14
  go_wp2_with fail
  refine HR.out.mono ?_
  rintro e w1 ⟨rfl, h1⟩
  have hbz := hb0.trans (h1.mono hb0.size)
  have y0 := (h1.cell xs).trans x0
  clear x0 h1
  go_wp2_with fail
  refine (HT.out _ hbz).mono ?_
  rintro e w2 ⟨A', c', rfl, hs2, hn2, hc2, h2⟩
  have hbv := hbz.trans (h2.mono hbz.size)
  go_wp2_with fail
  refine (RRFirst_any w2 A' _ c' (partV V r) hs2 rfl (by have := HL.out; omega)).mono ?_
  rintro e w3 ⟨rfl, h3⟩
  have hbu := hbv.trans (h3.mono hbv.size)
  go_wp2_with fail
  go_ret
  exact ⟨ret_i HF.out.symm, hbu⟩
set_option maxRecDepth 100000 in
set_option maxHeartbeats 3200000 in
theorem RVExtra_own (w : World) (A : Option Addr) (n c : Nat) (R : List RA) (V : VL) (hv : VS w A n c R V) (hl : n ≤ 1000000) (hm : Lim 1000000 V) (r : Int) :
  Calls Tryz.prog 17 #[.agg #[.slice A n c], .int .i64 r] w fun e w' => ∃ v, e = .returned v ∧ OwnR w' w.heap.size v (extraV V r) ∧ Below w.heap.size w w' := by
 have hb0 : Below w.heap.size w (w.alloc (.cells #[.slice A n c] 24)) := balloc (Below.refl _ _) _
 have x0 : (w.alloc (.cells #[.slice A n c] 24)).cell? ⟨w.heap.size, 0, none⟩ = some (.slice A n c) := by simp
 have xs : w.heap.size < (w.alloc (.cells #[.slice A n c] 24)).heap.size := by simp
 have HR := Lib.hid (RVRight_any _ A n c R V (hv.below hb0) hl hm)
 obtain ⟨p, hp⟩ : ∃ p, rightV V = p := ⟨_, rfl⟩
 rw [hp] at HR
 cases p with
 | false =>
  have HF := Lib.hid (show extraV V r = [] by rw [extraV, if_neg (by rw [hp]; simp)])
  clear hp hv hm
  go_enter Tryz.func17, Tryz.ntmps17
  go_wp2_with fail
  refine HR.out.mono ?_
  rintro e w1 ⟨rfl, h1⟩
  have hbz := hb0.trans (h1.mono hb0.size)
  go_wp2_with fail
  go_ret
  rw [HF.out]
  exact ⟨_, rfl, OwnR.nil _ _, hbz⟩
 | true =>
  have HF := Lib.hid (show extraV V r = extraS (partV V r) by rw [extraV, if_pos hp])
  have HT := Lib.hid (fun W (hW : Below w.heap.size w W) => Part_any W A n c R V (hv.below hW) hl r)
  have HL := Lib.hid (hm.part r)
  clear hp hv hm
  go_enter Tryz.func17, Tryz.ntmps17
  go_wp2_with fail
  refine HR.out.mono ?_
  rintro e w1 ⟨rfl, h1⟩
  have hbz := hb0.trans (h1.mono hb0.size)
  have y0 := (h1.cell xs).trans x0
  clear x0 h1
  go_wp2_with fail
  refine (HT.out _ hbz).mono ?_
  rintro e w2 ⟨A', c', rfl, hs2, hn2, hc2, h2⟩
  have hbv := hbz.trans (h2.mono hbz.size)
  obtain ⟨l, hlE⟩ : ∃ l, partV V r = l := ⟨_, rfl⟩
  rw [hlE] at HF HL hs2 hn2 ⊢
  clear hlE y0 h2
  go_wp2_with fail
  refine (RRFirst_any w2 A' _ c' l hs2 rfl (by have := HL.out; omega)).mono ?_
  rintro e w3 ⟨rfl, h3⟩
  have hbu := hbv.trans (h3.mono hbv.size)
  have hs3 := (hs2.below h3).more h3.size
  have HL3 := HL.out
  clear h3 hs2
  by_cases hf : 0 < firstS l
  ·have hd1 : decide (0 < firstS l) = true := decide_eq_true hf
   have hpos : 1 ≤ l.length := by
    rcases Nat.eq_zero_or_pos l.length with h | h
    ·rw [List.eq_nil_of_length_eq_zero h] at hf
     exact absurd hf (by decide)
    ·exact h
   obtain ⟨A2, hsl, hS2⟩ := sl_postR A' l.length c' 1 hpos hn2
   have HSL := Lib.hid hsl
   have hs4 := hS2 w3 _ l rfl hs3
   have HG := Lib.hid (show extraV V r = l.drop 1 by rw [HF.out, extraS, if_pos hf])
   have hx4 : l.length - 1 = (l.drop 1).length := by rw [List.length_drop]
   have HX4 := Lib.hid hx4
   clear hf hsl hS2 hx4
   go_wp2_with (first | (refine mval rfl (exec_postR rfl rfl rfl HSL.out _) ?_) | (at_builtin; refine appR rfl rfl (OwnR.nil w3 w3.heap.size) hs4 HX4.out rfl rfl (by have := HX4.out; simp; omega) (Nat.le_refl _) ?_; intro v5 w5 hown5 hg5 hat5))
   go_ret
   rw [List.nil_append] at hown5
   have hb5 := below_of_grown hg5 (by simp [Value.ownBlock]) (Nat.le_refl _)
   rw [HG.out]
   exact ⟨_, rfl, hown5.lower hbu.size, hbu.trans (hb5.mono hbu.size)⟩
  ·have hd1 : decide (0 < firstS l) = false := decide_eq_false hf
   have HG := Lib.hid (show extraV V r = l by rw [HF.out, extraS, if_neg hf])
   clear hf
   go_wp2_with (at_builtin; refine appR rfl rfl (OwnR.nil w3 w3.heap.size) hs3 rfl rfl rfl (by simp; omega) (Nat.le_refl _) ?_; intro v5 w5 hown5 hg5 hat5)
   go_ret
   rw [List.nil_append] at hown5
   have hb5 := below_of_grown hg5 (by simp [Value.ownBlock]) (Nat.le_refl _)
   rw [HG.out]
   exact ⟨_, rfl, hown5.lower hbu.size, hbu.trans (hb5.mono hbu.size)⟩
end Go.Proofs.YtaflikgdlkaefaaGreat
/- Numbers as bytes: the document's Put. -/
namespace Go.Proofs.YtaflikgdlkaefaaGreat
open Go.RowKit Go.Proofs.YtaflikgdlkaefaaGreat.Pl
set_option maxRecDepth 20000

theorem and127_64 (u : Nat) (hu : U64 u) : bits .and .u64 (u : Int) 127 = (u : Int) % 128 := by
 have h := u64_and_nat u 127 hu.out (by omega)
 rw [nat_mask7] at h
 exact h.trans (by omega)
theorem byte_up_bv (u : Nat) : [Value.int .u8 ((u : Int) % 128 + 128)] = bv [UInt8.ofNat (u % 128 + 128)] := by
 simp only [bv, List.map, u8v, toNat_ofNat (show u % 128 + 128 < 256 by omega)]
 congr 2

def RefIn (w : World) (l : List UInt8) (x : Nat) (x5 x7 : Value) (wr : World) : Prop :=
 ∃ (k u : Nat) (pre : List UInt8), x7 = .int .u64 (u : Int) ∧ OwnB wr w.heap.size x5 (l ++ pre) ∧ pre ++ encF k u = enc x ∧ u < 128 ^ (k + 1) ∧ U64 u ∧ Below w.heap.size w wr
theorem app_below {w wr w1 : World} {x : Value} {l : List UInt8} (hb : Below w.heap.size w wr) (hown : OwnB wr w.heap.size x l) (hg : wr.grownBy w1 x.ownBlock) : Below w.heap.size w w1 := own_below hb hb.size hown hg

set_option maxRecDepth 100000 in
set_option maxHeartbeats 800000 in
theorem RefPut_any (w : World) (A A' : Option Addr) (c c' : Nat) (bs : List UInt8) (ls : List Nat) (hb : Sl w w.heap.size A (bv bs)) (hl : Sl w w.heap.size A' (uv ls)) (hu : ∀ x ∈ ls, U64 x)
  (hbound : bs.length + 10 * ls.length ≤ 140737488355328) :
  Calls Tryz.prog 26 #[.slice A bs.length c, .slice A' ls.length c'] w (Fresh w (bs ++ encs ls)) := by
 go_enter Tryz.func26, Tryz.ntmps26
 go_wp2_with (at_builtin; refine app rfl rfl (OwnB.nil w w.heap.size) hb rfl rfl rfl (by simp; omega) (Nat.le_refl _) ?_; intro s2 w2 hown2 hg2 hat2)
 have hb2 : Below w.heap.size w w2 := below_of_grown hg2 (by simp [Value.ownBlock]) (Nat.le_refl _)
 rw [List.nil_append] at hown2
 clear hat2 hg2
 go_loopw [5, 6] (fun x5 x6 wr => PutRel w bs ls x5 x6 wr) (fun _ x6 _ => ls.length - (intOf x6).toNat)
 case atStart => exact ⟨0, Nat.zero_le _, rfl, by simpa [encs] using hown2, hb2⟩
 case round =>
  obtain ⟨k, hk, rfl, hown, hbel⟩ := hrel
  have hs := hbel.size
  have hlen := encs_take_len ls k
  by_cases hlt : k < ls.length
  ·obtain ⟨b, o, rfl, hbB, hbW, hcell⟩ := (hl.below hbel).at_ (k := k) (by simpa using hlt)
   have hck := hcell k _ (uv_get ls k hlt)
   have hxu : U64 (ls[k]?.getD 0) := hu _ (by rw [List.getElem?_eq_getElem hlt]; exact List.getElem_mem hlt)
   have hsucc := encs_take_succ ls k hlt
   generalize ls[k]?.getD 0 = x at hck hxu hsucc
   have hll : (bs ++ encs (ls.take k)).length + 10 ≤ 140737488355328 := by rw [List.length_append]; omega
   have Hsucc := Lib.hid hsucc
   generalize hL : bs ++ encs (ls.take k) = l at hown hll
   have HL := Lib.hid hL.symm
   clear hL
   obtain ⟨wo, rfl⟩ : ∃ wo : World, wo = wr := ⟨_, rfl⟩
   clear hcell hl hb hsucc hlen hb2 hown2
   go_wp2_with fail
   go_loopw [5, 7] (fun x5 x7 wr => RefIn w l x x5 x7 wr) (fun _ x7 _ => (intOf x7).toNat)
   case atStart => exact ⟨9, x, [], rfl, by simpa using hown, rfl, lt_pow_of_lt hxu.out, hxu, hbel⟩
   case round =>
    obtain ⟨kk, u, pre, rfl, hown', hpre, hu', hu64, hbel'⟩ := hrel
    have Hpre := Lib.hid hpre
    have Hu := Lib.hid hu'
    clear hpre hu' hown hbel
    have hlen : (l ++ pre).length + 1 ≤ 140737488355328 := by
     have h1 := congrArg List.length Hpre.out
     have h2 := enc_len x
     have h3 := encF_len_pos kk u
     rw [List.length_append] at h1 ⊢
     omega
    have hs := hbel'.size
    have hand := and127_64 u hu64
    by_cases hge : 128 ≤ u
    ·go_wp2_with (at_builtin; refine appN rfl rfl hown' (byte_up_bv u) rfl rfl rfl hlen hs ?_; intro s1 w1 hown1 hg1 hat1)
     go_roundw
     case rel =>
      obtain ⟨kk, rfl⟩ : ∃ k', kk = k' + 1 := by
       cases kk with
       | zero => have := Hu.out; simp at this; omega
       | succ k => exact ⟨k, rfl⟩
      refine ⟨kk, u / 128, pre ++ [UInt8.ofNat (u % 128 + 128)], by go_num, by rw [← List.append_assoc]; exact hown1, ?_, div_lt_pow Hu.out, Nat.lt_of_le_of_lt (Nat.div_le_self _ _) hu64, app_below hbel' hown' hg1⟩
      rw [← Hpre.out]
      simp only [encF]
      rw [if_neg (by omega)]
      simp
     case measure => simp [intOf]; omega
    ·go_wp2_with (at_builtin; refine appN rfl rfl hown' (byte_bv' u (by omega)) rfl rfl rfl hlen hs ?_; intro s1 w1 hown1 hg1 hat1)
     go_roundw
     case rel =>
      refine ⟨k + 1, hlt, by go_num, ?_, app_below hbel' hown' hg1⟩
      rw [Hsucc.out, ← List.append_assoc, ← HL.out, ← Hpre.out]
      have e : encF kk u = [UInt8.ofNat u] := by
       cases kk with
       | zero => rfl
       | succ k => simp only [encF]; rw [if_pos (by omega)]
      rw [e, ← List.append_assoc]
      exact hown1
     case measure => simp [intOf]; omega
  ·go_wp2_with fail
   go_ret
   have hk' : ls.take k = ls := List.take_of_length_le (by omega)
   rw [hk'] at hown
   obtain ⟨A2, c2, rfl, _⟩ := hown.form
   exact ⟨A2, c2, rfl, hown, hbel⟩
end Go.Proofs.YtaflikgdlkaefaaGreat
/- Vectors: the document's VecBytes. -/
namespace Go.Proofs.YtaflikgdlkaefaaGreat
open Go.RowKit Go.Maps Go.Proofs.YtaflikgdlkaefaaGreat.Pl Go.Proofs.YtaflikgdlkaefaaGreat.Sp Go.Proofs.YtaflikgdlkaefaaGreat.Ve
set_option maxRecDepth 20000

set_option maxRecDepth 100000 in
set_option maxHeartbeats 6400000 in
theorem RVBytes_any (w : World) (A : Option Addr) (n c : Nat) (R : List RA) (V : VL) (hv : VS w A n c R V) (hl : n ≤ 1000000) (hm : Lim 10000 V) :
  Calls Tryz.prog 28 #[.agg #[.slice A n c]] w (Fresh w (bytesV V)) := by
 have hb0 : Below w.heap.size w (w.alloc (.cells #[.slice A n c] 24)) := balloc (Below.refl _ _) _
 have a0 : At (w.alloc (.cells #[.slice A n c] 24)) w.heap.size [.slice A n c] := At.new w 24 #[.slice A n c]
 have hv0 := hv.below hb0
 have x0 := a0.c 0 rfl
 clear hv
 go_enter Tryz.func28, Tryz.ntmps28
 go_wp2_with fail
 generalize w.alloc (.cells #[.slice A n c] 24) = W0 at *
 refine (RVRight_any W0 A n c R V hv0 hl (hm.mono (by omega))).mono ?_
 rintro e w1 ⟨rfl, h1⟩
 obtain ⟨p, hp⟩ : ∃ p, rightV V = p := ⟨_, rfl⟩
 rw [hp]
 cases p with
 | false =>
  have HF := Lib.hid (show bytesV V = [] by rw [bytesV, if_neg (by rw [hp]; simp)])
  have hbz := hb0.trans (h1.mono hb0.size)
  clear x0
  go_wp2_with fail
  go_ret
  exact ⟨none, 0, by rw [HF.out]; rfl, by rw [HF.out]; exact OwnB.nil _ _, hbz⟩
 | true =>
  have hn64 := (show n ≤ 64 by rw [← hv0.len]; exact right_length hp)
  have HF := Lib.hid (show bytesV V = enc V.length ++ flatV V by rw [bytesV, if_pos hp])
  have y0 := (a0.below h1).c 0 rfl
  have HV := Lib.hid (And.intro hv0 (And.intro a0 (And.intro hm (And.intro hp hb0))))
  have H1 := Lib.hid h1
  clear hv0 a0 hm hp hb0 x0 h1
  have hwn : IntKind.u64.wrap (n : Int) = (n : Int) := by rw [IntKind.wrap_u64]; omega
  have hbl := balloc (Below.refl w1.heap.size w1) (.cells #[.int .u64 (n : Int)] 45)
  have HP := Lib.hid (RefPut_any (w1.alloc (.cells #[.int .u64 (n : Int)] 45)) none (some ⟨w1.heap.size, 0, none⟩) 0 1 [] [n] (.inl rfl) (u64_sl1 w1 n) (fun x hx => by rw [List.mem_singleton.1 hx]; exact U64.mk (by omega)) (by simp))
  have HB := Lib.hid hbl
  clear hbl
  go_wp2_with fail
  refine HP.out.mono ?_
  rintro e w2 ⟨A2, c2, rfl, hown2, hb2⟩
  have hL : ([] ++ encs [n] : List UInt8) = enc V.length ++ flatV (V.take 0) := by rw [HV.out.1.len]; simp [encs, flatV]
  rw [hL] at hown2
  obtain ⟨m2, hm2⟩ : ∃ m, ([] ++ encs [n] : List UInt8).length = m := ⟨_, rfl⟩
  rw [hm2]
  rw [show (enc V.length ++ flatV (V.take 0)).length = m2 by rw [← hL, hm2]] at hown2
  clear hm2
  have hby := (H1.out.trans (HB.out.mono H1.out.size)).trans (hb2.mono (Nat.le_trans H1.out.size HB.out.size))
  have hown0 := hown2.base_le (base' := W0.heap.size) (Nat.le_trans H1.out.size HB.out.size)
  have HI := Lib.hid (And.intro hown0 hby)
  clear hby hown0 hown2 hb2 hL HP HB y0
  go_wp2_with fail
  go_loopw [3, 4] (fun x3 x4 wr => ∃ (k : Nat), k ≤ n ∧ x4 = .int .i64 (k : Int) ∧ OwnB wr W0.heap.size x3 (enc V.length ++ flatV (V.take k)) ∧ Below W0.heap.size W0 wr) (fun _ x4 _ => n - (intOf x4).toNat)
  case atStart => exact ⟨0, by omega, rfl, HI.out.1, HI.out.2⟩
  case round =>
   clear HI
   obtain ⟨k, hk, rfl, hown, hbel⟩ := hrel
   have hab := HV.out.2.1.below hbel
   have z0 := hab.c 0 rfl
   by_cases hlt : k < n
   ·have hvr := HV.out.1.below hbel
    obtain ⟨q, b, o, _, hV, hq, rfl, hbW, c0, c1⟩ := hvr.at_ hlt
    have hqa := okV_lt HV.out.2.2.2.1 _ (List.mem_of_getElem? hV)
    have hql : q.l.length ≤ 10000 := HV.out.2.2.1 _ (List.mem_of_getElem? hV)
    have hst := flatV_step hV
    have hpt := part_at hV (okV_up HV.out.2.2.2.1).rise
    have hd1 : decide ((k : Int) < (n : Int)) = true := by rw [decide_eq_true_eq]; omega
    have hn0 : (0 : Int) ≤ (k : Int) := by omega
    have hn1 : (k : Int) < (n : Int) := by omega
    obtain ⟨r, Aq, cq, l⟩ := q
    dsimp only at *
    obtain ⟨rn, rfl⟩ : ∃ rn : Nat, r = (rn : Int) := ⟨r.toNat, by omega⟩
    have hr64 : rn < 64 := by omega
    obtain ⟨fa, fb, fc, fd⟩ := first_extra hqa.2.2.2
    unfold mx at fb
    have hel : (extraS l).length ≤ 10000 := by
     have := congrArg List.length fd
     rw [List.length_append] at this
     omega
    have hflat := flatV_len (m := 10000) (V := V.take k) (fun p hp => HV.out.2.2.1 p (List.mem_of_mem_take hp))
    have hbv : baseV V (rn : Int) = firstS l := by rw [baseV, if_pos HV.out.2.2.2.1, hpt]
    have hev : extraV V (rn : Int) = extraS l := by rw [extraV, if_pos HV.out.2.2.2.1, hpt]
    obtain ⟨fe, hfe⟩ : ∃ fe : Nat, firstS l = (fe : Int) := ⟨(firstS l).toNat, by omega⟩
    obtain ⟨ls, hls⟩ : ∃ x, extraS l = x := ⟨_, rfl⟩
    obtain ⟨ne, hne⟩ : ∃ m, ls.length = m := ⟨_, rfl⟩
    have hrow : rowN l = [fe, ne] ++ gapsN (fe : Int) ls := by
     rw [rowN, hfe, hls, hne]
     simp
    have hfin : flatV (V.take (k + 1)) = flatV (V.take k) ++ (UInt8.ofNat rn :: encs ([fe, ne] ++ gapsN (fe : Int) ls)) := by
     rw [hst, rowB]
     dsimp only
     rw [Int.toNat_natCast, hrow]
    rw [hls, hne] at hel
    rw [hfe] at hbv fb fc
    rw [hls] at hev fc
    have hlb : (enc V.length ++ flatV (V.take k)).length ≤ 13000000 := by
     have h2 := enc_len V.length
     have h3 : (V.take k).length * (20 * 10000 + 21) ≤ 64 * (20 * 10000 + 21) := Nat.mul_le_mul_right _ (by rw [List.length_take]; omega)
     rw [List.length_append]
     omega
    have HX := Lib.hid (And.intro hown (And.intro hvr (And.intro hab (And.intro hbel (And.intro hlb (And.intro hfin (And.intro fc (And.intro hbv (And.intro hev hne)))))))))
    clear hst hpt hqa hql fa fd hflat hbv hev hfe hls hrow hfin fc hlb hq hV
    go_wp2_with fail
    have e0 := HX.out.2.2.1.e 0 rfl
    have hb0 : Below wr.heap.size wr wr.drew := (Below.refl _ wr).drew
    clear z0 c0 c1 hab hvr hown
    refine bstartH (wr.heap) (by kernel_rfl) ?_
    refine btake 0 (oi := _) (v := ?_) (by simp only [List.getElem?_toArray, List.getElem?_cons_zero]; rfl) (by kernel_rfl) (by exact fun _ _ _ h => h) (by first | assumption | exact KB.refl _) (.inl ⟨by rfl, fun W hW => ?_⟩) ?_; rotate_left
    ·(go_simp; first | done | with_reducible rfl)
    try simp only [Act.put, List.setIfInBounds_toArray, List.set_cons_zero, List.set_cons_succ]
    refine btake 1 (oi := _) (v := ?_) (by simp only [getElem?_toArray, getElem?_cons_succ, getElem?_cons_zero]; rfl) (by kernel_rfl) (by exact fun _ _ _ h => h) (by first | assumption | exact KB.refl _) (.inl ⟨by rfl, fun W hW => ?_⟩) ?_; rotate_left
    ·(go_simp; first | done | with_reducible rfl)
    try simp only [Act.put, List.setIfInBounds_toArray, List.set_cons_zero, List.set_cons_succ]
    refine btake 3 (oi := _) (v := ?_) (by simp only [getElem?_toArray, getElem?_cons_succ, getElem?_cons_zero]; rfl) (by kernel_rfl) (by exact fun _ _ _ h => h) (by first | assumption | exact KB.refl _) (.inl ⟨by rfl, fun W hW => ?_⟩) ?_; rotate_left
    ·(go_simp; first | done | with_reducible rfl)
    try simp only [Act.put, List.setIfInBounds_toArray, List.set_cons_zero, List.set_cons_succ]
    refine btake 4 (oi := _) (v := ?_) (by simp only [getElem?_toArray, getElem?_cons_succ, getElem?_cons_zero]; rfl) (by kernel_rfl) (by exact fun _ _ _ h => h) (by first | assumption | exact KB.refl _) (.inl ⟨by rfl, fun W hW => ?_⟩) ?_; rotate_left
    ·(go_simp; first | done | with_reducible rfl)
    try simp only [Act.put, List.setIfInBounds_toArray, List.set_cons_zero, List.set_cons_succ]
    refine bopH 2 (o := _) (by simp only [getElem?_toArray, getElem?_cons_succ, getElem?_cons_zero]; rfl) (by kernel_rfl) (by first | assumption | exact KB.refl _) (by rfl) (fun K hK => ?_)
    go_simp
    refine (RVBase_any wr.drew (some ⟨b, o, none⟩) n c R V (HX.out.2.1.below hb0) (by omega) (HV.out.2.2.1.mono (by omega)) (rn : Int)).mono ?_
    rintro e u2 ⟨rfl, h2⟩
    rw [HX.out.2.2.2.2.2.2.2.1]
    have B2 := Lib.hid (hb0.trans (h2.mono hb0.size))
    have hkb : KB wr.heap u2 := KB.of B2.out
    clear h2
    refine hK.out _ _ hkb ?_; clear hK K
    try simp only [Act.put, List.setIfInBounds_toArray, List.set_cons_zero, List.set_cons_succ]
    refine bopH 5 (o := _) (by simp only [getElem?_toArray, getElem?_cons_succ, getElem?_cons_zero]; rfl) (by kernel_rfl) (by first | assumption | exact KB.refl _) (by rfl) (fun K hK => ?_)
    go_simp
    refine (RVExtra_own u2 (some ⟨b, o, none⟩) n c R V (HX.out.2.1.below B2.out) (by omega) (HV.out.2.2.1.mono (by omega)) (rn : Int)).mono ?_
    rintro e u5 ⟨v5, rfl, ho5, h5⟩
    rw [HX.out.2.2.2.2.2.2.2.2.1] at ho5
    obtain ⟨A7, c7, e7, f7⟩ := ho5.form
    rw [HX.out.2.2.2.2.2.2.2.2.2] at e7
    subst e7
    have B5 := Lib.hid (B2.out.trans (h5.mono B2.out.size))
    have hkb : KB wr.heap u5 := KB.of B5.out
    have S5 := Lib.hid (ho5.lower (base' := wr.heap.size) B2.out.size)
    clear h5 ho5 f7
    refine hK.out _ _ hkb ?_; clear hK K
    try simp only [Act.put, List.setIfInBounds_toArray, List.set_cons_zero, List.set_cons_succ]
    refine btake 6 (oi := _) (v := ?_) (by simp only [getElem?_toArray, getElem?_cons_succ, getElem?_cons_zero]; rfl) (by kernel_rfl) (by exact fun _ _ _ h => h) (by first | assumption | exact KB.refl _) (.inl ⟨by rfl, fun W hW => ?_⟩) ?_; rotate_left
    ·(go_simp; first | done | with_reducible rfl)
    try simp only [Act.put, List.setIfInBounds_toArray, List.set_cons_zero, List.set_cons_succ]
    refine btake 7 (oi := _) (v := ?_) (by simp only [getElem?_toArray, getElem?_cons_succ, getElem?_cons_zero]; rfl) (by kernel_rfl) (by exact fun _ _ _ h => h) (by first | assumption | exact KB.refl _) (.inl ⟨by rfl, fun W hW => ?_⟩) ?_; rotate_left
    ·(go_simp; first | done | with_reducible rfl)
    try simp only [Act.put, List.setIfInBounds_toArray, List.set_cons_zero, List.set_cons_succ]
    refine bdone (by kernel_rfl) ?_
    clear hkb hb0 e0
    have hw8 : IntKind.u8.wrap (rn : Int) = (rn : Int) := by rw [IntKind.wrap_u8]; omega
    have hw1 : IntKind.u64.wrap (fe : Int) = (fe : Int) := by rw [IntKind.wrap_u64]; omega
    have hw2 : IntKind.u64.wrap (ne : Int) = (ne : Int) := by rw [IntKind.wrap_u64]; omega
    have hww : W0.heap.size ≤ u5.heap.size := Nat.le_trans HX.out.2.2.2.1.size B5.out.size
    have HJ := Lib.hid (HX.out.1.below B5.out)
    go_wp2_with (at_builtin; refine appN rfl rfl HJ.out (one_bv rn (by omega)) rfl rfl rfl (by have := HX.out.2.2.2.2.1; simp; simp at this; omega) hww ?_; intro v9 w9 hown9 hg9 hat9; obtain ⟨A9, c9, e9, f9, g9, h9, _⟩ := hown9.form; obtain ⟨n9, hn9⟩ : ∃ m, (enc V.length ++ flatV (V.take k) ++ [UInt8.ofNat rn]).length = m := ⟨_, rfl⟩; rw [hn9] at e9; subst e9; have H9 := Lib.hid (And.intro hown9 (And.intro hg9 (And.intro h9 hn9))); clear hown9 hg9 hat9 f9 g9 h9 hn9)
    have hbl9 := balloc (Below.refl w9.heap.size w9) (.cells #[.int .u64 (fe : Int), .int .u64 (ne : Int)] 45)
    have hb59 : Below W0.heap.size W0 w9 := own_below (HX.out.2.2.2.1.trans (B5.out.mono HX.out.2.2.2.1.size)) hww HJ.out H9.out.2.1
    have hS9 : OwnR w9 wr.heap.size (.slice A7 ne c7) ls := World.ownsRow.kept S5.out H9.out.2.1 (by
     cases hz : (Value.slice A7 ne c7).ownBlock with
     | none => exact .inl rfl
     | some z =>
      refine .inr fun e => ?_
      have k1 := (World.ownsRow.lt S5.out z hz).1
      have k2 := (World.ownsRow.lt HX.out.1 z e.symm).2
      omega)
    have hU : ∀ x ∈ [fe, ne], U64 x := fun x hx => by
     rcases List.mem_cons.1 hx with rfl | hx
     ·exact U64.mk (by omega)
     ·rw [List.mem_singleton.1 hx]; exact U64.mk (by omega)
    have hPut := RefPut_any (w9.alloc (.cells #[.int .u64 (fe : Int), .int .u64 (ne : Int)] 45)) A9 (some ⟨w9.heap.size, 0, none⟩) c9 2 (enc V.length ++ flatV (V.take k) ++ [UInt8.ofNat rn]) [fe, ne] ((H9.out.2.2.1.below hbl9).more hbl9.size) (by rw [← EU_dv]; exact u64_sl2 w9 fe ne) hU (by have := HX.out.2.2.2.2.1; rw [List.length_append, List.length_singleton]; simp only [List.length_cons, List.length_nil]; omega)
    rw [H9.out.2.2.2] at hPut
    have HPut := Lib.hid hPut
    have hfo : ∃ A c, (Value.slice A7 ne c7) = .slice A ls.length c ∧ ls.length ≤ c ∧ c ≤ maxLen ∧ Sl w9 w9.heap.size A (rv ls) := by
     obtain ⟨A, c, e, h1, h2, h3, _⟩ := hS9.form
     exact ⟨A, c, e, h1, h2, h3⟩
    have H10 := Lib.hid (And.intro hbl9 (And.intro hb59 hfo))
    clear hbl9 hb59 hS9 hU hPut hfo
    refine HPut.out.mono ?_
    rintro e w10 ⟨A10, c10, rfl, hown10, hb10⟩
    have hsl : Sl w10 w10.heap.size A7 (rv ls) := by
     obtain ⟨A, c, e, _, _, h3⟩ := H10.out.2.2
     injection e with e1 e2 e3
     subst e1
     exact (((h3.below H10.out.1).more H10.out.1.size).below hb10).more hb10.size
    have hP0 : OwnB w10 W0.heap.size (.slice A10 (enc V.length ++ flatV (V.take k) ++ [UInt8.ofNat rn] ++ encs [fe, ne]).length c10) (enc V.length ++ flatV (V.take k) ++ [UInt8.ofNat rn] ++ encs ([fe, ne] ++ gapsN (fe : Int) (ls.take 0))) := by
     rw [List.take_zero, show [fe, ne] ++ gapsN (fe : Int) [] = [fe, ne] from rfl]
     exact hown10.base_le (Nat.le_trans H10.out.2.1.size H10.out.1.size)
    have hbw : Below W0.heap.size W0 w10 := H10.out.2.1.trans ((H10.out.1.trans (hb10.mono H10.out.1.size)).mono H10.out.2.1.size)
    have HT := Lib.hid (And.intro hsl (And.intro hP0 hbw))
    obtain ⟨n10, hn10⟩ : ∃ m, (enc V.length ++ flatV (V.take k) ++ [UInt8.ofNat rn] ++ encs [fe, ne]).length = m := ⟨_, rfl⟩
    rw [hn10] at HT ⊢
    obtain ⟨P0, hP⟩ : ∃ P0, enc V.length ++ flatV (V.take k) ++ [UInt8.ofNat rn] = P0 := ⟨_, rfl⟩
    have hPl : P0.length ≤ 13000001 := by have := HX.out.2.2.2.2.1; rw [← hP, List.length_append, List.length_singleton]; omega
    have hPf : P0 ++ encs ([fe, ne] ++ gapsN (fe : Int) ls) = enc V.length ++ flatV (V.take (k + 1)) := by
     rw [HX.out.2.2.2.2.2.1, ← hP]
     simp
    rw [hP] at HT
    have HQ := Lib.hid (And.intro hPl hPf)
    have hokr := HX.out.2.2.2.2.2.2.1
    have hnel := HX.out.2.2.2.2.2.2.2.2.2
    have HO := Lib.hid (And.intro hokr hnel)
    clear hsl hP0 hbw hn10 hP hPl hPf hown10 hb10 HPut H10 H9 HJ HX hokr hnel S5 B5 hbel
    obtain ⟨wq, rfl⟩ : ∃ wq : World, wq = wr := ⟨_, rfl⟩
    go_wp2_with fail
    go_loopw [3, 6, 8] (fun x3 x6 x8 wr => ∃ (j : Nat) (en : Int), j ≤ ne ∧ x8 = .int .i64 (j : Int) ∧ x6 = .int .i64 en ∧ en = endG (fe : Int) (ls.take j) ∧ OwnB wr W0.heap.size x3 (P0 ++ encs ([fe, ne] ++ gapsN (fe : Int) (ls.take j))) ∧ Below W0.heap.size W0 wr ∧ Sl wr wr.heap.size A7 (rv ls)) (fun _ _ x8 _ => ne - (intOf x8).toNat)
    case atStart => exact ⟨0, (fe : Int), by omega, rfl, rfl, rfl, HT.out.2.1, HT.out.2.2, HT.out.1⟩
    case round =>
     obtain ⟨j, en, hj, rfl, rfl, hen, hno, hbj, hsj⟩ := hrel
     by_cases hjl : j < ne
     ·have hjs : j < ls.length := by rw [HO.out.2]; exact hjl
      obtain ⟨b2, o2, rfl, hb2B, hb2W, g0, g1⟩ := rgAt hsj hjs
      have hx : ls[j]? = some (ls[j]?.getD ⟨0, 0⟩) := by rw [List.getElem?_eq_getElem hjs]; rfl
      generalize ls[j]?.getD ⟨0, 0⟩ = x at *
      obtain ⟨t1, t2, t3, t4⟩ := okR_at HO.out.1 (by omega) hx
      rw [← hen] at t1 t2
      have hgs := gaps_step hx (fe : Int)
      have hes := endG_step hx (fe : Int)
      rw [← hen] at hgs
      obtain ⟨ga, hga⟩ : ∃ ga : Nat, x.a - en - 2 = (ga : Int) := ⟨(x.a - en - 2).toNat, by omega⟩
      obtain ⟨gb, hgb⟩ : ∃ gb : Nat, x.b - x.a = (gb : Int) := ⟨(x.b - x.a).toNat, by omega⟩
      rw [hga, hgb, Int.toNat_natCast, Int.toNat_natCast] at hgs
      have hd2 : decide ((j : Int) < (ne : Int)) = true := by rw [decide_eq_true_eq]; omega
      have hj0 : (0 : Int) ≤ (j : Int) := by omega
      have hj1 : (j : Int) < (ne : Int) := by omega
      have v1 : IntKind.i64.wrap (x.a - en) = x.a - en := by rw [IntKind.wrap_i64]; omega
      have v2 : IntKind.i64.wrap (x.a - en - 2) = (ga : Int) := by rw [IntKind.wrap_i64]; omega
      have v3 : IntKind.i64.wrap (x.b - x.a) = (gb : Int) := by rw [IntKind.wrap_i64]; omega
      have v4 : IntKind.u64.wrap (ga : Int) = (ga : Int) := by rw [IntKind.wrap_u64]; omega
      have v5 : IntKind.u64.wrap (gb : Int) = (gb : Int) := by rw [IntKind.wrap_u64]; omega
      have hga64 : ga < 18446744073709551616 := by omega
      have hgb64 : gb < 18446744073709551616 := by omega
      obtain ⟨A3, c3, rfl, _, _, hs3, _⟩ := hno.form
      have hgl : (gapsN (fe : Int) (ls.take j)).length ≤ 20000 := by rw [gapsN_len, List.length_take]; omega
      obtain ⟨O, hO⟩ : ∃ O, P0 ++ encs ([fe, ne] ++ gapsN (fe : Int) (ls.take j)) = O := ⟨_, rfl⟩
      have hOl : O.length ≤ 14000000 := by
       have h1 := encs_len ([fe, ne] ++ gapsN (fe : Int) (ls.take j))
       have h2 := HQ.out.1
       rw [← hO, List.length_append]
       simp only [List.length_append, List.length_cons, List.length_nil] at h1
       omega
      have hOn : O ++ encs [ga, gb] = P0 ++ encs ([fe, ne] ++ gapsN (fe : Int) (ls.take (j + 1))) := by
       rw [hgs, ← hO, List.append_assoc, ← encs_append, List.append_assoc]
      rw [hO] at hs3 ⊢
      have HJ := Lib.hid (And.intro hs3 (And.intro hOl (And.intro hOn (And.intro hbj (And.intro hsj hes)))))
      clear hno hs3 hgs hes hbj hsj hen hx t1 t2 hga hgb hgl hO hOl hOn hb2B
      obtain ⟨m3, hm3⟩ : ∃ m, O.length = m := ⟨_, rfl⟩
      rw [hm3]
      go_wp2_with fail
      have e0 := cellB g0
      have e1 := cellB g1
      have hb0 : Below wr.heap.size wr wr.drew := (Below.refl _ wr).drew
      refine bstartH (wr.heap) (by kernel_rfl) ?_
      refine btake 0 (oi := _) (v := ?_) (by simp only [List.getElem?_toArray, List.getElem?_cons_zero]; rfl) (by kernel_rfl) (by exact fun _ _ _ h => h) (by first | assumption | exact KB.refl _) (.inl ⟨by rfl, fun W hW => ?_⟩) ?_; rotate_left
      ·(go_simp; first | done | with_reducible rfl)
      try simp only [Act.put, List.setIfInBounds_toArray, List.set_cons_zero, List.set_cons_succ]
      refine btake 1 (oi := _) (v := ?_) (by simp only [getElem?_toArray, getElem?_cons_succ, getElem?_cons_zero]; rfl) (by kernel_rfl) (by exact fun _ _ _ h => h) (by first | assumption | exact KB.refl _) (.inl ⟨by rfl, fun W hW => ?_⟩) ?_; rotate_left
      ·(go_simp; first | done | with_reducible rfl)
      try simp only [Act.put, List.setIfInBounds_toArray, List.set_cons_zero, List.set_cons_succ]
      refine btake 2 (oi := _) (v := ?_) (by simp only [getElem?_toArray, getElem?_cons_succ, getElem?_cons_zero]; rfl) (by kernel_rfl) (by exact fun _ _ _ h => h) (by first | assumption | exact KB.refl _) (.inl ⟨by rfl, fun W hW => ?_⟩) ?_; rotate_left
      ·(go_simp; first | done | with_reducible rfl)
      try simp only [Act.put, List.setIfInBounds_toArray, List.set_cons_zero, List.set_cons_succ]
      refine btake 3 (oi := _) (v := ?_) (by simp only [getElem?_toArray, getElem?_cons_succ, getElem?_cons_zero]; rfl) (by kernel_rfl) (by exact fun _ _ _ h => h) (by first | assumption | exact KB.refl _) (.inl ⟨by rfl, fun W hW => ?_⟩) ?_; rotate_left
      ·(go_simp; first | done | with_reducible rfl)
      try simp only [Act.put, List.setIfInBounds_toArray, List.set_cons_zero, List.set_cons_succ]
      refine btake 4 (oi := _) (v := ?_) (by simp only [getElem?_toArray, getElem?_cons_succ, getElem?_cons_zero]; rfl) (by kernel_rfl) (by exact fun _ _ _ h => h) (by first | assumption | exact KB.refl _) (.inl ⟨by rfl, fun W hW => ?_⟩) ?_; rotate_left
      ·(go_simp; first | done | with_reducible rfl)
      try simp only [Act.put, List.setIfInBounds_toArray, List.set_cons_zero, List.set_cons_succ]
      refine btake 5 (oi := _) (v := ?_) (by simp only [getElem?_toArray, getElem?_cons_succ, getElem?_cons_zero]; rfl) (by kernel_rfl) (by exact fun _ _ _ h => h) (by first | assumption | exact KB.refl _) (.inl ⟨by rfl, fun W hW => ?_⟩) ?_; rotate_left
      ·(go_simp; first | done | with_reducible rfl)
      try simp only [Act.put, List.setIfInBounds_toArray, List.set_cons_zero, List.set_cons_succ]
      refine btake 6 (oi := _) (v := ?_) (by simp only [getElem?_toArray, getElem?_cons_succ, getElem?_cons_zero]; rfl) (by kernel_rfl) (by exact fun _ _ _ h => h) (by first | assumption | exact KB.refl _) (.inl ⟨by rfl, fun W hW => ?_⟩) ?_; rotate_left
      ·(go_simp; first | done | with_reducible rfl)
      try simp only [Act.put, List.setIfInBounds_toArray, List.set_cons_zero, List.set_cons_succ]
      refine btake 7 (oi := _) (v := ?_) (by simp only [getElem?_toArray, getElem?_cons_succ, getElem?_cons_zero]; rfl) (by kernel_rfl) (by exact fun _ _ _ h => h) (by first | assumption | exact KB.refl _) (.inl ⟨by rfl, fun W hW => ?_⟩) ?_; rotate_left
      ·(go_simp; first | done | with_reducible rfl)
      try simp only [Act.put, List.setIfInBounds_toArray, List.set_cons_zero, List.set_cons_succ]
      refine btake 8 (oi := _) (v := ?_) (by simp only [getElem?_toArray, getElem?_cons_succ, getElem?_cons_zero]; rfl) (by kernel_rfl) (by exact fun _ _ _ h => h) (by first | assumption | exact KB.refl _) (.inl ⟨by rfl, fun W hW => ?_⟩) ?_; rotate_left
      ·(go_simp; first | done | with_reducible rfl)
      try simp only [Act.put, List.setIfInBounds_toArray, List.set_cons_zero, List.set_cons_succ]
      refine btake 9 (oi := _) (v := ?_) (by simp only [getElem?_toArray, getElem?_cons_succ, getElem?_cons_zero]; rfl) (by kernel_rfl) (by exact fun _ _ _ h => h) (by first | assumption | exact KB.refl _) (.inl ⟨by rfl, fun W hW => ?_⟩) ?_; rotate_left
      ·(go_simp; first | done | with_reducible rfl)
      try simp only [Act.put, List.setIfInBounds_toArray, List.set_cons_zero, List.set_cons_succ]
      refine btake 10 (oi := _) (v := ?_) (by simp only [getElem?_toArray, getElem?_cons_succ, getElem?_cons_zero]; rfl) (by kernel_rfl) (by exact fun _ _ _ h => h) (by first | assumption | exact KB.refl _) (.inl ⟨by rfl, fun W hW => ?_⟩) ?_; rotate_left
      ·(go_simp; first | done | with_reducible rfl)
      try simp only [Act.put, List.setIfInBounds_toArray, List.set_cons_zero, List.set_cons_succ]
      refine btake 11 (oi := _) (v := ?_) (by simp only [getElem?_toArray, getElem?_cons_succ, getElem?_cons_zero]; rfl) (by kernel_rfl) (by exact fun _ _ _ h => h) (by first | assumption | exact KB.refl _) (.inl ⟨by rfl, fun W hW => ?_⟩) ?_; rotate_left
      ·(go_simp; first | done | with_reducible rfl)
      try simp only [Act.put, List.setIfInBounds_toArray, List.set_cons_zero, List.set_cons_succ]
      refine btake 12 (oi := _) (v := ?_) (by simp only [getElem?_toArray, getElem?_cons_succ, getElem?_cons_zero]; rfl) (by kernel_rfl) (by exact fun _ _ _ h => h) (by first | assumption | exact KB.refl _) (.inl ⟨by rfl, fun W hW => ?_⟩) ?_; rotate_left
      ·(go_simp; first | done | with_reducible rfl)
      try simp only [Act.put, List.setIfInBounds_toArray, List.set_cons_zero, List.set_cons_succ]
      refine btake 13 (oi := _) (v := ?_) (by simp only [getElem?_toArray, getElem?_cons_succ, getElem?_cons_zero]; rfl) (by kernel_rfl) (by exact fun _ _ _ h => h) (by first | assumption | exact KB.refl _) (.inl ⟨by rfl, fun W hW => ?_⟩) ?_; rotate_left
      ·(go_simp; first | done | with_reducible rfl)
      try simp only [Act.put, List.setIfInBounds_toArray, List.set_cons_zero, List.set_cons_succ]
      refine btake 14 (oi := _) (v := ?_) (by simp only [getElem?_toArray, getElem?_cons_succ, getElem?_cons_zero]; rfl) (by kernel_rfl) (by exact fun _ _ _ h => h) (by first | assumption | exact KB.refl _) (.inl ⟨by rfl, fun W hW => ?_⟩) ?_; rotate_left
      ·(go_simp; first | done | with_reducible rfl)
      try simp only [Act.put, List.setIfInBounds_toArray, List.set_cons_zero, List.set_cons_succ]
      refine btake 15 (oi := _) (v := ?_) (by simp only [getElem?_toArray, getElem?_cons_succ, getElem?_cons_zero]; rfl) (by kernel_rfl) (by exact fun _ _ _ h => h) (by first | assumption | exact KB.refl _) (.inl ⟨by rfl, fun W hW => ?_⟩) ?_; rotate_left
      ·(go_simp; first | done | with_reducible rfl)
      try simp only [Act.put, List.setIfInBounds_toArray, List.set_cons_zero, List.set_cons_succ]
      refine btake 16 (oi := _) (v := ?_) (by simp only [getElem?_toArray, getElem?_cons_succ, getElem?_cons_zero]; rfl) (by kernel_rfl) (by exact fun _ _ _ h => h) (by first | assumption | exact KB.refl _) (.inl ⟨by rfl, fun W hW => ?_⟩) ?_; rotate_left
      ·(go_simp; first | done | with_reducible rfl)
      try simp only [Act.put, List.setIfInBounds_toArray, List.set_cons_zero, List.set_cons_succ]
      refine btake 17 (oi := _) (v := ?_) (by simp only [getElem?_toArray, getElem?_cons_succ, getElem?_cons_zero]; rfl) (by kernel_rfl) (by exact fun _ _ _ h => h) (by first | assumption | exact KB.refl _) (.inl ⟨by rfl, fun W hW => ?_⟩) ?_; rotate_left
      ·(go_simp; first | done | with_reducible rfl)
      try simp only [Act.put, List.setIfInBounds_toArray, List.set_cons_zero, List.set_cons_succ]
      refine btake 18 (oi := _) (v := ?_) (by simp only [getElem?_toArray, getElem?_cons_succ, getElem?_cons_zero]; rfl) (by kernel_rfl) (by exact fun _ _ _ h => h) (by first | assumption | exact KB.refl _) (.inl ⟨by rfl, fun W hW => ?_⟩) ?_; rotate_left
      ·(go_simp; first | done | with_reducible rfl)
      try simp only [Act.put, List.setIfInBounds_toArray, List.set_cons_zero, List.set_cons_succ]
      refine btake 19 (oi := _) (v := ?_) (by simp only [getElem?_toArray, getElem?_cons_succ, getElem?_cons_zero]; rfl) (by kernel_rfl) (by exact fun _ _ _ h => h) (by first | assumption | exact KB.refl _) (.inl ⟨by rfl, fun W hW => ?_⟩) ?_; rotate_left
      ·(go_simp; first | done | with_reducible rfl)
      try simp only [Act.put, List.setIfInBounds_toArray, List.set_cons_zero, List.set_cons_succ]
      refine btake 20 (oi := _) (v := ?_) (by simp only [getElem?_toArray, getElem?_cons_succ, getElem?_cons_zero]; rfl) (by kernel_rfl) (by exact fun _ _ _ h => h) (by first | assumption | exact KB.refl _) (.inl ⟨by rfl, fun W hW => ?_⟩) ?_; rotate_left
      ·(go_simp; first | done | with_reducible rfl)
      try simp only [Act.put, List.setIfInBounds_toArray, List.set_cons_zero, List.set_cons_succ]
      refine btake 21 (oi := _) (v := ?_) (by simp only [getElem?_toArray, getElem?_cons_succ, getElem?_cons_zero]; rfl) (by kernel_rfl) (by exact fun _ _ _ h => h) (by first | assumption | exact KB.refl _) (.inl ⟨by rfl, fun W hW => ?_⟩) ?_; rotate_left
      ·(go_simp; first | done | with_reducible rfl)
      try simp only [Act.put, List.setIfInBounds_toArray, List.set_cons_zero, List.set_cons_succ]
      refine bopH 22 (o := _) (by simp only [getElem?_toArray, getElem?_cons_succ, getElem?_cons_zero]; rfl) (by kernel_rfl) (by first | assumption | exact KB.refl _) (by rfl) (fun K hK => ?_)
      go_simp
      have hbA : Below wr.heap.size wr (wr.alloc (.cells #[.int .u64 (ga : Int), .int .u64 (gb : Int)] 45)).drew := (balloc (Below.refl wr.heap.size wr) (.cells #[.int .u64 (ga : Int), .int .u64 (gb : Int)] 45)).drew
      have hkb : KB wr.heap (wr.alloc (.cells #[.int .u64 (ga : Int), .int .u64 (gb : Int)] 45)).drew := KB.of hbA
      have hsA := u64_sl2 wr ga gb
      rw [EU_dv] at hsA
      have hU2 : ∀ x ∈ [ga, gb], U64 x := fun x hx => by
       rcases List.mem_cons.1 hx with rfl | hx
       ·exact U64.mk hga64
       ·rw [List.mem_singleton.1 hx]; exact U64.mk hgb64
      have hPut := RefPut_any (wr.alloc (.cells #[.int .u64 (ga : Int), .int .u64 (gb : Int)] 45)).drew A3 (some ⟨wr.heap.size, 0, none⟩) c3 2 O [ga, gb] ((HJ.out.1.below hbA).more hbA.size) hsA hU2 (by have := HJ.out.2.1; simp only [List.length_cons, List.length_nil]; omega)
      rw [hm3] at hPut
      have HPut := Lib.hid (And.intro hbA hPut)
      clear hbA hsA hU2 hPut
      refine hK.out _ _ hkb ?_; clear hK K
      try simp only [Act.put, List.setIfInBounds_toArray, List.set_cons_zero, List.set_cons_succ]
      refine bopH 23 (o := _) (by simp only [getElem?_toArray, getElem?_cons_succ, getElem?_cons_zero]; rfl) (by kernel_rfl) (by first | assumption | exact KB.refl _) (by rfl) (fun K hK => ?_)
      go_simp
      refine HPut.out.2.mono ?_
      rintro e u4 ⟨A4, c4, rfl, hown4, hb4⟩
      have Bz := Lib.hid (HPut.out.1.trans (hb4.mono HPut.out.1.size))
      have hkb : KB wr.heap u4 := KB.of Bz.out
      rw [HJ.out.2.2.1] at hown4
      have HK := Lib.hid (hown4.base_le (base' := W0.heap.size) (Nat.le_trans HJ.out.2.2.2.1.size HPut.out.1.size))
      have hlen : (O ++ encs [ga, gb]).length = (P0 ++ encs ([fe, ne] ++ gapsN (fe : Int) (ls.take (j + 1)))).length := by rw [HJ.out.2.2.1]
      rw [hlen]
      clear hown4 hb4 hlen
      generalize (P0 ++ encs ([fe, ne] ++ gapsN (fe : Int) (ls.take (j + 1)))).length = m4 at *
      refine hK.out _ _ hkb ?_; clear hK K
      try simp only [Act.put, List.setIfInBounds_toArray, List.set_cons_zero, List.set_cons_succ]
      refine btake 24 (oi := _) (v := ?_) (by simp only [getElem?_toArray, getElem?_cons_succ, getElem?_cons_zero]; rfl) (by kernel_rfl) (by exact fun _ _ _ h => h) (by first | assumption | exact KB.refl _) (.inl ⟨by rfl, fun W hW => ?_⟩) ?_; rotate_left
      ·(go_simp; first | done | with_reducible rfl)
      try simp only [Act.put, List.setIfInBounds_toArray, List.set_cons_zero, List.set_cons_succ]
      refine bdone (by kernel_rfl) ?_
      have y1 := (Bz.out.cell hb2W).trans g1
      clear e0 e1 hkb hb0 g0 g1
      go_wp2_with fail
      go_roundw
      case rel => exact ⟨j + 1, x.b, by omega, by go_num, rfl, HJ.out.2.2.2.2.2.symm, HK.out, HJ.out.2.2.2.1.trans (Bz.out.mono HJ.out.2.2.2.1.size), (HJ.out.2.2.2.2.1.below Bz.out).more Bz.out.size⟩
      case measure => simp [intOf]; omega
     ·obtain rfl : j = ne := by omega
      have hd2 : decide ((j : Int) < (j : Int)) = false := by rw [decide_eq_false_iff_not]; omega
      rw [show ls.take j = ls by rw [← HO.out.2, List.take_length], HQ.out.2] at hno
      have HZ := Lib.hid hno
      clear hno
      go_wp2_with fail
      go_roundw
      case rel => exact ⟨k + 1, by omega, by go_num, HZ.out, hbj⟩
      case measure => simp [intOf]; omega
   ·obtain rfl : k = n := by omega
    have hd1 : decide ((k : Int) < (k : Int)) = false := by rw [decide_eq_false_iff_not]; omega
    rw [show V.take k = V by rw [← HV.out.1.len, List.take_length], ← HF.out] at hown
    obtain ⟨A9, c9, rfl, _⟩ := hown.form
    have HZ := Lib.hid (hown.base_le (base' := w.heap.size) HV.out.2.2.2.2.size)
    have hbz := HV.out.2.2.2.2.trans (hbel.mono HV.out.2.2.2.2.size)
    clear hown
    go_wp2_with fail
    go_ret
    exact ⟨A9, c9, rfl, HZ.out, hbz⟩
end Go.Proofs.YtaflikgdlkaefaaGreat
/- Numbers as bytes: the document's Take. -/
namespace Go.Proofs.YtaflikgdlkaefaaGreat
open Go.RowKit Go.Proofs.YtaflikgdlkaefaaGreat.Pl
set_option maxRecDepth 20000

def RTakeRel (l : List UInt8) (x5 : Value) : Prop := ∃ k : Nat, k ≤ min l.length 10 ∧ k ≤ run l ∧ x5 = .int .i64 (k : Int)
def RTakeRel2 (l : List UInt8) (k : Nat) (x6 x7 : Value) : Prop := ∃ j : Nat, j ≤ k + 1 ∧ x7 = .int .i64 ((j : Int) - 1) ∧ x6 = .int .u64 (val ((l.take (k + 1)).drop j) : Int)
theorem and127_8 (x : Nat) (hx : x < 256) : bits .and .u8 (x : Int) 127 = (x : Int) % 128 := by
 have h := u8_and_nat x 127 hx (by omega)
 rw [nat_mask7] at h
 exact h.trans (by omega)
/-- 'a << 7 | y' -/
theorem shl7_or (a y : Nat) (hy : y < 128) (h : a * 128 + y < 18446744073709551616) : bits .or .u64 (IntKind.u64.wrap ((a : Int) * 128)) (y : Int) = ((a * 128 + y : Nat) : Int) := by
 have e : IntKind.u64.wrap ((a : Int) * 128) = ((a * 128 : Nat) : Int) := by
  rw [IntKind.wrap_u64]; omega
 rw [e, u64_or_nat _ _ (by omega) (by omega), nat_join 7 _ _ (by omega) (by omega)]

set_option maxRecDepth 100000 in
set_option maxHeartbeats 1600000 in
theorem RefTake_any (w : World) (B : Nat) (A : Option Addr) (c : Nat) (l : List UInt8) (hb : Sl w B A (bv l)) (hc : l.length ≤ c) (hn : c ≤ maxLen) :
  Calls Tryz.prog 64 #[.slice A l.length c] w fun e w' => e = .returned (.tuple #[.int .u64 ((takeS l).1 : Int), .int .i64 ((takeS l).2.1 : Int), .int .i64 ((takeS l).2.2 : Int)]) ∧ w = w' := by
 unfold maxLen at hn
 go_enter Tryz.func64, Tryz.ntmps64
 go_wp2_with fail
 go_loop [5] (fun x5 => RTakeRel l x5) (fun x5 => min l.length 10 - (intOf x5).toNat)
 case atStart => exact ⟨0, by omega, by omega, rfl⟩
 case round =>
  obtain ⟨k, hk, hr, rfl⟩ := hrel
  have hrl := run_le l
  by_cases hlt : k < min l.length 10
  ·obtain ⟨b, o, rfl, hbB, hbW, hcell⟩ := hb.at_ (k := k) (by simp; omega)
   have hck := hcell k _ (bv_get l k (by omega))
   have hx256 := (l[k]?.getD 0).toNat_lt
   have hst := run_step l k hr (by omega)
   have hend := fun h => takeS_end l k h (by omega) (by omega)
   have hx : at_ l k = (l[k]?.getD 0).toNat := rfl
   generalize (l[k]?.getD 0).toNat = x at hck hx256 hx
   rw [hx] at hst hend
   have Hst := Lib.hid hst
   have Hend := Lib.hid hend
   have Hx := Lib.hid hx
   have Hcell := Lib.hid hcell
   have hk10 : k < 10 := by omega
   have hkl : k < l.length := by omega
   clear hcell hb hx hst hend hlt
   by_cases h128 : 128 ≤ x
   ·go_wp2_with fail
    go_round
    case rel => exact ⟨k + 1, by omega, Hst.out.1 h128, by go_num⟩
    case measure => simp [intOf]; omega
   ·have hne10 : ((k : Int) == 10) = false := by simp; omega
    have hnel : ((k : Int) == (l.length : Int)) = false := by simp; omega
    have e0 := Hend.out (Hst.out.2 (by omega))
    by_cases hbad : (0 < k ∧ x = 0) ∨ (k = 9 ∧ 1 < x)
    ·rw [if_pos hbad] at e0
     have T := Lib.hid e0
     clear e0
     have hsplit : (0 < k ∧ ((x : Int) == 0) = true) ∨ (0 < k ∧ 1 < x ∧ ((x : Int) == 0) = false ∧ ((k : Int) == 9) = true) := by
      simp only [beq_iff_eq, beq_eq_false_iff_ne, ne_eq]
      omega
     clear hbad
     rcases hsplit with ⟨hs1, hs2⟩ | ⟨hs1, hs2, hs3, hs4⟩
     all_goals (go_wp2_with fail; go_ret3; rw [T.out]; exact ⟨rfl, rfl⟩)
    ·rw [if_neg hbad] at e0
     have T := Lib.hid e0
     clear e0
     have hsplit : (k ≤ 0) ∨ (0 < k ∧ 1 ≤ x ∧ ((x : Int) == 0) = false ∧ ((k : Int) == 9) = true ∧ x ≤ 1) ∨ (0 < k ∧ 1 ≤ x ∧ ((x : Int) == 0) = false ∧ ((k : Int) == 9) = false) := by
      simp only [beq_iff_eq, beq_eq_false_iff_ne, ne_eq]
      omega
     clear hbad
     have hlk : (l.take (k + 1)).length = k + 1 := by rw [List.length_take]; omega
     have hlt64 : val (l.take (k + 1)) < 18446744073709551616 := by
      have := takeS_lt l
      rw [T.out] at this
      exact this
     have Hlk := Lib.hid hlk
     have Hlt64 := Lib.hid hlt64
     clear hlk hlt64
     rcases hsplit with hs | ⟨hs1, hs2, hs3, hs4, hs5⟩ | ⟨hs1, hs2, hs3, hs4⟩
     all_goals
      go_wp2_with fail
      go_loop [6, 7] (fun x6 x7 => RTakeRel2 l k x6 x7) (fun _ x7 => (intOf x7 + 1).toNat)
      case atStart => exact ⟨k + 1, by omega, by go_num, by rw [List.drop_eq_nil_of_le (by rw [Hlk.out]; omega)]; rfl⟩
      case round =>
       obtain ⟨j, hj, rfl, rfl⟩ := hrel
       by_cases hj0 : 1 ≤ j
       ·obtain ⟨j, rfl⟩ : ∃ i, j = i + 1 := ⟨j - 1, by omega⟩
        have hcj := Hcell.out j _ (bv_get l j (by omega))
        have hy256 := (l[j]?.getD 0).toNat_lt
        have hy : at_ l j = (l[j]?.getD 0).toNat := rfl
        generalize (l[j]?.getD 0).toNat = y at hcj hy256 hy
        have hand := and127_8 y hy256
        have hv := val_drop (l.take (k + 1)) j (by rw [Hlk.out]; omega)
        rw [at_take _ _ _ (by omega), hy] at hv
        have hle := val_drop_le (l.take (k + 1)) j
        have hlt := Hlt64.out
        generalize val ((l.take (k + 1)).drop (j + 1)) = a at hv
        have hor := shl7_or a (y % 128) (by omega) (by omega)
        rw [show ((y % 128 : Nat) : Int) = (y : Int) % 128 by omega] at hor
        have Hv := Lib.hid hv
        have Hor := Lib.hid hor
        rw [show (((j + 1 : Nat) : Int) - 1) = (j : Int) by omega]
        clear hv hor hy hle hlt
        go_wp2_with fail
        go_round
        case rel => exact ⟨j, by omega, by first | rfl | (simp; done) | go_num, by rw [Hor.out, Hv.out]; congr 2; omega⟩
        case measure => simp [intOf]
       ·obtain rfl : j = 0 := by omega
        rw [List.drop_zero]
        go_wp2_with fail
        all_goals (go_ret3; rw [T.out]; exact ⟨rfl, rfl⟩)
  ·clear hb
   by_cases h10 : l.length < 10
   ·have T := Lib.hid (takeS_short l (by omega) h10)
    have hkl : k = l.length := by omega
    subst hkl
    have hne10 : ((l.length : Int) == 10) = false := by simp; omega
    go_wp2_with fail
    all_goals (go_ret3; rw [T.out]; exact ⟨rfl, rfl⟩)
   ·have T := Lib.hid (takeS_ten l (by omega))
    obtain rfl : k = 10 := by omega
    go_wp2_with fail
    all_goals (go_ret3; rw [T.out]; exact ⟨rfl, rfl⟩)
end Go.Proofs.YtaflikgdlkaefaaGreat
/- Vectors: the document's two numbers. -/
namespace Go.Proofs.YtaflikgdlkaefaaGreat
open Go.RowKit Go.Proofs.YtaflikgdlkaefaaGreat.Pl Go.Proofs.YtaflikgdlkaefaaGreat.Sp Go.Proofs.YtaflikgdlkaefaaGreat.Ve
set_option maxRecDepth 20000

theorem sl_postB (A : Option Addr) (m c j : Nat) (hj : j ≤ m) (hc : m ≤ c) :
  ∃ A2, (∀ w, (Instr.sliceAt 41 (.slice A m c) (some (.int .i64 (j : Int))) none none).run Tryz.prog w = .ok (.slice A2 (m - j) (c - j)) w) ∧ ∀ (w : World) (B : Nat) (o : List UInt8), o.length = m → Sl w B A (bv o) → Sl w B A2 (bv (o.drop j)) := by
 obtain ⟨i, hi, hz, hz1, hz2⟩ := info_parts u8info
 refine ⟨if c = j then A else A.map (fun x => x.add (j * i.size)), fun w => ?_, fun w B o ho hS => ?_⟩
 ·simp [Instr.sliceAt, Instr.slice, run_underlying Tryz.underlying41, Instr.sliceBounds, Instr.sliceBound, asIntOf, Go.sizeOf, typeInfo, hi]
  intro h; omega
 ·have h := hS.cut j c (by rw [show (bv o).length = o.length by simp [bv]]; omega)
  rw [bv_drop] at h
  rw [show j * i.size = j by rw [hz1]; omega]
  exact h
theorem exec_postB {a : Act} {o : Oper} {x y : Operand} (ho : o.op = .slice 41 x (some y) none none) {A A2 : Option Addr} {m c j : Nat} (hx : a.eval x = .slice A m c) (hy : a.eval y = .int .i64 (j : Int))
  (h : ∀ w, (Instr.sliceAt 41 (.slice A m c) (some (.int .i64 (j : Int))) none none).run Tryz.prog w = .ok (.slice A2 (m - j) (c - j)) w) (w : World) :
  (execOp a.eval o).run Tryz.prog w = .ok (.value (.slice A2 (m - j) (c - j))) w := by
 simp [execOp, ho, hx, hy, h]
theorem RTake_t' (w : World) (B : Nat) (A : Option Addr) (n c : Nat) (l : List UInt8) (v k e0 : Nat) (hb : Sl w B A (bv l)) (h0 : n = l.length) (hc : n ≤ c) (hn : c ≤ maxLen) (h : takeS l = (v, k, e0)) :
  Calls Tryz.prog 64 #[.slice A n c] w fun e w' => e = .returned (.tuple #[.int .u64 (v : Int), .int .i64 (k : Int), .int .i64 (e0 : Int)]) ∧ w = w' := by
 subst h0
 have := RefTake_any w B A c l hb hc hn
 rw [h] at this
 exact this
set_option maxRecDepth 100000 in
set_option maxHeartbeats 3200000 in
theorem RTwo_any (w : World) (A : Option Addr) (n c : Nat) (b : List UInt8) (hb : Sl w w.heap.size A (bv b)) (h0 : n = b.length) (hc : n ≤ c) (hcm : c ≤ maxLen) :
  Calls Tryz.prog 79 #[.slice A n c] w fun e w' => e = .returned (.tuple #[.int .u64 ((twoS b).1 : Int), .int .u64 ((twoS b).2.1 : Int), .int .i64 ((twoS b).2.2.1 : Int), .int .i64 ((twoS b).2.2.2 : Int)]) ∧ w = w' := by
 obtain ⟨T, hT⟩ : ∃ T, twoS b = T := ⟨_, rfl⟩
 rw [hT]
 obtain ⟨⟨x, n1, e1⟩, ht⟩ : ∃ r, takeS b = r := ⟨_, rfl⟩
 have HT := Lib.hid (RTake_t' w w.heap.size A n c b x n1 e1 hb h0 hc hcm ht)
 by_cases he : e1 = 0
 ·subst he
  have hk := takeS_ok b (by rw [ht])
  rw [ht] at hk
  dsimp only at hk
  obtain ⟨⟨y, n2, e2⟩, ht2⟩ : ∃ r, takeS (b.drop n1) = r := ⟨_, rfl⟩
  obtain ⟨A2, hsl, hS2⟩ := sl_postB A n c n1 (by omega) hc
  have hs2 := hS2 w _ b h0.symm hb
  have HT2 := Lib.hid (RTake_t' w w.heap.size A2 (n - n1) (c - n1) (b.drop n1) y n2 e2 hs2 (by rw [List.length_drop]; omega) (by omega) (by omega) ht2)
  have HSL := Lib.hid hsl
  by_cases he2 : e2 = 0
  ·subst he2
   have hk2 := takeS_ok (b.drop n1) (by rw [ht2])
   rw [ht2] at hk2
   dsimp only at hk2
   have HE := Lib.hid (show T = (x, y, n1 + n2, 0) by rw [← hT]; unfold twoS; rw [ht]; simp [ht2])
   have hw : IntKind.i64.wrap ((n1 : Int) + (n2 : Int)) = ((n1 + n2 : Nat) : Int) := by rw [IntKind.wrap_i64]; omega
   clear h0 hT ht ht2 hsl hS2 hs2 hb hk hk2
   go_enter Tryz.func79, Tryz.ntmps79
   go_wp2_with fail
   refine HT.out.mono ?_
   rintro e w1 ⟨rfl, rfl⟩
   go_wp2_with (refine mval rfl (exec_postB rfl rfl rfl HSL.out _) ?_)
   refine HT2.out.mono ?_
   rintro e w1 ⟨rfl, rfl⟩
   go_wp2_with fail
   exact bodyPost_ret (v := .tuple #[.int .u64 (x : Int), .int .u64 (y : Int), .int .i64 ((n1 + n2 : Nat) : Int), .int .i64 0]) (by simp [results, Tryz.results79, go_sem]) rfl ⟨by rw [HE.out]; rfl, rfl⟩
  ·have HE := Lib.hid (show T = (0, 0, 0, e2) by rw [← hT]; unfold twoS; rw [ht]; simp [ht2, he2])
   have z1 : ((e2 : Int) == 0) = false := by rw [beq_eq_false_iff_ne]; omega
   have z2 : decide ((e2 : Int) = 0) = false := by rw [decide_eq_false_iff_not]; omega
   clear h0 hT ht ht2 hsl hS2 hs2 hb hk
   go_enter Tryz.func79, Tryz.ntmps79
   go_wp2_with fail
   refine HT.out.mono ?_
   rintro e w1 ⟨rfl, rfl⟩
   go_wp2_with (refine mval rfl (exec_postB rfl rfl rfl HSL.out _) ?_)
   refine HT2.out.mono ?_
   rintro e w1 ⟨rfl, rfl⟩
   go_wp2_with fail
   exact bodyPost_ret (v := .tuple #[.int .u64 0, .int .u64 0, .int .i64 0, .int .i64 (e2 : Int)]) (by simp [results, Tryz.results79, go_sem]) rfl ⟨by rw [HE.out]; rfl, rfl⟩
 ·have HE := Lib.hid (show T = (0, 0, 0, e1) by rw [← hT]; unfold twoS; rw [ht]; simp [he])
  have z1 : ((e1 : Int) == 0) = false := by rw [beq_eq_false_iff_ne]; omega
  have z2 : decide ((e1 : Int) = 0) = false := by rw [decide_eq_false_iff_not]; omega
  clear h0 hT ht hb
  go_enter Tryz.func79, Tryz.ntmps79
  go_wp2_with fail
  refine HT.out.mono ?_
  rintro e w1 ⟨rfl, rfl⟩
  go_wp2_with fail
  exact bodyPost_ret (v := .tuple #[.int .u64 0, .int .u64 0, .int .i64 0, .int .i64 (e1 : Int)]) (by simp [results, Tryz.results79, go_sem]) rfl ⟨by rw [HE.out]; rfl, rfl⟩
end Go.Proofs.YtaflikgdlkaefaaGreat
