/- Ranges: the document's SpanAdd of whatever list, SpanOf, SpanJoin. -/
import Derived.Test.YtaflikgdlkaefaaGreatA05
namespace Go.Proofs.YtaflikgdlkaefaaGreat
open Go.RowKit Go.Proofs.YtaflikgdlkaefaaGreat.Pl Go.Proofs.YtaflikgdlkaefaaGreat.Sp
set_option maxRecDepth 20000

theorem mergeR_len : ∀ (l : List Rg) (r : Rg), (mergeR l r).2.length ≤ l.length
 | [], r => by simp [mergeR]
 | x :: t, r => by
  rw [mergeR]
  split
  ·have := mergeR_len t ⟨min r.a x.a, max r.b x.b⟩
   rw [List.length_cons]; omega
  ·exact Nat.le_refl _
theorem addR_len : ∀ (l : List Rg) (r : Rg), (addR l r).length ≤ l.length + 1
 | [], r => by simp [addR]
 | x :: t, r => by
  rw [addR]
  split
  ·have := addR_len t r
   rw [List.length_cons, List.length_cons]; omega
  ·have := mergeR_len (x :: t) r
   rw [List.length_cons]; omega
def addS (l : List Rg) (r : Rg) : List Rg := if right l = true ∧ r.ok = true then addR l r else []
set_option maxRecDepth 100000 in
theorem RRAdd_any (w : World) (A : Option Addr) (n c : Nat) (l : List Rg) (r : Rg) (hb : Sl w w.heap.size A (rv l)) (h0 : n = l.length) (hl : n ≤ 10000000) (hc : n ≤ c) (hcm : c ≤ maxLen) :
  Calls Tryz.prog 70 #[.slice A n c, r.v] w (RAns w (addS l r)) := by
 obtain ⟨p, hp⟩ : ∃ p, right l = p := ⟨_, rfl⟩
 obtain ⟨q, hq⟩ : ∃ q, r.ok = q := ⟨_, rfl⟩
 have hb0 := boxR w r
 have hst0 := StandsR.new w 58 r
 have HL := Lib.hid (fun W (hW : Below w.heap.size w W) => RRRight_any W A n c l ((hb.below hW).more hW.size) h0 (by omega))
 have HR := Lib.hid (fun W g (hW : Sl W W.heap.size (some ⟨g, 0, none⟩) (rv [r])) => RRRight_any W (some ⟨g, 0, none⟩) 1 1 [r] hW rfl (by omega))
 rw [right_one_ok, hq] at HR
 rw [hp] at HL
 cases p with
 | false =>
  have HJ := Lib.hid (show addS l r = [] by rw [addS, if_neg (by rw [hp]; simp)])
  clear hp hq hb h0 HR hc hcm hst0
  unfold Rg.v
  go_enter Tryz.func70, Tryz.ntmps70
  go_wp2_with fail
  refine (HL.out _ hb0).mono ?_
  rintro e w1 ⟨rfl, h1⟩
  have hbz := hb0.trans (h1.mono hb0.size)
  go_wp2_with fail
  go_ret
  rw [HJ.out]
  exact RAns.nil hbz
 | true =>
  cases q with
  | false =>
   have HJ := Lib.hid (show addS l r = [] by rw [addS, if_neg (by rw [hq]; simp)])
   clear hp hq hb h0 hc hcm
   unfold Rg.v
   go_enter Tryz.func70, Tryz.ntmps70
   go_wp2_with fail
   refine (HL.out _ hb0).mono ?_
   rintro e w1 ⟨rfl, h1⟩
   have hst1 := hst0.below h1
   have hbz1 := hb0.trans (h1.mono hb0.size)
   clear hst0 hb0 h1
   generalize hgb : w.heap.size = gb at hst1 ⊢
   have m0 := hst1.2.1
   have m1 := hst1.2.2.1
   go_wp2_with fail
   refine (HR.out _ _ (Sl.oneR w1 r)).mono ?_
   rintro e w2 ⟨rfl, h2⟩
   have hb1 := hbz1.alloc hbz1.size (.cells #[.int .i64 r.a, .int .i64 r.b] 58)
   have hbz2 := hb1.trans (h2.mono hb1.size)
   clear h2 hb1 hst1 m0 m1 hbz1 hgb
   go_wp2_with fail
   go_ret
   rw [HJ.out]
   exact RAns.nil hbz2
  | true =>
   rw [addS, if_pos ⟨hp, hq⟩]
   exact RRAddOk_any w A n c l r hb h0 hl hc hcm hp hq
theorem ofS_len (l : List Int) : (ofS l).length ≤ l.length := by
 have h : ∀ (l : List Int) (o : List Rg), (l.foldl (fun o n => if numOk n = true then addR o ⟨n, n⟩ else o) o).length ≤ o.length + l.length := by
  intro l
  induction l with
  | nil => intro o; simp
  | cons x t ih =>
   intro o
   rw [List.foldl_cons, List.length_cons]
   have h1 := ih (if numOk x = true then addR o ⟨x, x⟩ else o)
   have h2 := addR_len o ⟨x, x⟩
   split at h1 <;> split <;> first | omega | contradiction
 have := h l []
 unfold ofS
 simpa using this
end Go.Proofs.YtaflikgdlkaefaaGreat
/- Ranges: the document's SpanJoin. -/
namespace Go.Proofs.YtaflikgdlkaefaaGreat
open Go.RowKit Go.Proofs.YtaflikgdlkaefaaGreat.Pl Go.Proofs.YtaflikgdlkaefaaGreat.Sp
set_option maxRecDepth 20000

theorem join_take {a b : List Rg} {k : Nat} (hk : k < b.length) : (b.take (k + 1)).foldl addR a = addR ((b.take k).foldl addR a) (b[k]?.getD ⟨0, 0⟩) := by
 rw [List.take_succ_eq_append_getElem hk, List.foldl_append, List.getElem?_eq_getElem hk]
 rfl
theorem fold_addlen : ∀ (b a : List Rg), (b.foldl addR a).length ≤ a.length + b.length
 | [], a => by simp
 | x :: t, a => by
  have h1 := fold_addlen t (addR a x)
  have h2 := addR_len a x
  rw [List.foldl_cons, List.length_cons]
  omega
theorem own_formR {w : World} {base : Nat} {v : Value} {l : List Rg} (h : OwnR w base v l) : ∃ A c, v = .slice A l.length c ∧ Sl w w.heap.size A (rv l) ∧ l.length ≤ c ∧ c ≤ maxLen := by
 obtain ⟨A, c, e, h1, h2, h3, _⟩ := h.form
 exact ⟨A, c, e, h3, h1, h2⟩
set_option maxRecDepth 100000 in
set_option maxHeartbeats 3200000 in
theorem RRJoin_any (w : World) (A A' : Option Addr) (n n' c c' : Nat) (a b : List Rg) (ha : Sl w w.heap.size A (rv a)) (hb : Sl w w.heap.size A' (rv b)) (h0 : n = a.length) (h1 : n' = b.length) (hl : n ≤ 1000000) (hl' : n' ≤ 1000000) :
  Calls Tryz.prog 51 #[.slice A n c, .slice A' n' c'] w (RAns w (joinS a b)) := by
 obtain ⟨p, hp⟩ : ∃ p, right a = p := ⟨_, rfl⟩
 obtain ⟨q, hq⟩ : ∃ q, right b = q := ⟨_, rfl⟩
 have hra := RRRight_any w A n c a ha h0 (by omega)
 have hrb := fun W (hW : Below w.heap.size w W) => RRRight_any W A' n' c' b ((hb.below hW).more hW.size) h1 (by omega)
 rw [hp] at hra
 rw [hq] at hrb
 have HA := Lib.hid hra
 have HB := Lib.hid hrb
 clear hra hrb
 cases p with
 | false =>
  have HJ := Lib.hid (show joinS a b = [] by rw [joinS, if_neg (by rw [hp]; simp)])
  clear hp hq ha hb h0 h1
  go_enter Tryz.func51, Tryz.ntmps51
  go_wp2_with fail
  refine HA.out.mono ?_
  rintro e w1 ⟨rfl, h1⟩
  go_wp2_with fail
  go_ret
  rw [HJ.out]
  exact RAns.nil h1
 | true =>
  cases q with
  | false =>
   have HJ := Lib.hid (show joinS a b = [] by rw [joinS, if_neg (by rw [hq]; simp)])
   clear hp hq ha hb h0 h1
   go_enter Tryz.func51, Tryz.ntmps51
   go_wp2_with fail
   refine HA.out.mono ?_
   rintro e w1 ⟨rfl, h1⟩
   go_wp2_with fail
   refine (HB.out w1 h1).mono ?_
   rintro e w2 ⟨rfl, h2⟩
   have hbz := h1.trans (h2.mono h1.size)
   go_wp2_with fail
   go_ret
   rw [HJ.out]
   exact RAns.nil hbz
  | true =>
   have HJ := Lib.hid (show joinS a b = b.foldl addR a by rw [joinS, if_pos ⟨hp, hq⟩])
   have HN := Lib.hid (And.intro h0 (And.intro h1 (And.intro hp (right_ok hq))))
   clear hp hq h0 h1
   go_enter Tryz.func51, Tryz.ntmps51
   go_wp2_with fail
   refine HA.out.mono ?_
   rintro e w1 ⟨rfl, h1⟩
   go_wp2_with fail
   refine (HB.out w1 h1).mono ?_
   rintro e w2 ⟨rfl, h2⟩
   have hbz := h1.trans (h2.mono h1.size)
   have ha2 := (ha.below hbz).more hbz.size
   clear ha h1 h2
   go_wp2_with (at_builtin; refine appR rfl rfl (OwnR.nil w2 w2.heap.size) ha2 HN.out.1 rfl rfl (by have := HN.out.1; simp; omega) (Nat.le_refl _) ?_; intro v3 w3 hown3 hg3 hat3; obtain ⟨A3, c3, rfl, hs3, hc3, hm3⟩ := own_formR hown3)
   rw [List.nil_append] at hown3 hs3 hc3
   have hbz3 := hbz.trans ((below_of_grown hg3 (by simp [Value.ownBlock]) (Nat.le_refl _)).mono hbz.size)
   clear hown3 hg3 hat3 hbz ha2
   go_loopw [5, 6] (fun x5 x6 wr => ∃ (k : Nat) (A2 : Option Addr) (m c2 : Nat) (q : List Rg), k ≤ n' ∧ x6 = .int .i64 (k : Int) ∧ x5 = .slice A2 m c2 ∧ q = (b.take k).foldl addR a ∧ q.length = m ∧ m ≤ c2 ∧ c2 ≤ maxLen ∧ Sl wr wr.heap.size A2 (rv q) ∧ right q = true ∧ Below w.heap.size w wr) (fun _ x6 _ => n' - (intOf x6).toNat)
   case atStart => exact ⟨0, A3, _, c3, a, by omega, rfl, rfl, rfl, by simp, by simpa using hc3, hm3, hs3, HN.out.2.2.1, hbz3⟩
   case round =>
    clear hs3 hc3 hm3 hbz3
    obtain ⟨k, A2, m, c2, q, hk, rfl, rfl, hq, hqm, hmc, hcm, hS, hrt, hbel⟩ := hrel
    by_cases hlt : k < n'
    ·have hkl : k < b.length := by have := HN.out.2.1; omega
     obtain ⟨b2, o2, hA2, _, hb2W, d0, d1⟩ := rgAt hb hkl
     replace d0 := (hbel.cell hb2W).trans d0
     replace d1 := (hbel.cell hb2W).trans d1
     have hxo := HN.out.2.2.2 _ (List.getElem_mem hkl)
     rw [show b[k] = b[k]?.getD ⟨0, 0⟩ by rw [List.getElem?_eq_getElem hkl]; rfl] at hxo
     have hstep := join_take (a := a) hkl
     have hlen := fold_addlen (b.take k) a
     rw [List.length_take] at hlen
     rw [← hq] at hstep hlen
     generalize b[k]?.getD ⟨0, 0⟩ = x at *
     have hd1 : decide ((k : Int) < (n' : Int)) = true := by rw [decide_eq_true_eq]; omega
     have hn0 : (0 : Int) ≤ (k : Int) := by omega
     have hn1 : (k : Int) < (n' : Int) := by omega
     have HC := Lib.hid (RRAddOk_any wr A2 m c2 q x hS hqm.symm (by have := HN.out; omega) hmc hcm hrt hxo)
     unfold Rg.v at HC
     have HT := Lib.hid (And.intro hstep (addR_ok hrt hxo (ok_iff.1 hxo).1).1)
     subst hA2
     clear hxo hstep hlen hq hqm hmc hcm hS hrt
     go_wp2_with fail
     refine HC.out.mono ?_
     rintro e w4 ⟨A4, c4, rfl, g1, g2, g3, g4⟩
     have hbz := hbel.trans (g4.mono hbel.size)
     go_wp2_with fail
     go_roundw
     case rel => exact ⟨k + 1, A4, _, c4, _, by omega, by go_num, rfl, HT.out.1.symm, rfl, g2, g3, g1, HT.out.2, hbz⟩
     case measure => simp [intOf] <;> omega
    ·obtain rfl : k = n' := by omega
     have hd1 : decide ((k : Int) < (k : Int)) = false := by rw [decide_eq_false_iff_not]; omega
     rw [List.take_of_length_le (by have := HN.out.2.1; omega)] at hq
     have HF := Lib.hid (And.intro (HJ.out.trans hq.symm) (And.intro hqm (And.intro hmc (And.intro hcm hS))))
     clear hq hqm hmc hcm hS
     go_wp2_with fail
     go_ret
     rw [HF.out.1]
     exact ⟨A2, c2, by rw [HF.out.2.1]; rfl, HF.out.2.2.2.2, by rw [HF.out.2.1]; exact HF.out.2.2.1, HF.out.2.2.2.1, hbel⟩
end Go.Proofs.YtaflikgdlkaefaaGreat
