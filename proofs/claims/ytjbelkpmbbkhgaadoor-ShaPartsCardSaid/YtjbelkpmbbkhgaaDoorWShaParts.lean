/- ShaParts, walked. -/
import Derived.Test.YtjbelkpmbbkhgaaDoorShDg
import Derived.Test.YtjbelkpmbbkhgaaDoorShC
import Derived.Test.YtjbelkpmbbkhgaaDoorShNw
namespace Go.Proofs.YtjbelkpmbbkhgaaDoor
open Go.RowKit Go.Proofs.YtjbelkpmbbkhgaaDoor.Sh

theorem stW_ok (l : List UInt8) : (stW l).ok := by
  have h := Hs.write_ok new0_ok l
  rw [← stW_nil, stW_write, List.nil_append] at h
  exact h
def PaS (gx gh go lo1 lo2 base : Nat) (D l : List UInt8) (s1 s2 : Hs) (v : Value) (w W : World) : Prop := At W gx (bv D) ∧ HStands W gh lo1 s1 ∧ HStands W go lo2 s2 ∧ OwnB W base v l ∧ Below w.heap.size w W ∧ base ≤ W.heap.size
theorem PaS.below {gx gh go lo1 lo2 base : Nat} {D l : List UInt8} {s1 s2 : Hs} {v : Value} {w W W' : World} (h : PaS gx gh go lo1 lo2 base D l s1 s2 v w W) (hb : Below W.heap.size W W') : PaS gx gh go lo1 lo2 base D l s1 s2 v w W' :=
  ⟨h.1.below hb, h.2.1.below hb, h.2.2.1.below hb, h.2.2.2.1.below hb, h.2.2.2.2.1.trans (hb.mono h.2.2.2.2.1.size), Nat.le_trans h.2.2.2.2.2 hb.size⟩
set_option maxRecDepth 100000 in
set_option maxHeartbeats 6400000 in
theorem ShaParts_walk (w : World) (hG : GK w) (A : Option Addr) (c : Nat) (ls : List (List UInt8)) (hM : Mat w A ls) (hc : ls.length ≤ c) (hcm : c ≤ maxLen) (A2 : Option Addr) (c2 : Nat) (l2 : List UInt8) (hS2 : Sl w w.heap.size A2 (bv l2)) (hlc2 : l2.length ≤ c2) (hc2m : c2 ≤ 140737488351232) :
    Calls Tryd.prog 4 #[.slice A ls.length c, .slice A2 l2.length c2] w fun e w' => e = .returned (.bool true) ∧ Below w.heap.size w w' := by
  obtain ⟨n, hn⟩ : ∃ n, n = ls.length := ⟨_, rfl⟩
  obtain ⟨m2, hm2⟩ : ∃ m2, m2 = l2.length := ⟨_, rfl⟩
  rw [← hn] at hc ⊢
  rw [← hm2] at hlc2 ⊢
  unfold maxLen at hcm
  have HN := Lib.hid (And.intro hn (And.intro hm2 hG))
  clear hn hm2 hG
  go_enter Tryd.func4, Tryd.ntmps4
  go_wp2_with fail
  refine (shknown_any w).mono ?_
  rintro e w1 ⟨rfl, hb1⟩
  by_cases h12 : n ≤ 12
  · have hd1 : ¬ (12 : Int) < (n : Int) := by omega
    by_cases h300 : m2 ≤ 300
    · have hd2 : ¬ (300 : Int) < (m2 : Int) := by omega
      go_wp2_with fail
      refine (New_any2 w1).mono ?_
      rintro e w2 ⟨rfl, hA2, hb2⟩
      have hb2' := hb1.trans (hb2.mono hb1.size)
      have hgh := hb1.size
      have hlh := hA2.1
      generalize w1.heap.size = gh at *
      go_wp2_with fail
      refine (New_any2 w2).mono ?_
      rintro e w3 ⟨rfl, hA3, hb3⟩
      have hH := hA2.below hb3
      have hb3' := hb2'.trans (hb3.mono hb2'.size)
      have hlo := hA3.1
      have hgo : gh < w2.heap.size := hlh
      generalize w2.heap.size = go at *
      have hown0 := OwnB.nil w3 w3.heap.size
      have hHs := new_stands hH (show gh < w3.heap.size by omega) (Nat.le_refl _)
      have hOs := new_stands hA3 hlo (Nat.le_refl _)
      have hbs := hb3'.size
      have hbase1 : w3.heap.size ≤ w3.heap.size := Nat.le_refl _
      generalize hbb : w3.heap.size = base at hown0 hHs hOs hlo hbs hbase1
      replace hbase1 : base ≤ w3.heap.size := by omega
      have hghb : gh < base := by omega
      clear hbb hA2 hA3 hH hb1 hb2 hb2' hb3 hlh
      go_wp2_with fail
      go_loopw [7, 8] (fun z7 z8 wr => ∃ (j lo1 lo2 : Nat) (l : List UInt8) (s2 : Hs), j ≤ n ∧ z8 = .int .i64 (j : Int) ∧ OwnB wr base z7 l ∧ l.length ≤ 150 * j ∧ HStands wr gh lo1 (stW l) ∧ HStands wr go lo2 s2 ∧ s2.ok ∧ base ≤ lo1 ∧ base ≤ lo2 ∧ Below w.heap.size w wr ∧ base ≤ wr.heap.size) (fun _ z8 _ => n - (intOf z8).toNat)
      case atStart => exact ⟨0, base, base, [], new0, by omega, rfl, hown0, by simp, hHs, hOs, new0_ok, Nat.le_refl _, Nat.le_refl _, hb3', hbase1⟩
      case round =>
        clear hHs hOs hb3' hown0 hbase1
        obtain ⟨j, lo1, lo2, l, s2, hj, rfl, hown, hll, hH, hO, hok2, hl1, hl2, hbel, hbase⟩ := hrel
        obtain ⟨A7, c7, rfl, _, _, hsl7, _, _⟩ := hown.form
        obtain ⟨q7, hq7⟩ : ∃ q7, q7 = l.length := ⟨_, rfl⟩
        rw [← hq7] at hown ⊢
        have HQ7 := Lib.hid hq7
        clear hq7
        by_cases hlt : j < n
        · obtain ⟨b, o, A', c', rfl, hbw, hc0, hS, hle, hm⟩ := hM.at_ (k := j) (by have := HN.out.1; omega)
          have hcc := cellB ((hbel.cell (p := ⟨b, o + j, none⟩) hbw).trans hc0)
          generalize ls[j]?.getD [] = lk at *
          obtain ⟨q, hq⟩ : ∃ q, q = lk.length := ⟨_, rfl⟩
          rw [← hq] at hcc hle
          obtain ⟨mq, hmq⟩ : ∃ mq, mq = min q 150 := ⟨_, rfl⟩
          have hmI : (if (150 : Int) < (q : Int) then 150 else (q : Int)) = (mq : Int) := by split <;> omega
          have hd3 : (j : Int) < (n : Int) := by omega
          have hj0 : (0 : Int) ≤ (j : Int) := by omega
          have hm0 : (0 : Int) ≤ (mq : Int) := by omega
          have hmc : (mq : Int) ≤ (c' : Int) := by omega
          have hmq150 : mq ≤ 150 := by omega
          have hSp := hS.tk mq
          rw [bv_take] at hSp
          have hpl : (lk.take mq).length = mq := by rw [List.length_take]; omega
          generalize lk.take mq = p at *
          have HP := Lib.hid hpl
          clear hpl hq hmq hS hc0
          go_wp2_with fail
          refine bstart (by kernel_rfl) ?_
          refine btake 0 (oi := _) (v := ?_) (by simp only [List.getElem?_toArray, List.getElem?_cons_zero]; rfl) (by kernel_rfl) (by exact fun _ _ _ h => h) (by first | assumption | exact KB.refl _) (.inl ⟨by rfl, fun W hW => ?_⟩) ?_; rotate_left
          · (go_simp; first | done | with_reducible rfl)
          try simp only [Act.put, List.setIfInBounds_toArray, List.set_cons_zero, List.set_cons_succ]
          refine btake 1 (oi := _) (v := ?_) (by simp only [List.getElem?_toArray, List.getElem?_cons_succ, List.getElem?_cons_zero]; rfl) (by kernel_rfl) (by exact fun _ _ _ h => h) (by first | assumption | exact KB.refl _) (.inl ⟨by rfl, fun W hW => ?_⟩) ?_; rotate_left
          · (go_simp; first | done | with_reducible rfl)
          try simp only [Act.put, List.setIfInBounds_toArray, List.set_cons_zero, List.set_cons_succ]
          refine btake 2 (oi := _) (v := ?_) (by simp only [List.getElem?_toArray, List.getElem?_cons_succ, List.getElem?_cons_zero]; rfl) (by kernel_rfl) (by exact fun _ _ _ h => h) (by first | assumption | exact KB.refl _) (.inl ⟨by rfl, fun W hW => ?_⟩) ?_; rotate_left
          · (go_simp; first | done | with_reducible rfl)
          try simp only [Act.put, List.setIfInBounds_toArray, List.set_cons_zero, List.set_cons_succ]
          refine btake 3 (oi := _) (v := ?_) (by simp only [List.getElem?_toArray, List.getElem?_cons_succ, List.getElem?_cons_zero]; rfl) (by kernel_rfl) (by exact fun _ _ _ h => h) (by first | assumption | exact KB.refl _) (.inl ⟨by rfl, fun W hW => ?_⟩) ?_; rotate_left
          · (go_simp; first | done | with_reducible rfl)
          try simp only [Act.put, List.setIfInBounds_toArray, List.set_cons_zero, List.set_cons_succ]
          refine btake 4 (oi := _) (v := ?_) (by simp only [List.getElem?_toArray, List.getElem?_cons_succ, List.getElem?_cons_zero]; rfl) (by kernel_rfl) (by exact fun _ _ _ h => h) (by first | assumption | exact KB.refl _) (.inl ⟨by rfl, fun W hW => ?_⟩) ?_; rotate_left
          · (go_simp; first | done | with_reducible rfl)
          try simp only [Act.put, List.setIfInBounds_toArray, List.set_cons_zero, List.set_cons_succ]
          refine btake 5 (oi := _) (v := ?_) (by simp only [List.getElem?_toArray, List.getElem?_cons_succ, List.getElem?_cons_zero]; rfl) (by kernel_rfl) (by exact fun _ _ _ h => h) (by first | assumption | exact KB.refl _) (.inl ⟨by rfl, fun W hW => ?_⟩) ?_; rotate_left
          · (go_simp; first | done | with_reducible rfl)
          try simp only [Act.put, List.setIfInBounds_toArray, List.set_cons_zero, List.set_cons_succ]
          refine btake 6 (oi := _) (v := ?_) (by simp only [List.getElem?_toArray, List.getElem?_cons_succ, List.getElem?_cons_zero]; rfl) (by kernel_rfl) (by exact fun _ _ _ h => h) (by first | assumption | exact KB.refl _) (.inl ⟨by rfl, fun W hW => ?_⟩) ?_; rotate_left
          · (go_simp; first | done | with_reducible rfl)
          try simp only [Act.put, List.setIfInBounds_toArray, List.set_cons_zero, List.set_cons_succ]
          refine btake 7 (oi := _) (v := ?_) (by simp only [List.getElem?_toArray, List.getElem?_cons_succ, List.getElem?_cons_zero]; rfl) (by kernel_rfl) (by exact fun _ _ _ h => h) (by first | assumption | exact KB.refl _) (.inl ⟨by rfl, fun W hW => ?_⟩) ?_; rotate_left
          · (go_simp; first | done | with_reducible rfl)
          try simp only [Act.put, List.setIfInBounds_toArray, List.set_cons_zero, List.set_cons_succ]
          refine btake 8 (oi := _) (v := ?_) (by simp only [List.getElem?_toArray, List.getElem?_cons_succ, List.getElem?_cons_zero]; rfl) (by kernel_rfl) (by exact fun _ _ _ h => h) (by first | assumption | exact KB.refl _) (.inl ⟨by rfl, fun W hW => ?_⟩) ?_; rotate_left
          · (go_simp; first | done | with_reducible rfl)
          try simp only [Act.put, List.setIfInBounds_toArray, List.set_cons_zero, List.set_cons_succ]
          refine btake 9 (oi := _) (v := ?_) (by simp only [List.getElem?_toArray, List.getElem?_cons_succ, List.getElem?_cons_zero]; rfl) (by kernel_rfl) (by exact fun _ _ _ h => h) (by first | assumption | exact KB.refl _) (.inl ⟨by rfl, fun W hW => ?_⟩) ?_; rotate_left
          · (go_simp; first | done | with_reducible rfl)
          try simp only [Act.put, List.setIfInBounds_toArray, List.set_cons_zero, List.set_cons_succ]
          refine btake 10 (oi := _) (v := ?_) (by simp only [List.getElem?_toArray, List.getElem?_cons_succ, List.getElem?_cons_zero]; rfl) (by kernel_rfl) (by exact fun _ _ _ h => h) (by first | assumption | exact KB.refl _) (.inl ⟨by rfl, fun W hW => ?_⟩) ?_; rotate_left
          · (go_simp; first | done | with_reducible rfl)
          try simp only [Act.put, List.setIfInBounds_toArray, List.set_cons_zero, List.set_cons_succ]
          refine btake 11 (oi := _) (v := ?_) (by simp only [List.getElem?_toArray, List.getElem?_cons_succ, List.getElem?_cons_zero]; rfl) (by kernel_rfl) (by exact fun _ _ _ h => h) (by first | assumption | exact KB.refl _) (.inl ⟨by rfl, fun W hW => ?_⟩) ?_; rotate_left
          · (go_simp; first | done | with_reducible rfl)
          try simp only [Act.put, List.setIfInBounds_toArray, List.set_cons_zero, List.set_cons_succ]
          refine bdone (by kernel_rfl) ?_
          have hwd := Below.refl wr.heap.size wr
          have hSr : Sl wr.drew wr.drew.heap.size A' (bv p) := (hSp.below hbel).more hbel.size
          have hAb : ∀ a, A' = some a → p ≠ [] → a.block ≠ gh := fun a e hne => by
            have := hSp.blk a e (fun h => hne (by simpa [bv] using h))
            omega
          have hHd : HStands wr.drew gh lo1 (stW l) := hH
          have hOd : HStands wr.drew go lo2 s2 := hO
          have hownd : OwnB wr.drew base (.slice A7 q7 c7) l := hown
          have hbd := hbel.drew
          have hbased : base ≤ wr.drew.heap.size := hbase
          clear hH hO hown hbel hbase hcc hmI hwd
          generalize wr.drew = wd at *
          go_wp2_with fail
          refine (Write_any2 wd gh lo1 wd.heap.size (by omega) (Nat.le_refl _) (stW l) hHd (stW_ok l) A' mq c' p hSr hAb HP.out.symm (by omega)).mono ?_
          rintro e w4 ⟨rfl, hH4, hg4⟩
          rw [stW_write] at hH4
          have hsz4 := hg4.size
          have hO4 := hOd.grown hg4 (by intro e; injection e with e; omega) (fun b e => by injection e with e; omega)
          have hown4 := hownd.keep hg4 (.inr (own_above hownd hghb))
          have hb4 := hbd.trans (below_of_grown hg4 (fun b e => by injection e with e; omega) hbd.size)
          have hS4 : Sl w4 w4.heap.size A2 (bv l2) := (hS2.below hb4).more hb4.size
          have hAb2 : ∀ a, A2 = some a → l2 ≠ [] → a.block ≠ go := fun a e hne => by
            have := hS2.blk a e (fun h => hne (by simpa [bv] using h))
            omega
          have hlob : ∀ b, (Value.slice A7 q7 c7).ownBlock = some b → base ≤ b ∧ b < wd.heap.size := fun b e => hownd.lt b e
          clear hHd hOd hownd hbd hSr hg4
          go_wp2_with fail
          refine (Write_any2 w4 go lo2 w4.heap.size (by omega) (Nat.le_refl _) s2 hO4 hok2 A2 m2 c2 l2 hS4 hAb2 HN.out.2.1 (by omega)).mono ?_
          rintro e w5 ⟨rfl, hO5, hg5⟩
          have hsz5 := hg5.size
          have hH5 := hH4.grown hg5 (by intro e; injection e with e; omega) (fun b e => by injection e with e; omega)
          have hown5 := hown4.keep hg5 (.inr (own_above hown4 (by omega)))
          have hb5 := hb4.trans (below_of_grown hg5 (fun b e => by injection e with e; omega) hb4.size)
          have hok5 := Hs.write_ok hok2 l2
          generalize s2.write l2 = s3 at *
          have hS5 : Sl w5 w5.heap.size A' (bv p) := (hSp.below hb5).more hb5.size
          clear hO4 hok2 hH4 hown4 hb4 hg5 hS4
          go_wp2_with (at_builtin; go_loud (refine app rfl rfl hown5 hS5 HP.out.symm rfl rfl (by have := HP.out; omega) (by omega) ?_); intro v6 w6 h6 hg6 hat6; obtain ⟨A8, c8, rfl, hc8, hm8, hs8, _, _⟩ := h6.form; obtain ⟨q8, hq8⟩ : ∃ q8, q8 = (l ++ p).length := ⟨_, rfl⟩; rw [← hq8] at h6 ⊢; have HQ8 := Lib.hid hq8; clear hq8)
          have hsz6 := hg6.size
          have hH6 := hH5.grown hg6 (fun e => by have := (hlob _ e).1; omega) (fun b e => by have := (hlob b e).2; omega)
          have hO6 := hO5.grown hg6 (fun e => by have := (hlob _ e).1; omega) (fun b e => by have := (hlob b e).2; omega)
          have hb6 := hb5.trans (below_of_grown hg6 (fun b e => by have := (hlob b e).1; omega) hb5.size)
          clear hH5 hO5 hown5 hb5 hg6 hat6 hS5 hlob
          have hll' : (l ++ p).length ≤ 150 * (j + 1) := by rw [List.length_append, HP.out]; omega
          generalize l ++ p = l' at *
          have hsc : SlcIs w6 (.slice A8 q8 c8) l' := ⟨A8, c8, by rw [HQ8.out], hs8, hc8, hm8⟩
          have hSum := ShaSum_any (w6.alloc (.cells #[.slice A8 q8 c8] 24)) (some ⟨w6.heap.size, 0, none⟩) 1 1 [l'] (Mat.one w6 24 _ l' hsc) rfl (by omega) (by simp; omega)
          have hss : sumS [l'] = dgS l' := by rw [sumS_flat]; simp
          have hst := stW_sum l'
          have hdl : (dgS l').length = 32 := idOf_len _ _
          rw [hss] at hSum
          generalize dgS l' = D at *
          have HD := Lib.hid (And.intro hst (And.intro hdl (show (bv D).length = 32 by rw [bv_len, hdl])))
          clear hsc hss hst hdl hs8 hc8 hm8 hSp
          refine hSum.mono ?_
          clear hSum
          rintro e w7 ⟨rfl, hb7⟩
          have hb67 : Below w6.heap.size w6 w7 := (balloc (Below.refl _ _) _).trans (hb7.mono (by simp))
          have hX0 := At.new w7 26 (bv z32).toArray
          have hX1 := hX0.putL (bv D) (by rw [HD.out.2.2]; rfl)
          have hb68 := below_putL (bv D) 0 (balloc hb67 (.cells (bv z32).toArray 26)) hb67.size
          have HX := Lib.hid hX0
          clear hX0 hb7 hb67
          go_wp2_with (first
            | (refine opVal rfl (ex_al32 rfl) ?_)
            | (refine opSkip rfl (ex_st32 rfl rfl rfl HX.out rfl HD.out.2.2 (bv_one _)) ?_))
          clear HX
          generalize putL _ w7.heap.size 0 (bv D) = w8 at *
          generalize w7.heap.size = gx at *
          have hkb : PaS gx gh go wd.heap.size w4.heap.size base D l' (stW l') s3 (.slice A8 q8 c8) w w8.drew := ⟨hX1, hH6.below hb68.drew, hO6.below hb68.drew, h6.below hb68.drew, (hb6.trans (hb68.mono hb6.size)).drew, by have := hb68.size; show base ≤ w8.heap.size; omega⟩
          clear hX1 hH6 hO6 h6 hb68 hb6
          refine bstartS (PaS gx gh go wd.heap.size w4.heap.size base D l' (stW l') s3 (.slice A8 q8 c8) w) (by kernel_rfl) ?_
          refine btakeS 0 (oi := _) (v := ?_) (by simp only [List.getElem?_toArray, List.getElem?_cons_zero]; rfl) (by kernel_rfl) (by exact fun _ _ _ h => h) (by first | assumption | exact KB.refl _) (.inl ⟨by rfl, fun W hW => ?_⟩) ?_; rotate_left
          · (go_simp; first | done | with_reducible rfl)
          try simp only [Act.put, List.setIfInBounds_toArray, List.set_cons_zero, List.set_cons_succ]
          refine btakeS 2 (oi := _) (v := ?_) (by simp only [List.getElem?_toArray, List.getElem?_cons_succ, List.getElem?_cons_zero]; rfl) (by kernel_rfl) (by exact fun _ _ _ h => h) (by first | assumption | exact KB.refl _) (.inl ⟨by rfl, fun W hW => ?_⟩) ?_; rotate_left
          · refine Eq.trans (ex_ld32 (by rfl) (by rfl) hW.1 HD.out.2.2) ?_
            with_reducible rfl
          try simp only [Act.put, List.setIfInBounds_toArray, List.set_cons_zero, List.set_cons_succ]
          -- 1: (*newsreel/sha.Hash).Sum
          refine bopS 1 (o := _) (by simp only [List.getElem?_toArray, List.getElem?_cons_succ, List.getElem?_cons_zero]; rfl) (by kernel_rfl) (by rfl) (fun K hK => ?_)
          go_simp
          refine (HSum_any _ gh _ (stW l') hkb.2.1 (stW_ok l')).mono ?_
          rintro e w9 ⟨rfl, hb9⟩
          rw [HD.out.1]
          replace hkb := hkb.below hb9
          clear hb9
          refine hK.out _ _ hkb ?_; clear hK K
          try simp only [Act.put, List.setIfInBounds_toArray, List.set_cons_zero, List.set_cons_succ]
          refine btakeS 3 (oi := _) (v := ?_) (by simp only [List.getElem?_toArray, List.getElem?_cons_succ, List.getElem?_cons_zero]; rfl) (by kernel_rfl) (by exact fun _ _ _ h => h) (by first | assumption | exact KB.refl _) (.inl ⟨by rfl, fun W hW => ?_⟩) ?_; rotate_left
          · refine Eq.trans (ex_ne32f (by rfl) (by rfl) (by rfl) HD.out.2.1) ?_
            with_reducible rfl
          try simp only [Act.put, List.setIfInBounds_toArray, List.set_cons_zero, List.set_cons_succ]
          refine btakeS 4 (oi := _) (v := ?_) (by simp only [List.getElem?_toArray, List.getElem?_cons_succ, List.getElem?_cons_zero]; rfl) (by kernel_rfl) (by exact fun _ _ _ h => h) (by first | assumption | exact KB.refl _) (.inl ⟨by rfl, fun W hW => ?_⟩) ?_; rotate_left
          · (go_simp; first | done | with_reducible rfl)
          try simp only [Act.put, List.setIfInBounds_toArray, List.set_cons_zero, List.set_cons_succ]
          refine btakeS 5 (oi := _) (v := ?_) (by simp only [List.getElem?_toArray, List.getElem?_cons_succ, List.getElem?_cons_zero]; rfl) (by kernel_rfl) (by exact fun _ _ _ h => h) (by first | assumption | exact KB.refl _) (.inl ⟨by rfl, fun W hW => ?_⟩) ?_; rotate_left
          · (go_simp; first | done | with_reducible rfl)
          try simp only [Act.put, List.setIfInBounds_toArray, List.set_cons_zero, List.set_cons_succ]
          refine btakeS 7 (oi := _) (v := ?_) (by simp only [List.getElem?_toArray, List.getElem?_cons_succ, List.getElem?_cons_zero]; rfl) (by kernel_rfl) (by exact fun _ _ _ h => h) (by first | assumption | exact KB.refl _) (.inl ⟨by rfl, fun W hW => ?_⟩) ?_; rotate_left
          · refine Eq.trans (ex_ld32 (by rfl) (by rfl) hW.1 HD.out.2.2) ?_
            with_reducible rfl
          try simp only [Act.put, List.setIfInBounds_toArray, List.set_cons_zero, List.set_cons_succ]
          -- 6: (*newsreel/sha.Hash).Sum
          refine bopS 6 (o := _) (by simp only [List.getElem?_toArray, List.getElem?_cons_succ, List.getElem?_cons_zero]; rfl) (by kernel_rfl) (by rfl) (fun K hK => ?_)
          go_simp
          refine (HSum_any _ gh _ (stW l') hkb.2.1 (stW_ok l')).mono ?_
          rintro e w9 ⟨rfl, hb9⟩
          rw [HD.out.1]
          replace hkb := hkb.below hb9
          clear hb9
          refine hK.out _ _ hkb ?_; clear hK K
          try simp only [Act.put, List.setIfInBounds_toArray, List.set_cons_zero, List.set_cons_succ]
          refine btakeS 8 (oi := _) (v := ?_) (by simp only [List.getElem?_toArray, List.getElem?_cons_succ, List.getElem?_cons_zero]; rfl) (by kernel_rfl) (by exact fun _ _ _ h => h) (by first | assumption | exact KB.refl _) (.inl ⟨by rfl, fun W hW => ?_⟩) ?_; rotate_left
          · refine Eq.trans (ex_ne32f (by rfl) (by rfl) (by rfl) HD.out.2.1) ?_
            with_reducible rfl
          try simp only [Act.put, List.setIfInBounds_toArray, List.set_cons_zero, List.set_cons_succ]
          refine btakeS 9 (oi := _) (v := ?_) (by simp only [List.getElem?_toArray, List.getElem?_cons_succ, List.getElem?_cons_zero]; rfl) (by kernel_rfl) (by exact fun _ _ _ h => h) (by first | assumption | exact KB.refl _) (.inl ⟨by rfl, fun W hW => ?_⟩) ?_; rotate_left
          · (go_simp; first | done | with_reducible rfl)
          try simp only [Act.put, List.setIfInBounds_toArray, List.set_cons_zero, List.set_cons_succ]
          refine bdoneS (by kernel_rfl) ?_
          obtain ⟨_, hH9, hO9, hown9, hb9, hbase9⟩ := hkb
          go_wp2_with fail
          go_roundw
          case rel => exact ⟨j + 1, wd.heap.size, w4.heap.size, l', s3, by omega, by go_num, hown9, hll', hH9, hO9, hok5, by omega, by omega, hb9, hbase9⟩
          case measure => simp [intOf] <;> omega
        · obtain rfl : j = n := by omega
          have hdl : (dgS l).length = 32 := idOf_len _ _
          have hff : [l].flatten = l := by simp
          have hst := stW_sum l
          have hok := stW_ok l
          have hgk : GK wr := HN.out.2.2.below hbel
          obtain ⟨A9, c9, e9, hc9, hm9, hs9, _, _⟩ := hown.form
          injection e9 with e91 e92 e93
          subst e91 e93
          have hsc : SlcIs wr (.slice A7 q7 c7) l := ⟨A7, c7, by rw [HQ7.out], hs9, hc9, hm9⟩
          have H2 := fun (W : World) (hb : Below wr.heap.size wr W) => Digest_any (W.alloc (.cells #[.slice A7 q7 c7] 24)) ((hgk.below hb).below (balloc (Below.refl _ _) _)) (some ⟨W.heap.size, 0, none⟩) 1 1 [l] (Mat.one W 24 _ l (hsc.below hb)) rfl (by omega) (by simp; omega)
          simp only [hff] at H2
          generalize dgS l = D at *
          have HH := Lib.hid (And.intro H2 (And.intro hst hdl))
          clear H2 hst hdl hff hgk hsc hown hs9 hc9 hm9 e92 hM
          go_wp2_with fail
          refine (HSum_any wr gh lo1 (stW l) hH hok).mono ?_
          rintro e w2 ⟨rfl, hb2⟩
          rw [HH.out.2.1]
          go_wp2_with fail
          refine (HH.out.1 w2 hb2).mono ?_
          rintro e w3 ⟨rfl, hb3⟩
          have hk3 : Below wr.heap.size wr w3 := (hb2.alloc hb2.size _).trans (hb3.mono (by have := hb2.size; simp; omega))
          have hfin := hbel.trans (hk3.mono hbel.size)
          go_wp2_with (refine opVal rfl (ex_eq32t rfl rfl rfl HH.out.2.2) ?_)
          go_ret
          exact ⟨rfl, hfin⟩
    · have hd2 : (300 : Int) < (m2 : Int) := by omega
      go_wp2_with fail
      go_ret
      exact ⟨rfl, hb1⟩
  · have hd1 : (12 : Int) < (n : Int) := by omega
    go_wp2_with fail
    go_ret
    exact ⟨rfl, hb1⟩
end Go.Proofs.YtjbelkpmbbkhgaaDoor

