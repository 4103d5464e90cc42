/- Digests: Write. -/
import Derived.Test.YtjbelkpmbbkhgaaShH
import Derived.Test.YtjbelkpmbbkhgaaS3
namespace Go.Proofs.Ytjbelkpmbbkhgaa
open Go.RowKit Go.Proofs.Ytjbelkpmbbkhgaa.Sh

theorem tail9 {h : List Nat} (hh : h.length = 8) (a b v : Value) : (u32s h ++ [a, b]).set 9 v = u32s h ++ [a, v] := by
  obtain ⟨x0, x1, x2, x3, x4, x5, x6, x7, rfl⟩ := explode8 hh
  rfl
theorem tail8 {h : List Nat} (hh : h.length = 8) (a b v : Value) : (u32s h ++ [a, b]).set 8 v = u32s h ++ [v, b] := by
  obtain ⟨x0, x1, x2, x3, x4, x5, x6, x7, rfl⟩ := explode8 hh
  rfl
theorem get8 {h : List Nat} (hh : h.length = 8) (a b : Value) : (u32s h ++ [a, b])[8]? = some a := by
  obtain ⟨x0, x1, x2, x3, x4, x5, x6, x7, rfl⟩ := explode8 hh
  rfl
theorem get9 {h : List Nat} (hh : h.length = 8) (a b : Value) : (u32s h ++ [a, b])[9]? = some b := by
  obtain ⟨x0, x1, x2, x3, x4, x5, x6, x7, rfl⟩ := explode8 hh
  rfl
theorem kb0 (W : World) : KB #[] W := ⟨Nat.zero_le _, fun k hk => absurd hk (Nat.not_lt_zero k)⟩
def slN : Value → Nat
  | .slice _ n _ => n
  | _ => 0
theorem Sl.gr {w w' : World} {B g : Nat} {A : Option Addr} {xs : List Value} (h : Sl w B A xs) (hg : w.grownBy w' (some g)) (hne : ∀ a, A = some a → a.block ≠ g) : Sl w' B A xs := by
  rcases h with h4 | ⟨b, o, e, hb, hb2, hc⟩
  · exact .inl h4
  · refine .inr ⟨b, o, e, hb, Nat.lt_of_lt_of_le hb2 hg.size, fun j u hu => ?_⟩
    have hbk := hg.block b hb2 (fun hh => by injection hh with hh; exact hne _ e hh)
    exact (World.cell?_of_block (w := w) hbk).trans (hc j u hu)
theorem grown_set {w w' : World} {g : Nat} (h : w.grownBy w' (some g)) (o : Nat) (v : Value) : w.grownBy (w'.setCell ⟨g, o, none⟩ v) (some g) := grown_putL [v] o h (.inl rfl)
set_option maxRecDepth 100000 in
set_option maxHeartbeats 3200000 in
theorem Write_any (w : World) (g lo : Nat) (s : Hs) (hs : HStands w g lo s) (hok : s.ok) (A : Option Addr) (n c : Nat) (l : List UInt8) (hb : Sl w w.heap.size A (bv l)) (hbl : ∀ a, A = some a → l ≠ [] → a.block ≠ g) (h0 : n = l.length) (hl : n ≤ 1000000) :
    Calls Try.prog 14 #[.pointer (some ⟨g, 0, none⟩), .slice A n c] w fun e w' => e = .returned (.tuple #[]) ∧ HStands w' g lo (s.write l) ∧ w.grownBy w' (some g) := by
  obtain ⟨h, r, N⟩ := s
  obtain ⟨hglo, hlo, R, rc, hA, hR, hRb, hRc, hRm⟩ := hs
  obtain ⟨hh8, hr64, hN⟩ := hok
  simp only at *
  have HW : (Hs.mk h r N).write l = ⟨mixK h (r ++ l) ((r ++ l).length / 64), (r ++ l).drop (64 * ((r ++ l).length / 64)), (N + l.length) % 18446744073709551616⟩ := rfl
  generalize (Hs.mk h r N).write l = sw at HW ⊢
  obtain ⟨m, hm⟩ : ∃ m, m = r.length := ⟨_, rfl⟩
  rw [← hm] at hA hr64 hRc
  obtain ⟨M, hM⟩ : ∃ M, M = (N + n) % 18446744073709551616 := ⟨_, rfl⟩
  rw [← h0, ← hM] at HW
  have i0 : IntKind.u64.wrap (n : Int) = (n : Int) := by rw [IntKind.wrap_u64]; omega
  have i1 : IntKind.u64.wrap ((N : Int) + (n : Int)) = (M : Int) := by rw [IntKind.wrap_u64]; omega
  have c9 := hA.c 9 (get9 hh8.1 _ _)
  have f9 := hA.f 9 (get9 hh8.1 _ _)
  have hA1 := hA.set 9 (.int .u64 (M : Int)) (by simp [u32s_len, hh8.1])
  rw [tail9 hh8.1] at hA1
  have hg1 := grown_set (grown_of_below (Below.refl w.heap.size w) (some g)) 9 (.int .u64 (M : Int))
  have c8 := hA1.c 8 (get8 hh8.1 _ _)
  have hR1 : Sl (w.setCell ⟨g, 9, none⟩ (.int .u64 (M : Int))) w.heap.size R (bv r) := by
    rcases hR with h4 | ⟨b, o, e, hb, hb2, hc⟩
    · exact .inl h4
    · refine .inr ⟨b, o, e, by simpa using hb, by simpa using hb2, fun j u hu => ?_⟩
      rw [World.cell?_setCell_other _ _ _ _ (by intro e2; have := hRb _ e; injection e2 with e3; simp only at this; omega)]
      exact hc j u hu
  have hb1 : Sl (w.setCell ⟨g, 9, none⟩ (.int .u64 (M : Int))) w.heap.size A (bv l) := by
    rcases hb with h4 | ⟨b, o, e, hb, hb2, hc⟩
    · exact .inl h4
    · refine .inr ⟨b, o, e, by simpa using hb, by simpa using hb2, fun j u hu => ?_⟩
      rw [World.cell?_setCell_other _ _ _ _ (by intro e2; have := hbl _ e (by rintro rfl; simp at hu); injection e2 with e3; exact this e3.symm)]
      exact hc j u hu
  have hN0 : (0 : Int) ≤ (n : Int) := by omega
  have HM := Lib.hid (And.intro hm h0)
  replace HW := Lib.hid HW
  have HB := Lib.hid (And.intro hb1 hR1)
  clear hm h0 hM hb1 hR1 hA
  go_enter Try.func14, Try.ntmps14
  go_wp2_with fail
  clear c9 f9 c8 i0 i1
  have hsz : (w.setCell ⟨g, 9, none⟩ (.int .u64 (M : Int))).heap.size = w.heap.size := by simp
  refine (Clone_any _ _ R m rc r HB.out.2 HM.out.1 (by have := HM.out.1; omega)).mono ?_
  rintro e w2 ⟨A2, c2, rfl, hown2, hb2⟩
  rw [hsz] at hown2 hb2
  have hA2 := hA1.below (by rw [hsz]; exact hb2)
  have hl2 : Sl w2 w.heap.size A (bv l) := HB.out.1.below hb2
  have hg2 := grown_step hg1 (grown_of_below (by rw [hsz]; exact hb2) (some g)) (.inl rfl)
  have hsz2 : w.heap.size ≤ w2.heap.size := by have := hb2.size; rw [hsz] at this; exact this
  clear hA1 hg1 hb2 HB
  generalize w.setCell ⟨g, 9, none⟩ (.int .u64 (M : Int)) = w1 at *
  rw [← HM.out.1] at hown2 ⊢
  go_wp2_with (at_builtin; refine app rfl rfl hown2 hl2 HM.out.2 rfl rfl (by have := HM.out.1; have := HM.out.2; omega) hsz2 ?_; intro v3 w3 h3 hg3 hat3)
  have hA3 : At w3 g (u32s h ++ [.slice R m rc, .int .u64 (M : Int)]) := hA2.grown hg3 (own_above hown2 (by omega))
  have hg4 : w.grownBy w3 (some g) := grown_step hg2 hg3 (.inr fun b e => (hown2.lt _ e).1)
  obtain ⟨A3, c3, rfl, hc3, hm3, hs3, _, ha3⟩ := h3.form
  have hlo3 : ∀ a, A3 = some a → lo ≤ a.block := fun a e => Nat.le_trans hlo (ha3 a e).1
  clear hA2 hl2 hg2 hg3 hat3 hown2 h3 ha3 hsz2 hR hb
  have HALL := Lib.hid (show (r ++ l).length ≤ 2000000 by rw [List.length_append, ← HM.out.1, ← HM.out.2]; omega)
  generalize r ++ l = all at *
  obtain ⟨L, hL⟩ : ∃ L, L = all.length := ⟨_, rfl⟩
  rw [← hL] at hc3 ⊢
  have HL := Lib.hid hL
  clear hL
  go_loopw [4] (fun x4 wr => ∃ k A' n' c', 64 * k + n' = L ∧ x4 = .slice A' n' c' ∧ Sl wr wr.heap.size A' (bv (all.drop (64 * k))) ∧ n' ≤ c' ∧ c' ≤ maxLen ∧ (∀ a, A' = some a → lo ≤ a.block) ∧ At wr g (u32s (mixK h all k) ++ [.slice R m rc, .int .u64 (M : Int)]) ∧ w.grownBy wr (some g)) (fun x4 _ => slN x4)
  case atStart => exact ⟨0, A3, L, c3, by omega, rfl, hs3, hc3, hm3, hlo3, hA3, hg4⟩
  case round =>
    clear hA3 hg4 hs3 hc3 hm3 hlo3
    obtain ⟨k, A', n', c', hk, rfl, hS, hc, hm, hlo', hA, hg⟩ := hrel
    have hKok := mixK_ok hh8 all k
    have hstep : mixK h all (k + 1) = mixS (mixK h all k) (all.drop (64 * k)) := rfl
    have hln : n' = (all.drop (64 * k)).length := by rw [List.length_drop, ← HL.out]; omega
    have hcut := hS.cut 64 c' (by rw [bv_len, ← hln]; exact hc)
    rw [bv_drop, List.drop_drop] at hcut
    have HLN := Lib.hid hln
    have HALN := HALL.out
    rw [← HL.out] at HALN
    by_cases hlt : 64 ≤ n'
    · generalize mixK h all k = hk8 at *
      generalize all.drop (64 * k) = bk at *
      have hst := Lib.hid hstep
      have h64 : (64 : Int) ≤ (n' : Int) := by omega
      have h64c : (64 : Int) ≤ (c' : Int) := by omega
      have hnc : (n' : Int) ≤ (c' : Int) := by omega
      clear hln hstep
      go_wp2_with fail
      have hS0 : KB #[] wr.drew := kb0 _
      have hAd := hA.drew
      have hSd : Sl wr.drew wr.drew.heap.size A' (bv bk) := hS
      have hgd : w.grownBy wr.drew (some g) := grown_step hg (grown_of_below (Below.refl wr.heap.size wr).drew (some g)) (.inl rfl)
      have hcd : Sl wr.drew wr.drew.heap.size (if c' = 64 then A' else A'.map (·.add 64)) (bv (all.drop (64 * k + 64))) := hcut
      have hcl : ∀ a, (if c' = 64 then A' else A'.map (·.add 64)) = some a → lo ≤ a.block := by
        intro a ha
        split at ha
        · exact hlo' a ha
        · rcases A' with _ | p
          · cases ha
          · simp only [Option.map_some] at ha
            cases ha
            exact hlo' p rfl
      have HMIX := Lib.hid (mix_any wr.drew A' n' c' hk8 hKok bk hSd HLN.out hlt (by omega))
      clear hA hS hg hcut
      refine bstartH (#[]) (by kernel_rfl) ?_
      refine btake 0 (oi := _) (v := ?_) (by simp only [List.getElem?_toArray, List.getElem?_cons_zero]; rfl) (by kernel_rfl) (by exact fun _ _ _ h => h) (by first | assumption | exact KB.refl _) (.inl ⟨by rfl, fun W hW => ?_⟩) ?_; rotate_left
      · (go_simp; first | done | with_reducible rfl)
      try simp only [Act.put, List.setIfInBounds_toArray, List.set_cons_zero, List.set_cons_succ]
      refine btake 1 (oi := _) (v := ?_) (by simp only [List.getElem?_toArray, List.getElem?_cons_succ, List.getElem?_cons_zero]; rfl) (by kernel_rfl) (by exact fun _ _ _ h => h) (by first | assumption | exact KB.refl _) (.inl ⟨by rfl, fun W hW => ?_⟩) ?_; rotate_left
      · (go_simp; first | done | with_reducible rfl)
      try simp only [Act.put, List.setIfInBounds_toArray, List.set_cons_zero, List.set_cons_succ]
      refine btake 2 (oi := _) (v := ?_) (by simp only [List.getElem?_toArray, List.getElem?_cons_succ, List.getElem?_cons_zero]; rfl) (by kernel_rfl) (by exact fun _ _ _ h => h) (by first | assumption | exact KB.refl _) (.inl ⟨by rfl, fun W hW => ?_⟩) ?_; rotate_left
      · (go_simp; first | done | with_reducible rfl)
      try simp only [Act.put, List.setIfInBounds_toArray, List.set_cons_zero, List.set_cons_succ]
      refine btake 3 (oi := _) (v := ?_) (by simp only [List.getElem?_toArray, List.getElem?_cons_succ, List.getElem?_cons_zero]; rfl) (by kernel_rfl) (by exact fun _ _ _ h => h) (by first | assumption | exact KB.refl _) (.inl ⟨by rfl, fun W hW => ?_⟩) ?_; rotate_left
      · (go_simp; first | done | with_reducible rfl)
      try simp only [Act.put, List.setIfInBounds_toArray, List.set_cons_zero, List.set_cons_succ]
      refine btake 5 (oi := _) (v := ?_) (by simp only [List.getElem?_toArray, List.getElem?_cons_succ, List.getElem?_cons_zero]; rfl) (by kernel_rfl) (by exact fun _ _ _ h => h) (by first | assumption | exact KB.refl _) (.inl ⟨by rfl, fun W hW => ?_⟩) ?_; rotate_left
      · (go_simp; first | done | with_reducible rfl)
      try simp only [Act.put, List.setIfInBounds_toArray, List.set_cons_zero, List.set_cons_succ]
      refine btake 7 (oi := _) (v := ?_) (by simp only [List.getElem?_toArray, List.getElem?_cons_succ, List.getElem?_cons_zero]; rfl) (by kernel_rfl) (by exact fun _ _ _ h => h) (by first | assumption | exact KB.refl _) (.inl ⟨by rfl, fun W hW => ?_⟩) ?_; rotate_left
      · (go_simp; first | done | with_reducible rfl)
      try simp only [Act.put, List.setIfInBounds_toArray, List.set_cons_zero, List.set_cons_succ]
      refine btake 8 (oi := _) (v := ?_) (by simp only [List.getElem?_toArray, List.getElem?_cons_succ, List.getElem?_cons_zero]; rfl) (by kernel_rfl) (by exact fun _ _ _ h => h) (by first | assumption | exact KB.refl _) (.inl ⟨by rfl, fun W hW => ?_⟩) ?_; rotate_left
      · (go_simp; first | done | with_reducible rfl)
      try simp only [Act.put, List.setIfInBounds_toArray, List.set_cons_zero, List.set_cons_succ]
      -- 4: Op.load 46 (Operand.tmp 30)
      refine bopH 4 (o := _) (by simp only [List.getElem?_toArray, List.getElem?_cons_succ, List.getElem?_cons_zero]; rfl) (by kernel_rfl) (by first | assumption | exact KB.refl _) (by rfl) (fun K hK => ?_)
      refine wpVal (ex_ld8 rfl rfl hAd.pre (by rw [u32s_len, hKok.1])) ?_
      have hkb := hS0
      refine hK.out _ _ hkb ?_; clear hK K
      try simp only [Act.put, List.setIfInBounds_toArray, List.set_cons_zero, List.set_cons_succ]
      -- 6: newsreel/sha.mix
      refine bopH 6 (o := _) (by simp only [List.getElem?_toArray, List.getElem?_cons_succ, List.getElem?_cons_zero]; rfl) (by kernel_rfl) (by first | assumption | exact KB.refl _) (by rfl) (fun K hK => ?_)
      go_simp
      refine HMIX.out.mono ?_
      rintro e w5 ⟨rfl, hb5⟩
      have hA5 := hAd.below hb5
      have hg5 := grown_step hgd (grown_of_below hb5 (some g)) (.inl rfl)
      have hc5 := (hcd.below hb5).more hb5.size
      have hkb : KB #[] w5 := kb0 _
      clear hAd hSd hgd hcd HMIX hb5
      refine hK.out _ _ hkb ?_; clear hK K
      try simp only [Act.put, List.setIfInBounds_toArray, List.set_cons_zero, List.set_cons_succ]
      refine btake 9 (oi := _) (v := ?_) (by simp only [List.getElem?_toArray, List.getElem?_cons_succ, List.getElem?_cons_zero]; rfl) (by kernel_rfl) (by exact fun _ _ _ h => h) (by first | assumption | exact KB.refl _) (.inl ⟨by rfl, fun W hW => ?_⟩) ?_; rotate_left
      · (go_simp; first | done | with_reducible rfl)
      try simp only [Act.put, List.setIfInBounds_toArray, List.set_cons_zero, List.set_cons_succ]
      refine btake 10 (oi := _) (v := ?_) (by simp only [List.getElem?_toArray, List.getElem?_cons_succ, List.getElem?_cons_zero]; rfl) (by kernel_rfl) (by exact fun _ _ _ h => h) (by first | assumption | exact KB.refl _) (.inl ⟨by rfl, fun W hW => ?_⟩) ?_; rotate_left
      · (go_simp; first | done | with_reducible rfl)
      try simp only [Act.put, List.setIfInBounds_toArray, List.set_cons_zero, List.set_cons_succ]
      -- 11: Op.store 46 (Operand.tmp 37) (Operand.tmp 33)
      refine bopH 11 (o := _) (by simp only [List.getElem?_toArray, List.getElem?_cons_succ, List.getElem?_cons_zero]; rfl) (by kernel_rfl) (by first | assumption | exact KB.refl _) (by rfl) (fun K hK => ?_)
      refine wpSkip (w' := putL w5 g 0 (u32s (mixS hk8 bk))) (ex_st8 (us := u32s (mixS hk8 bk)) (old := u32s hk8) rfl rfl rfl hA5.pre (by rw [u32s_len, hKok.1]) (by rw [u32s_len, (mixS_ok hKok bk).1]) (u32s_one _)) ?_
      have hA6 := hA5.putF (u32s (mixS hk8 bk)) (by rw [u32s_len, u32s_len, (mixS_ok hKok bk).1, hKok.1])
      have hg6 := grown_putL (u32s (mixS hk8 bk)) 0 hg5 (.inl rfl)
      have hgx := grown_putL (u32s (mixS hk8 bk)) 0 (grown_of_below (Below.refl w5.heap.size w5) (some g)) (.inl rfl)
      have hc6 := (hc5.gr hgx (fun a e => by have := hcl a e; omega)).more hgx.size
      have hkb : KB #[] (putL w5 g 0 (u32s (mixS hk8 bk))) := kb0 _
      clear hA5 hg5 hc5 hgx
      generalize putL w5 g 0 (u32s (mixS hk8 bk)) = w6 at *
      refine hK.out _ _ hkb ?_; clear hK K
      try simp only [Act.put]
      refine btake 12 (oi := _) (v := ?_) (by simp only [List.getElem?_toArray, List.getElem?_cons_succ, List.getElem?_cons_zero]; rfl) (by kernel_rfl) (by exact fun _ _ _ h => h) (by first | assumption | exact KB.refl _) (.inl ⟨by rfl, fun W hW => ?_⟩) ?_; rotate_left
      · (go_simp; first | done | with_reducible rfl)
      try simp only [Act.put, List.setIfInBounds_toArray, List.set_cons_zero, List.set_cons_succ]
      refine bdone (by kernel_rfl) ?_
      go_wp2_with fail
      go_roundw
      case rel =>
        refine ⟨k + 1, _, n' - 64, c' - 64, by omega, rfl, ?_, by omega, by omega, hcl, ?_, hg6⟩
        · rw [show 64 * (k + 1) = 64 * k + 64 by omega]; exact hc6
        · rw [hst.out]; exact hA6
      case measure => simp [slN] <;> omega
    · have hq : L / 64 = k := by omega
      have hWE : sw = ⟨mixK h all k, all.drop (64 * k), M⟩ := by rw [HW.out, ← HL.out, hq]
      have h64 : ¬ (64 : Int) ≤ (n' : Int) := by omega
      have c8 := hA.c 8 (get8 hKok.1 _ _)
      clear HW hcut hstep hq hln hk
      generalize mixK h all k = hk8 at *
      generalize all.drop (64 * k) = bk at *
      replace hWE := Lib.hid hWE
      go_wp2_with fail
      refine (Clone_any _ _ A' n' c' bk hS HLN.out (by have := HLN.out; omega)).mono ?_
      rintro e w5 ⟨A5, c5, rfl, hown, hb5⟩
      have hA5 := hA.below hb5
      have hg5 := grown_step hg (grown_of_below hb5 (some g)) (.inl rfl)
      have c8 := hA5.c 8 (get8 hKok.1 _ _)
      have f8 := hA5.f 8 (get8 hKok.1 _ _)
      obtain ⟨A6, c6, e6, hc6, hm6, hs6, _, ha6⟩ := hown.form
      injection e6 with e7 e8 e9
      subst e7 e9
      have hsz := hg.size
      have hA6 := hA5.set 8 (.slice A5 bk.length c5) (by simp [u32s_len, hKok.1])
      rw [tail8 hKok.1] at hA6
      have hg6 := grown_set hg5 8 (.slice A5 bk.length c5)
      have hgx := grown_set (grown_of_below (Below.refl w5.heap.size w5) (some g)) 8 (.slice A5 bk.length c5)
      have hs7 := (hs6.gr hgx (fun a e => by have := (ha6 a e).1; omega)).more hgx.size
      have hfin : HStands (w5.setCell ⟨g, 8, none⟩ (.slice A5 bk.length c5)) g lo ⟨hk8, bk, M⟩ := ⟨hglo, by have := hg6.size; omega, A5, c5, hA6, hs7, fun a e => by have := (ha6 a e).1; omega, hc6, hm6⟩
      clear hA hg hS hA5 hg5 hs6 ha6 hA6 hgx hs7 hown hb5 e8 hsz
      go_wp2_with fail
      go_end0
      exact ⟨rfl, by rw [hWE.out]; exact hfin, hg6⟩
end Go.Proofs.Ytjbelkpmbbkhgaa

