/- Vectors: vector.rows. -/
import Derived.Test.YtaflikgdlkaefaaM03
import Derived.Test.YtaflikgdlkaefaaM04
import Derived.Test.YtaflikgdlkaefaaM05
import Derived.Test.YtaflikgdlkaefaaM08
import Derived.Test.YtaflikgdlkaefaaM09
namespace Go.Proofs.Ytaflikgdlkaefaa
open Go.RowKit Go.Maps Go.Proofs.Ytaflikgdlkaefaa.Pl Go.Proofs.Ytaflikgdlkaefaa.Sp Go.Proofs.Ytaflikgdlkaefaa.Ve
set_option maxRecDepth 20000

theorem Sl.set_other {w : World} {B : Nat} {A : Option Addr} {xs : List Value} (h : Sl w B A xs) {g o : Nat} {u : Value} (hne : ∀ a, A = some a → a.block ≠ g) : Sl (w.setCell ⟨g, o, none⟩ u) B A xs := by
  rcases h with h | ⟨b, o', e, h1, h2, h3⟩
  · exact .inl h
  · refine .inr ⟨b, o', e, h1, by simpa using h2, fun j v hv => ?_⟩
    rw [World.cell?_setCell_other _ _ _ _ (fun e' => hne _ e (by injection e' with e1; exact e1.symm))]
    exact h3 j v hv
/-- what the walk of rows holds through a region -/
def QR (g : Nat) (v : Value) (b : Nat) (L : List (Int × RSl)) (W : World) : Prop := At W g [v] ∧ MapIs MV W b L
theorem QR.below {w W : World} {g : Nat} {v : Value} {b : Nat} {L : List (Int × RSl)} (h : QR g v b L w) (hb : Below w.heap.size w W) : QR g v b L W := ⟨h.1.below hb, h.2.below hb⟩
set_option maxRecDepth 100000 in
set_option maxHeartbeats 6400000 in
theorem rows_own (w : World) (b : Nat) (R : List RA) (hm : MS w b R) (hl : ∀ r, (partV (R.map RA.p) r).length ≤ 1000000) :
    Calls Try.prog 29 #[.map (some b)] w (PAns w (vecOf fun r => partV (R.map RA.p) r)) := by
  obtain ⟨L, hL⟩ : ∃ L, R.map RA.raw = L := ⟨_, rfl⟩
  obtain ⟨f, hf⟩ : ∃ f : Int → List Rg, (fun r => partV (R.map RA.p) r) = f := ⟨_, rfl⟩
  have hfr : ∀ r, partV (R.map RA.p) r = f r := fun r => by rw [← hf]
  have hlk : ∀ r : Int, ∃ A c, ((look L r).getD zeroS).v = .slice A (f r).length c ∧ ∀ W, Below w.heap.size w W → RSt W ⟨r, A, c, f r⟩ := fun r => by
    obtain ⟨A, c, h1, h2⟩ := hm.look r
    rw [hL, hfr] at h1
    rw [hfr] at h2
    exact ⟨A, c, h1, fun W hW => h2.below hW⟩
  have hll : L.length ≤ 64 := by rw [← hL, List.length_map]; exact hm.len
  have hkr : ∀ k ∈ Keys L, 0 ≤ k ∧ k < 64 := fun k hk => by
    rw [Keys.mem, ← hL, List.map_map, List.mem_map] at hk
    obtain ⟨q, hq, rfl⟩ := hk
    exact hm.ks q hq
  have hall : ∀ k, f k ≠ [] → k ∈ Keys L := fun k hk => by
    rw [Keys.mem, ← hL, List.map_map, List.mem_map]
    rw [← hfr, part_map] at hk
    cases hq : findR R k with
    | none => rw [hq] at hk; exact absurd rfl hk
    | some q => exact ⟨q, (find_mem_R hq).1, (find_mem_R hq).2⟩
  have hmi := hm.m
  rw [hL] at hmi
  have hrise := Keys.rise hmi.apart
  have hfin := rowsOf_eq hrise hkr hall
  have hlen := Keys.len L
  obtain ⟨KL, hK⟩ : ∃ K, Keys L = K := ⟨_, rfl⟩
  rw [hK] at hkr hfin hlen
  obtain ⟨n, hn⟩ : ∃ n, L.length = n := ⟨_, rfl⟩
  rw [hn] at hlen hll
  rw [hf]
  have HS := Lib.hid (fun W (hW : Below w.heap.size w W) => by have := vsorted_any W b L (hmi.below hW) (by omega); rw [hK, hn] at this; exact this)
  have HM := Lib.hid (And.intro hmi (And.intro hkr (And.intro hfin (And.intro hlen (fun r => by rw [← hfr]; exact hl r : ∀ r, (f r).length ≤ 1000000)))))
  have hmb := hmi.lt
  clear hm hL hf hfr hkr hall hrise hfin hlen hK hl hn
  go_enter Try.func29, Try.ntmps29
  have hb0 : Below w.heap.size w ((w.alloc (.cells #[.slice none 0 0] 27)).alloc (.cells #[.slice none 0 0] 27)) := balloc (balloc (Below.refl _ _) _) _
  have a1 : At ((w.alloc (.cells #[.slice none 0 0] 27)).alloc (.cells #[.slice none 0 0] 27)) w.heap.size [.slice none 0 0] := (At.new w 27 #[.slice none 0 0]).alloc _
  have a2 : At ((w.alloc (.cells #[.slice none 0 0] 27)).alloc (.cells #[.slice none 0 0] 27)) (w.heap.size + 1) [.slice none 0 0] := by
    have := At.new (w.alloc (.cells #[.slice none 0 0] 27)) 27 #[.slice none 0 0]
    rw [World.size_alloc] at this
    exact this
  have hsz : ((w.alloc (.cells #[.slice none 0 0] 27)).alloc (.cells #[.slice none 0 0] 27)).heap.size = w.heap.size + 2 := by simp
  have HKc := Lib.hid (fun W => vkeys_any b W)
  go_wp2_with fail
  generalize (w.alloc (.cells #[.slice none 0 0] 27)).alloc (.cells #[.slice none 0 0] 27) = W at *
  refine (HKc.out W).mono ?_
  rintro e w1 ⟨rfl, rfl⟩
  have hsw := HS.out W hb0
  rw [hsz] at hsw
  have HSW := Lib.hid hsw
  clear hsw
  have HA := Lib.hid (And.intro hb0 (And.intro a1 a2))
  clear hb0 a1 a2 HS hmi
  go_wp2_with fail
  refine HSW.out.mono ?_
  rintro e w2 ⟨A, c, rfl, hks, hka, hb2⟩
  have hs2 : w.heap.size + 2 ≤ w2.heap.size := by have := hb2.size; omega
  have HB2 := Lib.hid (And.intro (HA.out.1.trans (hb2.mono (by omega))) (And.intro (HA.out.2.1.belowB (by have := HA.out.2.1.lt; omega) hb2 hb2.size) (HA.out.2.2.belowB (by have := HA.out.2.2.lt; omega) hb2 hb2.size)))
  have HKA := Lib.hid hka
  have HL := Lib.hid hll
  clear HSW hb2 hka HA HKc hll
  go_wp2_with fail
  go_loopw [10] (fun x10 wr => ∃ (k : Nat) (v : Value) (R' : List RA), k ≤ n ∧ x10 = .int .i64 (k : Int) ∧ VOwn wr w2.heap.size v R' ∧ R'.map RA.p = rowsOf f (KL.take k) ∧ At wr w.heap.size [.slice none 0 0] ∧ At wr (w.heap.size + 1) [v] ∧ Sl wr w2.heap.size A (KL.map (Value.int .i64)) ∧ Below w.heap.size w wr ∧ w2.heap.size ≤ wr.heap.size) (fun x10 _ => n - (intOf x10).toNat)
  case atStart => exact ⟨0, _, [], by omega, rfl, VOwn.nil _ _, rfl, HB2.out.2.1, HB2.out.2.2, hks, HB2.out.1, Nat.le_refl _⟩
  case round =>
    clear hks
    obtain ⟨k, v, R', hk, rfl, hvo, hR', h1, h2, hks, hbel, hsw⟩ := hrel
    have hn64 := HL.out
    by_cases hlt : k < n
    · have hkl : k < KL.length := by rw [HM.out.2.2.2.1]; exact hlt
      obtain ⟨kb, ko, rfl, hkB, hkW, hkc⟩ := hks.at_ (k := k) (by rw [List.length_map]; exact hkl)
      have hkk : KL[k]? = some KL[k] := List.getElem?_eq_getElem hkl
      have hkm := HM.out.2.1 KL[k] (List.getElem_mem hkl)
      have htk : rowsOf f (KL.take (k + 1)) = rowsOf f (KL.take k) ++ row1 f KL[k] := by
        rw [List.take_add_one, hkk, Option.toList_some, rowsOf_snoc]
      have c0 := hkc k (.int .i64 KL[k]) (by rw [List.getElem?_map, hkk]; rfl)
      generalize KL[k] = kk at *
      have hd1 : decide ((k : Int) < (n : Int)) = true := by rw [decide_eq_true_eq]; omega
      have hn0 : (0 : Int) ≤ (k : Int) := by omega
      have hn1 : (k : Int) < (n : Int) := by omega
      obtain ⟨A', c', hlv, hst⟩ := hlk kk
      have hki : i64in kk := by unfold i64in; omega
      have hlr : ∀ W, MapIs MV W b L → (Instr.lookup 58 (.map (some b)) (.int .i64 kk) false).run Try.prog W = .ok (.slice A' (f kk).length c') W := fun W h => by
        have := h.look1_run (x := kk) hki
        rw [← hlv]
        exact this
      have hlw := hlr wr (HM.out.1.below hbel)
      obtain ⟨fl, hfl⟩ : ∃ m, (f kk).length = m := ⟨_, rfl⟩
      rw [hfl] at hlw hlr
      have HZ := Lib.hid (And.intro hvo (And.intro hR' (And.intro h1 (And.intro h2 (And.intro hks (And.intro hbel (And.intro htk (And.intro (hst _ hbel) (And.intro hfl hsw)))))))))
      clear hvo hR' h1 h2 hks hbel htk hst hfl hlv hkk hkl hkc hsw
      by_cases hz : fl = 0
      · subst hz
        have hf0 : f kk = [] := List.eq_nil_of_length_eq_zero HZ.out.2.2.2.2.2.2.2.2.1
        have HF := Lib.hid (show R'.map RA.p = rowsOf f (KL.take (k + 1)) by rw [HZ.out.2.2.2.2.2.2.1, row1, if_pos hf0, List.append_nil]; exact HZ.out.2.1)
        clear hf0
        go_wp2_with fail
        go_roundw
        case rel => exact ⟨k + 1, v, R', by omega, by go_num, HZ.out.1, HF.out, HZ.out.2.2.1, HZ.out.2.2.2.1, HZ.out.2.2.2.2.1, HZ.out.2.2.2.2.2.1, HZ.out.2.2.2.2.2.2.2.2.2⟩
        case measure => simp [intOf]; omega
      · have hfp : 0 < fl := by omega
        have hfne : f kk ≠ [] := fun e => hz (by rw [← HZ.out.2.2.2.2.2.2.2.2.1, e]; rfl)
        have HNE := Lib.hid hfne
        clear hz hfne
        go_wp2_with fail
        have hS0 : QR (w.heap.size + 1) v b L wr.drew := ⟨HZ.out.2.2.2.1.drew, (HM.out.1.below HZ.out.2.2.2.2.2.1).drew⟩
        have e0 : ∀ W, QR (w.heap.size + 1) v b L W → W.cell? ⟨w.heap.size + 1, 0, none⟩ = some v := fun W h => h.1.c 0 rfl
        have e1 : ∀ W, QR (w.heap.size + 1) v b L W → (Instr.lookup 58 (.map (some b)) (.int .i64 kk) false).run Try.prog W = .ok (.slice A' fl c') W := fun W h => hlr W h.2
        clear hlr hlw c0 hlk
        refine bstartE (QR (w.heap.size + 1) v b L) 11 (by kernel_rfl) ?_
        refine btakeE 0 [] (oi := _) (v := ?_) (by simp only [List.getElem?_toArray, List.getElem?_cons_zero]; rfl) (by kernel_rfl) (by exact fun _ _ _ h => h) (by first | assumption | exact KB.refl _) (.inl ⟨by rfl, fun W hW => ?_⟩) ?_; rotate_left
        · (go_simp; first | done | with_reducible rfl)
        try simp only [Act.put, List.setIfInBounds_toArray, List.set_cons_zero, List.set_cons_succ]
        refine btakeE 1 [] (oi := _) (v := ?_) (by simp only [List.getElem?_toArray, List.getElem?_cons_succ, List.getElem?_cons_zero]; rfl) (by kernel_rfl) (by exact fun _ _ _ h => h) (by first | assumption | exact KB.refl _) (.inl ⟨by rfl, fun W hW => ?_⟩) ?_; rotate_left
        · (go_simp; first | done | with_reducible rfl)
        try simp only [Act.put, List.setIfInBounds_toArray, List.set_cons_zero, List.set_cons_succ]
        refine btakeE 2 [] (oi := _) (v := ?_) (by simp only [List.getElem?_toArray, List.getElem?_cons_succ, List.getElem?_cons_zero]; rfl) (by kernel_rfl) (by exact fun _ _ _ h => h) (by first | assumption | exact KB.refl _) (.inl ⟨by rfl, fun W hW => ?_⟩) ?_; rotate_left
        · (go_simp; first | done | with_reducible rfl)
        try simp only [Act.put, List.setIfInBounds_toArray, List.set_cons_zero, List.set_cons_succ]
        refine btakeE 3 [] (oi := _) (v := ?_) (by simp only [List.getElem?_toArray, List.getElem?_cons_succ, List.getElem?_cons_zero]; rfl) (by kernel_rfl) (by exact fun _ _ _ h => h) (by first | assumption | exact KB.refl _) (.inl ⟨by rfl, fun W hW => ?_⟩) ?_; rotate_left
        · (go_simp; first | done | with_reducible rfl)
        try simp only [Act.put, List.setIfInBounds_toArray, List.set_cons_zero, List.set_cons_succ]
        refine btakeE 4 [] (oi := _) (v := ?_) (by simp only [List.getElem?_toArray, List.getElem?_cons_succ, List.getElem?_cons_zero]; rfl) (by kernel_rfl) (by exact fun _ _ _ h => h) (by first | assumption | exact KB.refl _) (.inl ⟨by rfl, fun W hW => ?_⟩) ?_; rotate_left
        · (go_simp; first | done | with_reducible rfl)
        try simp only [Act.put, List.setIfInBounds_toArray, List.set_cons_zero, List.set_cons_succ]
        refine btakeE 5 [] (oi := _) (v := ?_) (by simp only [List.getElem?_toArray, List.getElem?_cons_succ, List.getElem?_cons_zero]; rfl) (by kernel_rfl) (by exact fun _ _ _ h => h) (by first | assumption | exact KB.refl _) (.inl ⟨by rfl, fun W hW => ?_⟩) ?_; rotate_left
        · (go_simp; first | done | with_reducible rfl)
        try simp only [Act.put, List.setIfInBounds_toArray, List.set_cons_zero, List.set_cons_succ]
        -- 6: slices.Clone[[]newsreel/api.Range,newsreel/api.Range]
        refine bopE 6 (o := _) (by simp only [List.getElem?_toArray, List.getElem?_cons_succ, List.getElem?_cons_zero]; rfl) (by kernel_rfl) (by rfl) (fun K hK => ?_)
        go_simp
        refine (CloneR_any wr.drew A' fl c' (f kk) HZ.out.2.2.2.2.2.2.2.1.1 HZ.out.2.2.2.2.2.2.2.2.1.symm (Nat.le_trans (HM.out.2.2.2.2 kk) (by omega))).mono ?_
        rintro e w4 ⟨v4, rfl, hown4, hb4⟩
        have hb4' : Below wr.heap.size wr w4 := (Below.refl _ wr).drew.trans hb4
        obtain ⟨A4, c4, rfl, hf1, hf2, hf3, hf4⟩ := hown4.form
        have hkb := hS0.below hb4
        have HK4 := Lib.hid hkb
        have HQ := Lib.hid (And.intro hb4' (show RSt w4 ⟨kk, A4, c4, f kk⟩ from ⟨hf3, hf1, hf2⟩))
        have HQ4 := Lib.hid hf4.2
        clear hown4 hb4 hb4' hf1 hf2 hf3 hf4
        refine hK.out _ _ hkb ?_; clear hK K
        try simp only [Act.put, List.setIfInBounds_toArray, List.set_cons_zero, List.set_cons_succ]
        refine btakeE 7 [] (oi := _) (v := ?_) (by simp only [List.getElem?_toArray, List.getElem?_cons_succ, List.getElem?_cons_zero]; rfl) (by kernel_rfl) (by exact fun _ _ _ h => h) (by first | assumption | exact KB.refl _) (.inl ⟨by rfl, fun W hW => ?_⟩) ?_; rotate_left
        · (go_simp; first | done | with_reducible rfl)
        try simp only [Act.put, List.setIfInBounds_toArray, List.set_cons_zero, List.set_cons_succ]
        -- 8: Op.buildSlice 25 1 #[(0, Operand.tmp 26)]
        refine bopE 8 (o := _) (by simp only [List.getElem?_toArray, List.getElem?_cons_succ, List.getElem?_cons_zero]; rfl) (by kernel_rfl) (by rfl) (fun K hK => ?_)
        refine wpVal (EV.ex_bs1 (by rfl) ⟨kk, A4, c4, f kk⟩ (by rfl)) ?_
        have hb5 := balloc (Below.refl w4.heap.size w4) (.cells (EV.cells ⟨kk, A4, c4, f kk⟩).toArray 61)
        have hol := EV.own1 w4 ⟨kk, A4, c4, f kk⟩
        have hkb := HK4.out.below hb5
        have HK5 := Lib.hid hkb
        have H5 := Lib.hid (And.intro hb5 hol)
        clear hb5 hol
        refine hK.out _ _ hkb ?_; clear hK K
        try simp only [Act.put, List.setIfInBounds_toArray, List.set_cons_zero, List.set_cons_succ]
        -- 9: Op.call { callee := Callee.builtin Builtin.append, args := #[Operand.tmp 20, Operand.tmp 27], argTypes := #[25, 25] }
        refine bopE 9 (o := _) (by simp only [List.getElem?_toArray, List.getElem?_cons_succ, List.getElem?_cons_zero]; rfl) (by kernel_rfl) (by rfl) (fun K hK => ?_)
        have hb45 : Below wr.heap.size wr (w4.alloc (.cells (EV.cells ⟨kk, A4, c4, f kk⟩).toArray 61)) := HQ.out.1.trans (H5.out.1.mono HQ.out.1.size)
        have hvo5 := HZ.out.1.below hb45
        have hlenR : R'.length ≤ 64 := by
          have := congrArg List.length HZ.out.2.1
          rw [List.length_map] at this
          have h2 := rowsOf_len f (KL.take k)
          rw [List.length_take] at h2
          omega
        refine wp_appE rfl hvo5.own (ET.Own.row (c := 1) H5.out.2).sl rfl rfl rfl (by simp; omega) (by have := hb45.size; have := HZ.out.2.2.2.2.2.2.2.2.2; omega) ?_
        intro v6 w6 hown6 hg6 hat6
        obtain ⟨A6, c6, e6, _, _, _, _⟩ := hown6.form
        have hgr : ∀ r, v.ownBlock = some r → w2.heap.size ≤ r := fun r e => (hvo5.own.lt' r e).1
        have hvo6 := hvo5.app (q := ⟨kk, A4, c4, f kk⟩) (HQ.out.2.below H5.out.1) (fun _ b o s' e => by
          have h5 : wr.heap.size ≤ b := (HQ4.out ⟨b, o, s'⟩ e).1
          have h7 := HZ.out.2.2.2.2.2.2.2.2.2
          refine ⟨by omega, fun e' => ?_⟩
          have h6 := HZ.out.1.own.lt' b e'
          omega) hown6 hg6 hat6
        have hkb : QR (w.heap.size + 1) v b L w6 := ⟨HK5.out.1.grown hg6 (fun e => by have := hgr _ e; omega), HK5.out.2.kept hg6 (fun e => by have := hgr _ e.symm; omega)⟩
        have zc := hkb.1.c 0 rfl
        have zf := hkb.1.f 0 rfl
        have hks6 := ((HZ.out.2.2.2.2.1.below' hb45)).grown hg6 (fun r e => hgr r e)
        have hB6 : Below w.heap.size w w6 := (HZ.out.2.2.2.2.2.1.trans (hb45.mono HZ.out.2.2.2.2.2.1.size)).grown hg6 (by have := HZ.out.2.2.2.2.2.1.size; have := hb45.size; omega) (fun r e => by have := hgr r e; omega)
        have hr6 := (HZ.out.2.2.1.below hb45).grown hg6 (fun e => by have := hgr _ e; omega)
        have hsz6 : w2.heap.size ≤ w6.heap.size := by have h1 := HZ.out.2.2.2.2.2.2.2.2.2; have h2 := hb45.size; have h3 := hg6.size; omega
        obtain ⟨n6, hn6⟩ : ∃ m, (R' ++ [(⟨kk, A4, c4, f kk⟩ : RA)]).length = m := ⟨_, rfl⟩
        rw [hn6] at e6
        subst e6
        have hR6 : (R' ++ [(⟨kk, A4, c4, f kk⟩ : RA)]).map RA.p = rowsOf f (KL.take (k + 1)) := by
          rw [HZ.out.2.2.2.2.2.2.1, List.map_append, HZ.out.2.1, row1, if_neg HNE.out]; rfl
        have H6 := Lib.hid (And.intro hvo6 (And.intro hks6 (And.intro hB6 (And.intro hr6 (And.intro hsz6 (And.intro hR6 hkb))))))
        clear hvo6 hvo5 hks6 hB6 hr6 hsz6 hR6 hown6 hg6 hat6 hb45 hgr hn6
        refine hK.out _ _ hkb ?_; clear hK K
        try simp only [Act.put, List.setIfInBounds_toArray, List.set_cons_zero, List.set_cons_succ]
        refine btakeE 10 [] (oi := _) (v := ?_) (by simp only [List.getElem?_toArray, List.getElem?_cons_succ, List.getElem?_cons_zero]; rfl) (by kernel_rfl) (by exact fun _ _ _ h => h) (by first | assumption | exact KB.refl _) (.inl ⟨by rfl, fun W hW => ?_⟩) ?_; rotate_left
        · (go_simp; first | done | with_reducible rfl)
        try simp only [Act.put, List.setIfInBounds_toArray, List.set_cons_zero, List.set_cons_succ]
        -- 11: Op.store 25 (Operand.tmp 29) (Operand.tmp 28)
        refine blastE 11 (o := _) (by simp only [List.getElem?_toArray, List.getElem?_cons_succ, List.getElem?_cons_zero]; rfl) (by kernel_rfl) (by rfl) (by rfl) (fun K hK => ?_)
        go_simp
        skip
        refine hK.out _ _ ?_; clear hK K
        try simp only [Act.put, List.setIfInBounds_toArray, List.set_cons_zero, List.set_cons_succ]
        refine bdoneE (by kernel_rfl) ?_
        have hgs := grownS w6 (w.heap.size + 1) 0 (.slice A6 n6 c6)
        have hvo7 := H6.out.1.kept hgs (by omega)
        have hr7 := H6.out.2.2.2.1.grown hgs (fun e => by have := Option.some.inj e; omega)
        have h27 := H6.out.2.2.2.2.2.2.1.set 0 (.slice A6 n6 c6) (by simp)
        have hk7 : Sl (w6.setCell ⟨w.heap.size + 1, 0, none⟩ (.slice A6 n6 c6)) w2.heap.size (some ⟨kb, ko, none⟩) (KL.map (Value.int .i64)) := H6.out.2.1.set_other (fun a e => by
          have h8 : w.heap.size + 2 ≤ kb := by have := HKA.out _ rfl; dsimp only at this; omega
          cases e
          dsimp only
          omega)
        have hb7 : Below w.heap.size w (w6.setCell ⟨w.heap.size + 1, 0, none⟩ (.slice A6 n6 c6)) := H6.out.2.2.1.setCell (show w.heap.size ≤ w.heap.size + 1 by omega) _
        have hsz7 : w2.heap.size ≤ (w6.setCell ⟨w.heap.size + 1, 0, none⟩ (.slice A6 n6 c6)).heap.size := by have := H6.out.2.2.2.2.1; have := hgs.size; omega
        have HW := Lib.hid (And.intro hvo7 (And.intro hr7 (And.intro h27 (And.intro hk7 (And.intro hb7 hsz7)))))
        clear hvo7 hr7 h27 hk7 hb7 hsz7 hgs zc zf
        go_wp2_with fail
        go_roundw
        case rel => exact ⟨k + 1, _, _, by omega, by go_num, HW.out.1, H6.out.2.2.2.2.2.1, HW.out.2.1, HW.out.2.2.1, HW.out.2.2.2.1, HW.out.2.2.2.2.1, HW.out.2.2.2.2.2⟩
        case measure => simp [intOf]; omega
    · obtain rfl : k = n := by omega
      have hd1 : decide ((k : Int) < (k : Int)) = false := by rw [decide_eq_false_iff_not]; omega
      have hRf : R'.map RA.p = vecOf f := by
        rw [hR', List.take_of_length_le (by rw [HM.out.2.2.2.1]; exact Nat.le_refl _)]
        exact HM.out.2.2.1
      obtain ⟨A5, c5, rfl, _⟩ := hvo.vs
      have hgs := grownS wr w.heap.size 0 (.slice A5 R'.length c5)
      have hvo5 := hvo.kept hgs (by omega)
      have h15 := h1.set 0 (.slice A5 R'.length c5) (by simp)
      have hb5 : Below w.heap.size w (wr.setCell ⟨w.heap.size, 0, none⟩ (.slice A5 R'.length c5)) := hbel.setCell (Nat.le_refl _) _
      have HZ := Lib.hid (And.intro hvo5 (And.intro hRf (And.intro h15 hb5)))
      have g0 := h2.c 0 rfl
      have g1 := h1.c 0 rfl
      have f1 := h1.f 0 rfl
      clear hvo5 h15 hb5 hgs hvo hR' h1 h2 hRf hks hlk
      go_wp2_with fail
      exact bodyPost_ret (results_vec rfl _ rfl HZ.out.2.2.1) rfl ⟨A5, c5, R', rfl, HZ.out.1.lower (by omega), HZ.out.2.1, HZ.out.2.2.2⟩
end Go.Proofs.Ytaflikgdlkaefaa
/- Vectors: vector.table. -/
namespace Go.Proofs.Ytaflikgdlkaefaa
open Go.RowKit Go.Maps Go.Proofs.Ytaflikgdlkaefaa.Sp Go.Proofs.Ytaflikgdlkaefaa.Ve
set_option maxRecDepth 20000

theorem part_take {V : VL} {k : Nat} {p : Int × List Rg} (hp : V[k]? = some p) (hap : V.Pairwise fun p q => p.1 < q.1) (r : Int) : partV (V.take (k + 1)) r = if r = p.1 then p.2 else partV (V.take k) r := by
  rw [List.take_add_one, hp, Option.toList_some]
  unfold partV look
  rw [List.find?_append]
  have hlt : ∀ x ∈ V.take k, x.1 < p.1 := fun x hx => by
    obtain ⟨i, hi, rfl⟩ := List.mem_take_iff_getElem.1 hx
    have hk : k < V.length := (List.getElem?_eq_some_iff.1 hp).1
    have hk2 : V[k] = p := (List.getElem?_eq_some_iff.1 hp).2
    rw [← hk2]
    exact List.pairwise_iff_getElem.1 hap i k (by omega) hk (by omega)
  by_cases h : r = p.1
  · rw [if_pos h, List.find?_eq_none.2 (fun x hx => by have := hlt x hx; simp; omega)]
    simp [h]
  · rw [if_neg h]
    have : List.find? (fun x : Int × List Rg => decide (x.1 = r)) [p] = none := List.find?_eq_none.2 fun x hx => by
      rw [List.mem_singleton.1 hx]
      simpa using fun e => h e.symm
    rw [this, Option.or_none]
/-- the table of a right vector -/
def TabAns (w : World) (V : VL) (e : Ending) (w' : World) : Prop := ∃ b T, e = .returned (.map (some b)) ∧ MS w' b T ∧ (∀ r, partV (T.map RA.p) r = partV V r) ∧ w.heap.size ≤ b ∧ Below w.heap.size w w'
set_option maxRecDepth 100000 in
set_option maxHeartbeats 6400000 in
theorem table_any (w : World) (A : Option Addr) (n c : Nat) (R : List RA) (V : VL) (hv : VS w A n c R V) (hr : rightV V = true) :
    Calls Try.prog 27 #[.agg #[.slice A n c]] w (TabAns w V) := by
  have hup := okV_up hr
  have hall := okV_lt hr
  have hn64 : n ≤ 64 := by rw [← hv.len]; exact right_length hr
  have HX := Lib.hid (And.intro hv (And.intro hup.rise hall))
  clear hr hup hall
  go_enter Try.func27, Try.ntmps27
  have hb0 : Below w.heap.size w (w.alloc (.cells #[.slice A n c] 27)) := balloc (Below.refl _ _) _
  have hb1 := balloc hb0 (.map #[] 0)
  have hmm := @run_makeMap Try.prog
  have hm0 := MS.made (w.alloc (.cells #[.slice A n c] 27))
  have hbs : (w.alloc (.cells #[.slice A n c] 27)).heap.size = w.heap.size + 1 := by simp
  rw [hbs] at hm0
  go_wp2_with fail
  go_loopw [10] (fun x10 wr => ∃ (k : Nat) (T : List RA), k ≤ n ∧ x10 = .int .i64 (k : Int) ∧ MS wr (w.heap.size + 1) T ∧ (∀ r, partV (T.map RA.p) r = partV (V.take k) r) ∧ Below w.heap.size w wr) (fun x10 _ => n - (intOf x10).toNat)
  case atStart => exact ⟨0, [], by omega, rfl, hm0, fun r => by simp, hb1⟩
  case round =>
    clear hm0 hmm
    obtain ⟨k, T, hk, rfl, hm, hp, hbel⟩ := hrel
    by_cases hlt : k < n
    · obtain ⟨q, b, o, _, hV, hq, rfl, hbW, c0, c1⟩ := hv.at_ hlt
      have hqa := HX.out.2.2 _ (List.mem_of_getElem? hV)
      dsimp only at hqa
      replace c0 := (hbel.cell hbW).trans c0
      replace c1 := (hbel.cell hbW).trans c1
      have hd1 : decide ((k : Int) < (n : Int)) = true := by rw [decide_eq_true_eq]; omega
      have hn0 : (0 : Int) ≤ (k : Int) := by omega
      have hn1 : (k : Int) < (n : Int) := by omega
      have hbx0 := balloc (Below.refl wr.heap.size wr) (.cells #[.int .i64 q.r, .slice q.A q.l.length q.c] 61)
      have hbx := hbel.alloc hbel.size (.cells #[.int .i64 q.r, .slice q.A q.l.length q.c] 61)
      have HM := Lib.hid (And.intro (hm.below hbx0) (And.intro hp (hq.below hbx)))
      have hlen := hm.len
      clear hm hp hv hq
      obtain ⟨r, A', c', l⟩ := q
      dsimp only at *
      go_wp2_with (refine mput rfl rfl HM.out.1.m ?_ rfl (c := r) rfl ?_ (d := ⟨A', l.length, c'⟩) rfl ?_)
      · rw [List.length_map]; simp only [maxLen]; omega
      · change i64in r
        unfold i64in; omega
      · intro w2 h1 h2
        have hm2 := HM.out.1.put ⟨r, A', c', l⟩ HM.out.2.2 ⟨by dsimp only; omega, by dsimp only; omega⟩ h1 h2
        have hb2 : Below w.heap.size w w2 := hbx.grown h2.grown hbx.size (fun g e => by have := Option.some.inj e; omega)
        have hp2 : ∀ x, partV ((putR T ⟨r, A', c', l⟩).map RA.p) x = partV (V.take (k + 1)) x := fun x => by
          rw [part_put, part_take hV HX.out.2.1, HM.out.2.1]
        have HZ := Lib.hid (And.intro hm2 hp2)
        clear h1 h2 hm2 hp2
        go_wp2_with fail
        go_roundw
        case rel => exact ⟨k + 1, _, by omega, by go_num, HZ.out.1, HZ.out.2, hb2⟩
        case measure => simp [intOf]; omega
    · obtain rfl : k = n := by omega
      have hd1 : decide ((k : Int) < (k : Int)) = false := by rw [decide_eq_false_iff_not]; omega
      have HF := Lib.hid (show ∀ r, partV (T.map RA.p) r = partV V r by intro r; rw [hp, ← hv.len, List.take_length])
      have HM := Lib.hid hm
      clear hp hv hm
      go_wp2_with fail
      go_ret
      exact ⟨_, T, rfl, HM.out, HF.out, by omega, hbel⟩
end Go.Proofs.Ytaflikgdlkaefaa
/- Vectors: vector.Right. -/
namespace Go.Proofs.Ytaflikgdlkaefaa
open Go.RowKit Go.Proofs.Ytaflikgdlkaefaa.Pl Go.Proofs.Ytaflikgdlkaefaa.Sp Go.Proofs.Ytaflikgdlkaefaa.Ve
set_option maxRecDepth 20000

set_option maxRecDepth 100000 in
set_option maxHeartbeats 6400000 in
theorem VRight_any (w : World) (A : Option Addr) (n c : Nat) (R : List RA) (V : VL) (hv : VS w A n c R V) (hl : n ≤ 1000000) (hm : Lim 1000000 V) :
    Calls Try.prog 12 #[.agg #[.slice A n c]] w fun e w' => e = .returned (.bool (rightV V)) ∧ Below w.heap.size w w' := by
  go_enter Try.func12, Try.ntmps12
  have hb0 : Below w.heap.size w (w.alloc (.cells #[.slice A n c] 27)) := balloc (Below.refl _ _) _
  go_wp2_with fail
  go_loopw [3, 9] (fun x3 x9 wr => ∃ (k : Nat) (z : Int), k ≤ n ∧ x9 = .int .i64 (k : Int) ∧ x3 = .int .i64 z ∧ rightV V = okV z (V.drop k) ∧ Below w.heap.size w wr) (fun _ x9 _ => n - (intOf x9).toNat)
  case atStart => exact ⟨0, -1, by omega, rfl, rfl, by rw [List.drop_zero]; rfl, hb0⟩
  case round =>
    obtain ⟨k, z, hk, rfl, rfl, hrt, hbel⟩ := hrel
    by_cases hlt : k < n
    · obtain ⟨q, b, o, _, hV, hq, rfl, hbW, c0, c1⟩ := hv.at_ hlt
      have hkl : k < V.length := by rw [hv.len]; exact hlt
      have hql : q.l.length ≤ 1000000 := hm _ (List.mem_of_getElem? hV)
      have hstep := okV_drop hkl z
      rw [hV, Option.getD_some] at hstep
      rw [hstep] at hrt
      clear hstep
      replace c0 := (hbel.cell hbW).trans c0
      replace c1 := (hbel.cell hbW).trans c1
      have hd1 : decide ((k : Int) < (n : Int)) = true := by rw [decide_eq_true_eq]; omega
      have hn0 : (0 : Int) ≤ (k : Int) := by omega
      have hn1 : (k : Int) < (n : Int) := by omega
      have hbx := hbel.alloc hbel.size (.cells #[.int .i64 q.r, .slice q.A q.l.length q.c] 61)
      have HR := Lib.hid (RRight_any _ q.A q.l.length q.c q.l ((hq.1.below hbx).more hbx.size) rfl (by omega))
      obtain ⟨r, A', c', l⟩ := q
      dsimp only at *
      clear hv hq hV hbel
      by_cases g1 : r ≤ z
      · have d0 : decide (r ≤ z) = true := by rw [decide_eq_true_eq]; exact g1
        have HF := Lib.hid (show rightV V = false by rw [hrt, decide_eq_false (by omega)]; simp)
        clear hrt g1 hm
        go_wp2_with fail
        go_ret
        exact ⟨ret_b HF.out.symm, hbx⟩
      · by_cases g2 : r < 64
        · by_cases g3 : l = []
          · subst g3
            have d0 : decide (r ≤ z) = false := by rw [decide_eq_false_iff_not]; omega
            have d1 : decide (64 ≤ r) = false := by rw [decide_eq_false_iff_not]; omega
            have HF := Lib.hid (show rightV V = false by rw [hrt]; simp)
            clear hrt g1 hm
            go_wp2_with fail
            go_ret
            exact ⟨ret_b HF.out.symm, hbx⟩
          · have d0 : decide (r ≤ z) = false := by rw [decide_eq_false_iff_not]; omega
            have d1 : decide (64 ≤ r) = false := by rw [decide_eq_false_iff_not]; omega
            have g4 : l.length ≠ 0 := fun e => g3 (List.length_eq_zero_iff.1 e)
            have d2 : decide ((l.length : Int) = 0) = false := by rw [decide_eq_false_iff_not]; omega
            rw [decide_eq_true (show z < r by omega), decide_eq_true g2, show l.isEmpty = false by simpa using g3] at hrt
            simp only [Bool.true_and, Bool.not_false] at hrt
            have HT := Lib.hid hrt
            have hbb : ((l.length : Int) == 0) = false := by simpa using g3
            obtain ⟨y0, y1⟩ := cell2 wr 61 (.int .i64 r) (.slice A' l.length c')
            obtain ⟨p, hp⟩ : ∃ p, right l = p := ⟨_, rfl⟩
            rw [hp] at HT HR
            clear g1 g2 g3 hrt hm hp
            go_wp2_with fail
            refine HR.out.mono ?_
            rintro e w1 ⟨rfl, h1⟩
            have hbz := hbx.trans (h1.mono hbx.size)
            have k0 := (h1.cell (by simp)).trans y0
            clear h1 y0 y1 HR
            cases p with
            | false =>
              have HF := Lib.hid (show rightV V = false by rw [HT.out, Bool.false_and])
              go_wp2_with fail
              go_ret
              exact ⟨ret_b HF.out.symm, hbz⟩
            | true =>
              have HS := Lib.hid (show rightV V = okV r (V.drop (k + 1)) by rw [HT.out, Bool.true_and])
              go_wp2_with fail
              go_roundw
              case rel => exact ⟨k + 1, r, by omega, by go_num, rfl, HS.out, hbz⟩
              case measure => simp [intOf]; omega
        · have d0 : decide (r ≤ z) = false := by rw [decide_eq_false_iff_not]; omega
          have d1 : decide (64 ≤ r) = true := by rw [decide_eq_true_eq]; omega
          have HF := Lib.hid (show rightV V = false by rw [hrt, decide_eq_false g2]; simp)
          clear hrt g1 hm
          go_wp2_with fail
          go_ret
          exact ⟨ret_b HF.out.symm, hbx⟩
    · obtain rfl : k = n := by omega
      have hd1 : decide ((k : Int) < (k : Int)) = false := by rw [decide_eq_false_iff_not]; omega
      have HF := Lib.hid (show rightV V = true by rw [hrt, ← hv.len, List.drop_length]; rfl)
      clear hrt hv
      go_wp2_with fail
      go_ret
      exact ⟨ret_b HF.out.symm, hbel⟩
end Go.Proofs.Ytaflikgdlkaefaa
/- Ranges: First. -/
namespace Go.Proofs.Ytaflikgdlkaefaa
open Go.RowKit Go.Proofs.Ytaflikgdlkaefaa.Pl Go.Proofs.Ytaflikgdlkaefaa.Sp
set_option maxRecDepth 20000

set_option maxRecDepth 100000 in
set_option maxHeartbeats 3200000 in
theorem RFirst_any (w : World) (A : Option Addr) (n c : Nat) (l : List Rg) (hb : Sl w w.heap.size A (rv l)) (h0 : n = l.length) (hl : n ≤ 1000000000) :
    Calls Try.prog 38 #[.slice A n c] w fun e w' => e = .returned (.int .i64 (firstS l)) ∧ Below w.heap.size w w' := by
  have hr := RRight_any w A n c l hb h0 hl
  obtain ⟨q, hq⟩ : ∃ q, right l = q := ⟨_, rfl⟩
  rw [hq] at hr
  have HR := Lib.hid hr
  clear hr
  cases q with
  | false =>
    have HF := Lib.hid (show firstS l = 0 by rw [firstS, if_neg (by rw [hq]; simp)])
    clear hq hb h0
    go_enter Try.func38, Try.ntmps38
    go_wp2_with fail
    refine HR.out.mono ?_
    rintro e w1 ⟨rfl, h1⟩
    go_wp2_with fail
    go_ret
    exact ⟨ret_i HF.out.symm, h1⟩
  | true =>
    cases l with
    | nil =>
      rw [List.length_nil] at h0
      subst h0
      go_enter Try.func38, Try.ntmps38
      go_wp2_with fail
      refine HR.out.mono ?_
      rintro e w1 ⟨rfl, h1⟩
      go_wp2_with fail
      go_ret
      exact ⟨rfl, h1⟩
    | cons x t =>
      obtain ⟨b, o, rfl, _, hbW, c0, c1⟩ := rgAt hb (k := 0) (by simp)
      simp only [List.getElem?_cons_zero, Option.getD_some, Nat.zero_mul, Nat.add_zero] at c0 c1
      have hn0 : ((n : Int) == 0) = false := by rw [beq_eq_false_iff_ne]; simp at h0; omega
      have hn1 : (0 : Int) < (n : Int) := by simp at h0; omega
      have hn2 : 0 < n := by simp at h0; omega
      have hx1 : 1 ≤ x.a := by
        have h := hq
        rw [right, okR_cons, ok_iff] at h
        omega
      have hfs : firstS (x :: t) = if x.a = 1 then x.b else 0 := by rw [firstS, if_pos hq]; rfl
      clear hb h0
      by_cases hx : x.a = 1
      · rw [if_pos hx] at hfs
        have HF := Lib.hid hfs
        have e9 : (x.a != 1) = false := by rw [hx]; rfl
        clear hfs hq hx hx1
        go_enter Try.func38, Try.ntmps38
        go_wp2_with fail
        refine HR.out.mono ?_
        rintro e w1 ⟨rfl, h1⟩
        replace c0 := (h1.cell hbW).trans c0
        replace c1 := (h1.cell hbW).trans c1
        go_wp2_with fail
        go_ret
        exact ⟨ret_i HF.out.symm, h1⟩
      · rw [if_neg hx] at hfs
        have HF := Lib.hid hfs
        have e9 : (x.a != 1) = true := by rw [bne_iff_ne]; exact hx
        clear hfs hq hx hx1
        go_enter Try.func38, Try.ntmps38
        go_wp2_with fail
        refine HR.out.mono ?_
        rintro e w1 ⟨rfl, h1⟩
        replace c0 := (h1.cell hbW).trans c0
        replace c1 := (h1.cell hbW).trans c1
        go_wp2_with fail
        go_ret
        exact ⟨ret_i HF.out.symm, h1⟩
set_option maxRecDepth 100000 in
set_option maxHeartbeats 3200000 in
theorem RRFirst_any (w : World) (A : Option Addr) (n c : Nat) (l : List Rg) (hb : Sl w w.heap.size A (rv l)) (h0 : n = l.length) (hl : n ≤ 1000000000) :
    Calls Try.prog 62 #[.slice A n c] w fun e w' => e = .returned (.int .i64 (firstS l)) ∧ Below w.heap.size w w' := by
  have hr := RRRight_any w A n c l hb h0 hl
  obtain ⟨q, hq⟩ : ∃ q, right l = q := ⟨_, rfl⟩
  rw [hq] at hr
  have HR := Lib.hid hr
  clear hr
  cases q with
  | false =>
    have HF := Lib.hid (show firstS l = 0 by rw [firstS, if_neg (by rw [hq]; simp)])
    clear hq hb h0
    go_enter Try.func62, Try.ntmps62
    go_wp2_with fail
    refine HR.out.mono ?_
    rintro e w1 ⟨rfl, h1⟩
    go_wp2_with fail
    go_ret
    exact ⟨ret_i HF.out.symm, h1⟩
  | true =>
    cases l with
    | nil =>
      rw [List.length_nil] at h0
      subst h0
      go_enter Try.func62, Try.ntmps62
      go_wp2_with fail
      refine HR.out.mono ?_
      rintro e w1 ⟨rfl, h1⟩
      go_wp2_with fail
      go_ret
      exact ⟨rfl, h1⟩
    | cons x t =>
      obtain ⟨b, o, rfl, _, hbW, c0, c1⟩ := rgAt hb (k := 0) (by simp)
      simp only [List.getElem?_cons_zero, Option.getD_some, Nat.zero_mul, Nat.add_zero] at c0 c1
      have hn0 : ((n : Int) == 0) = false := by rw [beq_eq_false_iff_ne]; simp at h0; omega
      have hn1 : (0 : Int) < (n : Int) := by simp at h0; omega
      have hn2 : 0 < n := by simp at h0; omega
      have hx1 : 1 ≤ x.a := by
        have h := hq
        rw [right, okR_cons, ok_iff] at h
        omega
      have hfs : firstS (x :: t) = if x.a = 1 then x.b else 0 := by rw [firstS, if_pos hq]; rfl
      clear hb h0
      by_cases hx : x.a = 1
      · rw [if_pos hx] at hfs
        have HF := Lib.hid hfs
        have e9 : decide ((1 : Int) < x.a) = false := by rw [decide_eq_false_iff_not]; omega
        clear hfs hq hx hx1
        go_enter Try.func62, Try.ntmps62
        go_wp2_with fail
        refine HR.out.mono ?_
        rintro e w1 ⟨rfl, h1⟩
        replace c0 := (h1.cell hbW).trans c0
        replace c1 := (h1.cell hbW).trans c1
        go_wp2_with fail
        go_ret
        exact ⟨ret_i HF.out.symm, h1⟩
      · rw [if_neg hx] at hfs
        have HF := Lib.hid hfs
        have e9 : decide ((1 : Int) < x.a) = true := by rw [decide_eq_true_eq]; omega
        clear hfs hq hx hx1
        go_enter Try.func62, Try.ntmps62
        go_wp2_with fail
        refine HR.out.mono ?_
        rintro e w1 ⟨rfl, h1⟩
        replace c0 := (h1.cell hbW).trans c0
        replace c1 := (h1.cell hbW).trans c1
        go_wp2_with fail
        go_ret
        exact ⟨ret_i HF.out.symm, h1⟩
end Go.Proofs.Ytaflikgdlkaefaa
/- Ranges: Count. -/
namespace Go.Proofs.Ytaflikgdlkaefaa
open Go.RowKit Go.Proofs.Ytaflikgdlkaefaa.Pl Go.Proofs.Ytaflikgdlkaefaa.Sp
set_option maxRecDepth 20000

theorem countR_drop {l : List Rg} {k : Nat} (hk : k < l.length) : countR (l.drop k) = ((l[k]?.getD ⟨0, 0⟩).b - (l[k]?.getD ⟨0, 0⟩).a + 1) + countR (l.drop (k + 1)) := by
  rw [List.drop_eq_getElem_cons hk, List.getElem?_eq_getElem hk, Option.getD_some, countR_cons]
set_option maxRecDepth 100000 in
set_option maxHeartbeats 3200000 in
theorem RCount_any (w : World) (A : Option Addr) (n c : Nat) (l : List Rg) (hb : Sl w w.heap.size A (rv l)) (h0 : n = l.length) (hl : n ≤ 1000000000) :
    Calls Try.prog 34 #[.slice A n c] w fun e w' => e = .returned (.int .i64 (countS l)) ∧ Below w.heap.size w w' := by
  have hr := RRight_any w A n c l hb h0 hl
  obtain ⟨q, hq⟩ : ∃ q, right l = q := ⟨_, rfl⟩
  rw [hq] at hr
  have HR := Lib.hid hr
  have HN := Lib.hid h0
  clear hr h0
  cases q with
  | false =>
    have HF := Lib.hid (show countS l = 0 by rw [countS, if_neg (by rw [hq]; simp)])
    clear hq hb
    go_enter Try.func34, Try.ntmps34
    go_wp2_with fail
    refine HR.out.mono ?_
    rintro e w1 ⟨rfl, h1⟩
    go_wp2_with fail
    go_ret
    exact ⟨ret_i HF.out.symm, h1⟩
  | true =>
    have HF := Lib.hid (show countS l = countR l by rw [countS, if_pos hq])
    go_enter Try.func34, Try.ntmps34
    go_wp2_with fail
    refine HR.out.mono ?_
    rintro e w1 ⟨rfl, h1⟩
    go_wp2_with fail
    go_loopw [3, 11] (fun x3 x11 wr => ∃ (k : Nat) (s lo : Int), k ≤ n ∧ x11 = .int .i64 (k : Int) ∧ x3 = .int .i64 s ∧ okR lo (l.drop k) = true ∧ 1 ≤ lo ∧ lo ≤ 1099511627777 ∧ 0 ≤ s ∧ s ≤ lo ∧ countR l = s + countR (l.drop k) ∧ Below w.heap.size w wr) (fun _ x11 _ => n - (intOf x11).toNat)
    case atStart => exact ⟨0, 0, 1, by omega, rfl, rfl, hq, by omega, by omega, by omega, by omega, by simp, h1⟩
    case round =>
      obtain ⟨k, s, lo, hk, rfl, rfl, ho, l1, l2, s1, s2, hct, hbel⟩ := hrel
      clear hq h1
      by_cases hlt : k < n
      · have hkl : k < l.length := by have := HN.out; omega
        obtain ⟨b, o, rfl, _, hbW, c0, c1⟩ := rgAt hb hkl
        replace c0 := (hbel.cell hbW).trans c0
        replace c1 := (hbel.cell hbW).trans c1
        rw [okR_drop hkl lo] at ho
        rw [countR_drop hkl] at hct
        generalize l[k]?.getD ⟨0, 0⟩ = x at *
        rw [Bool.and_eq_true, Bool.and_eq_true, decide_eq_true_eq, ok_iff] at ho
        obtain ⟨⟨g1, g2, g3, g4⟩, g5⟩ := ho
        unfold mx at g4
        have hd1 : decide ((k : Int) < (n : Int)) = true := by rw [decide_eq_true_eq]; omega
        have hn0 : (0 : Int) ≤ (k : Int) := by omega
        have hn1 : (k : Int) < (n : Int) := by omega
        have w1' : IntKind.i64.wrap (x.b - x.a) = x.b - x.a := by rw [IntKind.wrap_i64]; omega
        have w2' : IntKind.i64.wrap (x.b - x.a + 1) = x.b - x.a + 1 := by rw [IntKind.wrap_i64]; omega
        have w3' : IntKind.i64.wrap (s + (x.b - x.a + 1)) = s + (x.b - x.a + 1) := by rw [IntKind.wrap_i64]; omega
        have hbx := hbel.alloc hbel.size (.cells #[.int .i64 x.a, .int .i64 x.b] 44)
        have HS := Lib.hid (And.intro g5 (show countR l = s + (x.b - x.a + 1) + countR (l.drop (k + 1)) by rw [hct]; omega))
        have HB := Lib.hid (show 1 ≤ x.b + 2 ∧ x.b + 2 ≤ 1099511627777 ∧ 0 ≤ s + (x.b - x.a + 1) ∧ s + (x.b - x.a + 1) ≤ x.b + 2 by omega)
        clear g1 g2 g3 g4 g5 hct l1 l2 s1 s2
        go_wp2_with fail
        go_roundw
        case rel => exact ⟨k + 1, s + (x.b - x.a + 1), x.b + 2, by omega, by go_num, rfl, HS.out.1, HB.out.1, HB.out.2.1, HB.out.2.2.1, HB.out.2.2.2, HS.out.2, hbx⟩
        case measure => simp [intOf]; omega
      · obtain rfl : k = n := by omega
        have hd1 : decide ((k : Int) < (k : Int)) = false := by rw [decide_eq_false_iff_not]; omega
        have HE := Lib.hid (show countS l = s by rw [HF.out, hct, HN.out, List.drop_length]; simp [countR])
        clear hct ho
        go_wp2_with fail
        go_ret
        exact ⟨ret_i HE.out.symm, hbel⟩
end Go.Proofs.Ytaflikgdlkaefaa
/- Vectors: vector.Base, Count, Extra. -/
namespace Go.Proofs.Ytaflikgdlkaefaa
open Go.RowKit Go.Maps Go.Proofs.Ytaflikgdlkaefaa.Pl Go.Proofs.Ytaflikgdlkaefaa.Sp Go.Proofs.Ytaflikgdlkaefaa.Ve
set_option maxRecDepth 20000

/-- a lookup in a table -/
theorem MS.look1 {w : World} {b : Nat} {R : List RA} {V : VL} (h : MS w b R) (hp : ∀ r, partV (R.map RA.p) r = partV V r) (r : Int) (hr : i64in r) : ∃ A c, (Instr.lookup 58 (.map (some b)) (.int .i64 r) false).run Try.prog w = .ok (.slice A (partV V r).length c) w ∧ RSt w ⟨r, A, c, partV V r⟩ := by
  obtain ⟨A, c, h1, h2⟩ := h.look r
  have h3 := h.m.look1_run (x := r) hr
  rw [hp] at h1 h2
  refine ⟨A, c, ?_, h2⟩
  rw [← h1]
  exact h3
set_option maxRecDepth 100000 in
set_option maxHeartbeats 3200000 in
theorem Base_any (w : World) (A : Option Addr) (n c : Nat) (R : List RA) (V : VL) (hv : VS w A n c R V) (hl : n ≤ 1000000) (hm : Lim 1000000 V) (r : Int) (hr : i64in r) :
    Calls Try.prog 15 #[.agg #[.slice A n c], .int .i64 r] w fun e w' => e = .returned (.int .i64 (baseV V r)) ∧ Below w.heap.size w w' := by
  have hb0 : Below w.heap.size w (w.alloc (.cells #[.slice A n c] 27)) := balloc (Below.refl _ _) _
  have x0 : (w.alloc (.cells #[.slice A n c] 27)).cell? ⟨w.heap.size, 0, none⟩ = some (.slice A n c) := by simp
  have xs : w.heap.size < (w.alloc (.cells #[.slice A n c] 27)).heap.size := by simp
  have HR := Lib.hid (VRight_any _ A n c R V (hv.below hb0) hl hm)
  obtain ⟨p, hp⟩ : ∃ p, rightV V = p := ⟨_, rfl⟩
  rw [hp] at HR
  cases p with
  | false =>
    have HF := Lib.hid (show baseV V r = 0 by rw [baseV, if_neg (by rw [hp]; simp)])
    clear hp hv hm
    go_enter Try.func15, Try.ntmps15
    go_wp2_with fail
    refine HR.out.mono ?_
    rintro e w1 ⟨rfl, h1⟩
    have hbz := hb0.trans (h1.mono hb0.size)
    go_wp2_with fail
    go_ret
    exact ⟨ret_i HF.out.symm, hbz⟩
  | true =>
    have HF := Lib.hid (show baseV V r = firstS (partV V r) by rw [baseV, if_pos hp])
    have HT := Lib.hid (fun W (hW : Below w.heap.size w W) => table_any W A n c R V (hv.below hW) hp)
    have HL := Lib.hid (hm.part r)
    clear hp hv hm
    go_enter Try.func15, Try.ntmps15
    go_wp2_with fail
    refine HR.out.mono ?_
    rintro e w1 ⟨rfl, h1⟩
    have hbz := hb0.trans (h1.mono hb0.size)
    have y0 := (h1.cell xs).trans x0
    clear x0 h1
    go_wp2_with fail
    refine (HT.out _ hbz).mono ?_
    rintro e w2 ⟨b, T, rfl, hms, hpt, hbb, h2⟩
    obtain ⟨A', c', hlk, hst⟩ := hms.look1 hpt r hr
    have hbv := hbz.trans (h2.mono hbz.size)
    clear hms hpt
    go_wp2_with fail
    refine (RFirst_any w2 A' _ c' (partV V r) hst.1 rfl (by have := HL.out; omega)).mono ?_
    rintro e w3 ⟨rfl, h3⟩
    have hbu := hbv.trans (h3.mono hbv.size)
    go_wp2_with fail
    go_ret
    exact ⟨ret_i HF.out.symm, hbu⟩
theorem countS_bd (l : List Rg) : 0 ≤ countS l ∧ countS l ≤ 1099511627776 := by
  unfold countS
  by_cases h : right l = true
  · rw [if_pos h]
    have h1 := countR_nonneg (l := l) (lo := 1) h
    have h2 := countR_le (l := l) (lo := 1) h (by unfold mx; omega)
    unfold mx at h2
    omega
  · rw [if_neg h]; omega
theorem sumV_bd : ∀ (V : VL), 0 ≤ sumV V ∧ sumV V ≤ 1099511627776 * (V.length : Int)
  | [] => by simp [sumV]
  | p :: t => by
    have h1 := countS_bd p.2
    have h2 := sumV_bd t
    simp only [sumV, List.length_cons]
    omega
theorem sumV_drop {V : VL} {k : Nat} {p : Int × List Rg} (h : V[k]? = some p) : sumV (V.drop k) = countS p.2 + sumV (V.drop (k + 1)) := by
  obtain ⟨hk, he⟩ := List.getElem?_eq_some_iff.1 h
  rw [List.drop_eq_getElem_cons hk, he]
  rfl
set_option maxRecDepth 100000 in
set_option maxHeartbeats 3200000 in
theorem Count_any (w : World) (A : Option Addr) (n c : Nat) (R : List RA) (V : VL) (hv : VS w A n c R V) (hl : n ≤ 1000000) (hm : Lim 1000000 V) :
    Calls Try.prog 13 #[.agg #[.slice A n c]] w fun e w' => e = .returned (.int .i64 (countV V)) ∧ Below w.heap.size w w' := by
  have hb0 : Below w.heap.size w (w.alloc (.cells #[.slice A n c] 27)) := balloc (Below.refl _ _) _
  have x0 : (w.alloc (.cells #[.slice A n c] 27)).cell? ⟨w.heap.size, 0, none⟩ = some (.slice A n c) := by simp
  have xs : w.heap.size < (w.alloc (.cells #[.slice A n c] 27)).heap.size := by simp
  have HR := Lib.hid (VRight_any _ A n c R V (hv.below hb0) hl hm)
  obtain ⟨p, hp⟩ : ∃ p, rightV V = p := ⟨_, rfl⟩
  rw [hp] at HR
  cases p with
  | false =>
    have HF := Lib.hid (show countV V = 0 by rw [countV, if_neg (by rw [hp]; simp)])
    clear hp hv hm
    go_enter Try.func13, Try.ntmps13
    go_wp2_with fail
    refine HR.out.mono ?_
    rintro e w1 ⟨rfl, h1⟩
    have hbz := hb0.trans (h1.mono hb0.size)
    go_wp2_with fail
    go_ret
    exact ⟨ret_i HF.out.symm, hbz⟩
  | true =>
    have hn64 : n ≤ 64 := by rw [← hv.len]; exact right_length hp
    have HF := Lib.hid (show countV V = sumV V by rw [countV, if_pos hp])
    have HV := Lib.hid hv
    clear hp hv
    go_enter Try.func13, Try.ntmps13
    go_wp2_with fail
    refine HR.out.mono ?_
    rintro e w1 ⟨rfl, h1⟩
    have hbz := hb0.trans (h1.mono hb0.size)
    have y0 := (h1.cell xs).trans x0
    clear x0 h1
    go_wp2_with fail
    go_loopw [3, 12] (fun x3 x12 wr => ∃ (k : Nat) (s : Int), k ≤ n ∧ x12 = .int .i64 (k : Int) ∧ x3 = .int .i64 s ∧ 0 ≤ s ∧ sumV V = s + sumV (V.drop k) ∧ Below w.heap.size w wr) (fun _ x12 _ => n - (intOf x12).toNat)
    case atStart => exact ⟨0, 0, by omega, rfl, rfl, by omega, by simp, hbz⟩
    case round =>
      clear y0
      obtain ⟨k, s, hk, rfl, rfl, hs0, hs, hbel⟩ := hrel
      by_cases hlt : k < n
      · obtain ⟨q, b, o, _, hV, hq, rfl, hbW, c0, c1⟩ := HV.out.at_ hlt
        replace c0 := (hbel.cell hbW).trans c0
        replace c1 := (hbel.cell hbW).trans c1
        have hql : q.l.length ≤ 1000000 := hm _ (List.mem_of_getElem? hV)
        rw [sumV_drop hV] at hs
        dsimp only at hs
        have hd1 : decide ((k : Int) < (n : Int)) = true := by rw [decide_eq_true_eq]; omega
        have hn0 : (0 : Int) ≤ (k : Int) := by omega
        have hn1 : (k : Int) < (n : Int) := by omega
        have hbx := hbel.alloc hbel.size (.cells #[.int .i64 q.r, .slice q.A q.l.length q.c] 61)
        have HC := Lib.hid (RCount_any _ q.A q.l.length q.c q.l ((hq.1.below hbx).more hbx.size) rfl (by omega))
        obtain ⟨r, A', c', l⟩ := q
        dsimp only at *
        have b1 := countS_bd l
        have b2 := sumV_bd (V.drop (k + 1))
        have b3 := sumV_bd V
        rw [HV.out.len] at b3
        have hw1 : IntKind.i64.wrap (s + countS l) = s + countS l := by rw [IntKind.wrap_i64]; omega
        have HS := Lib.hid (And.intro (show 0 ≤ s + countS l by omega) (show sumV V = s + countS l + sumV (V.drop (k + 1)) by omega))
        clear hs hs0 b1 b2 b3 hq hV hm HV hbel
        go_wp2_with fail
        refine HC.out.mono ?_
        rintro e w2 ⟨rfl, h2⟩
        have hbu := hbx.trans (h2.mono hbx.size)
        go_wp2_with fail
        go_roundw
        case rel => exact ⟨k + 1, s + countS l, by omega, by go_num, rfl, HS.out.1, HS.out.2, hbu⟩
        case measure => simp [intOf]; omega
      · obtain rfl : k = n := by omega
        have hd1 : decide ((k : Int) < (k : Int)) = false := by rw [decide_eq_false_iff_not]; omega
        have HE := Lib.hid (show countV V = s by rw [HF.out, hs, ← HV.out.len, List.drop_length]; simp [sumV])
        clear hs hm HV
        go_wp2_with fail
        go_ret
        exact ⟨ret_i HE.out.symm, hbel⟩
end Go.Proofs.Ytaflikgdlkaefaa
/- Ranges: span.Minus of any two lists. -/
namespace Go.Proofs.Ytaflikgdlkaefaa
open Go.RowKit Go.Proofs.Ytaflikgdlkaefaa.Pl Go.Proofs.Ytaflikgdlkaefaa.Sp
set_option maxRecDepth 20000

set_option maxRecDepth 100000 in
theorem Minus_any (w : World) (A A' : Option Addr) (n n' c c' : Nat) (a b : List Rg) (ha : Sl w w.heap.size A (rv a)) (hb : Sl w w.heap.size A' (rv b)) (h0 : n = a.length) (h1 : n' = b.length) (hl : n ≤ 20000) (hl' : n' ≤ 20000) (hc' : n' ≤ c') (hcm' : c' ≤ maxLen) :
    Calls Try.prog 30 #[.slice A n c, .slice A' n' c'] w (RAns w (minusS a b)) := by
  obtain ⟨p, hp⟩ : ∃ p, right a = p := ⟨_, rfl⟩
  obtain ⟨q, hq⟩ : ∃ q, right b = q := ⟨_, rfl⟩
  have hra := RRight_any w A n c a ha h0 (by omega)
  have hrb := fun W (hW : Below w.heap.size w W) => RRight_any W A' n' c' b ((hb.below hW).more hW.size) h1 (by omega)
  cases p with
  | false =>
    have HJ := Lib.hid (show minusS a b = [] by rw [minusS, if_neg (by rw [hp]; simp)])
    rw [hp] at hra
    have HA := Lib.hid hra
    clear hra hrb hp hq ha hb h0 h1 hc' hcm'
    go_enter Try.func30, Try.ntmps30
    go_wp2_with fail
    refine HA.out.mono ?_
    rintro e w1 ⟨rfl, h1⟩
    go_wp2_with fail
    go_ret
    rw [HJ.out]
    exact RAns.nil h1
  | true =>
    cases q with
    | false =>
      have HJ := Lib.hid (show minusS a b = [] by rw [minusS, if_neg (by rw [hq]; simp)])
      rw [hp] at hra
      rw [hq] at hrb
      have HA := Lib.hid hra
      have HB := Lib.hid hrb
      clear hra hrb hp hq ha hb h0 h1 hc' hcm'
      go_enter Try.func30, Try.ntmps30
      go_wp2_with fail
      refine HA.out.mono ?_
      rintro e w1 ⟨rfl, h1⟩
      go_wp2_with fail
      refine (HB.out w1 h1).mono ?_
      rintro e w2 ⟨rfl, h2⟩
      have hbz := h1.trans (h2.mono h1.size)
      go_wp2_with fail
      go_ret
      rw [HJ.out]
      exact RAns.nil hbz
    | true => exact MinusOk_any w A A' n n' c c' a b ha hb h0 h1 hl hl' hc' hcm' hp hq
end Go.Proofs.Ytaflikgdlkaefaa
