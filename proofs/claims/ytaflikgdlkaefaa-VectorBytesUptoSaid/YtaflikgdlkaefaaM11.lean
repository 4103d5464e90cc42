/- Vectors: vector.Join, vector.Minus. -/
import Derived.Laws.StructEq
import Derived.Sort.Grow
import Derived.Laws.BitsAllLaws
import Derived.Test.YtaflikgdlkaefaaM00
import Derived.Test.YtaflikgdlkaefaaM01
import Derived.Test.YtaflikgdlkaefaaM02
import Derived.Test.YtaflikgdlkaefaaM03
import Derived.Test.YtaflikgdlkaefaaM07
import Derived.Test.YtaflikgdlkaefaaM09
import Derived.Test.YtaflikgdlkaefaaM10
open List (getElem?_toArray getElem?_cons_succ getElem?_cons_zero)
namespace Go.Proofs.Ytaflikgdlkaefaa
open Go.RowKit Go.Maps Go.Proofs.Ytaflikgdlkaefaa.Pl Go.Proofs.Ytaflikgdlkaefaa.Sp Go.Proofs.Ytaflikgdlkaefaa.Ve
set_option maxRecDepth 20000

theorem join_nil {a : List Rg} (ha : right a = true) : joinS a [] = a := by rw [joinS, if_pos ⟨ha, rfl⟩]; rfl
theorem PAns.nil {w w' : World} (hb : Below w.heap.size w w') : PAns w [] (.returned (.agg #[.slice none 0 0])) w' := ⟨none, 0, [], rfl, VOwn.nil _ _, rfl, hb⟩
theorem part_take_out {V : VL} {k : Nat} {p : Int × List Rg} (hp : V[k]? = some p) (hap : V.Pairwise fun p q => p.1 < q.1) : partV (V.take k) p.1 = [] := by
  refine part_cons_lt fun x hx => ?_
  obtain ⟨i, hi, rfl⟩ := List.mem_take_iff_getElem.1 hx
  obtain ⟨hk, hk2⟩ := List.getElem?_eq_some_iff.1 hp
  have := List.pairwise_iff_getElem.1 hap i k (by omega) hk (by omega)
  rw [hk2] at this
  omega
theorem VS.one {w : World} {A : Option Addr} {n c : Nat} {R : List RA} {V : VL} (h : VS w A n c R V) (hr : rightV V = true) : n ≤ 64 := by rw [← h.len]; exact right_length hr
set_option maxRecDepth 100000 in
set_option maxHeartbeats 6400000 in
theorem VJoin_own (w : World) (A A' : Option Addr) (n n' c c' : Nat) (R R' : List RA) (V V' : VL) (hv : VS w A n c R V) (hv' : VS w A' n' c' R' V') (hl : n ≤ 1000000) (hl' : n' ≤ 1000000) (hm : Lim 10000 V) (hm' : Lim 10000 V') :
    Calls Try.prog 9 #[.agg #[.slice A n c], .agg #[.slice A' n' c']] w (PAns w (joinV V V')) := by
  have hb0 : Below w.heap.size w (((w.alloc (.cells #[.slice A n c] 27)).alloc (.cells #[.slice A' n' c'] 27)).alloc (.cells #[.slice none 0 0] 27)) := balloc (balloc (balloc (Below.refl _ _) _) _) _
  have a0 : At (((w.alloc (.cells #[.slice A n c] 27)).alloc (.cells #[.slice A' n' c'] 27)).alloc (.cells #[.slice none 0 0] 27)) w.heap.size [.slice A n c] := ((At.new w 27 #[.slice A n c]).alloc _).alloc _
  have a1 : At (((w.alloc (.cells #[.slice A n c] 27)).alloc (.cells #[.slice A' n' c'] 27)).alloc (.cells #[.slice none 0 0] 27)) (w.heap.size + 1) [.slice A' n' c'] := by
    have := (At.new (w.alloc (.cells #[.slice A n c] 27)) 27 #[.slice A' n' c']).alloc (.cells #[.slice none 0 0] 27)
    rw [World.size_alloc] at this
    exact this
  have a2 : At (((w.alloc (.cells #[.slice A n c] 27)).alloc (.cells #[.slice A' n' c'] 27)).alloc (.cells #[.slice none 0 0] 27)) (w.heap.size + 2) [.slice none 0 0] := by
    have := At.new ((w.alloc (.cells #[.slice A n c] 27)).alloc (.cells #[.slice A' n' c'] 27)) 27 #[.slice none 0 0]
    rw [World.size_alloc, World.size_alloc] at this
    exact this
  have hsz : (((w.alloc (.cells #[.slice A n c] 27)).alloc (.cells #[.slice A' n' c'] 27)).alloc (.cells #[.slice none 0 0] 27)).heap.size = w.heap.size + 3 := by simp
  obtain ⟨p, hp⟩ : ∃ p, rightV V = p := ⟨_, rfl⟩
  obtain ⟨q, hq⟩ : ∃ q, rightV V' = q := ⟨_, rfl⟩
  have HR := Lib.hid (fun W (hW : Below w.heap.size w W) => VRight_any W A n c R V (hv.below hW) hl (hm.mono (by omega)))
  have HR' := Lib.hid (fun W (hW : Below w.heap.size w W) => VRight_any W A' n' c' R' V' (hv'.below hW) hl' (hm'.mono (by omega)))
  rw [hp] at HR
  rw [hq] at HR'
  have HV := Lib.hid (And.intro hv (And.intro hv' (And.intro hp hq)))
  have HLm := Lib.hid (And.intro hm hm')
  clear hv hv' hl hl' hm hm' hp hq
  go_enter Try.func9, Try.ntmps9
  cases p with
  | false =>
    have HF := Lib.hid (show joinV V V' = [] by rw [joinV, if_neg (by rw [HV.out.2.2.1]; simp)])
    go_wp2_with fail
    generalize ((w.alloc (.cells #[.slice A n c] 27)).alloc (.cells #[.slice A' n' c'] 27)).alloc (.cells #[.slice none 0 0] 27) = W at *
    refine (HR.out _ hb0).mono ?_
    rintro e w1 ⟨rfl, h1⟩
    have b2 := a2.below (h1.mono (by omega))
    have z0 := b2.c 0 rfl
    have z1 := b2.f 0 rfl
    have hbz := hb0.trans (h1.mono (by omega))
    have HZ := Lib.hid (And.intro (b2.set 0 (.slice none 0 0) (by simp)) (hbz.setCell (show w.heap.size ≤ w.heap.size + 2 by omega) (p := ⟨w.heap.size + 2, 0, none⟩) (.slice none 0 0)))
    clear b2 h1
    go_wp2_with fail
    exact bodyPost_ret (results_vec rfl _ rfl HZ.out.1) rfl (by rw [HF.out]; exact PAns.nil HZ.out.2)
  | true =>
    cases q with
    | false =>
      have HF := Lib.hid (show joinV V V' = [] by rw [joinV, if_neg (by rw [HV.out.2.2.2]; simp)])
      go_wp2_with fail
      generalize ((w.alloc (.cells #[.slice A n c] 27)).alloc (.cells #[.slice A' n' c'] 27)).alloc (.cells #[.slice none 0 0] 27) = W at *
      refine (HR.out _ hb0).mono ?_
      rintro e w1 ⟨rfl, h1⟩
      have b1 := a1.below (h1.mono (by omega))
      have b2 := a2.below (h1.mono (by omega))
      have y0 := b1.c 0 rfl
      have hbz := hb0.trans (h1.mono (by omega))
      clear h1
      go_wp2_with fail
      refine (HR'.out _ hbz).mono ?_
      rintro e w2 ⟨rfl, h2⟩
      have d2 := b2.below h2
      have z0 := d2.c 0 rfl
      have z1 := d2.f 0 rfl
      have hby := hbz.trans (h2.mono hbz.size)
      have HZ := Lib.hid (And.intro (d2.set 0 (.slice none 0 0) (by simp)) (hby.setCell (show w.heap.size ≤ w.heap.size + 2 by omega) (p := ⟨w.heap.size + 2, 0, none⟩) (.slice none 0 0)))
      clear b1 b2 d2 h2
      go_wp2_with fail
      exact bodyPost_ret (results_vec rfl _ rfl HZ.out.1) rfl (by rw [HF.out]; exact PAns.nil HZ.out.2)
    | true =>
      have HF := Lib.hid (show joinV V V' = vecOf fun i => joinS (partV V i) (partV V' i) by rw [joinV, if_pos ⟨HV.out.2.2.1, HV.out.2.2.2⟩])
      have HU := Lib.hid (okV_up HV.out.2.2.2)
      have hn64 := HV.out.2.1.one HV.out.2.2.2
      go_wp2_with fail
      generalize ((w.alloc (.cells #[.slice A n c] 27)).alloc (.cells #[.slice A' n' c'] 27)).alloc (.cells #[.slice none 0 0] 27) = W at *
      refine (HR.out _ hb0).mono ?_
      rintro e w1 ⟨rfl, h1⟩
      have b0 := a0.below (h1.mono (by omega))
      have b1 := a1.below (h1.mono (by omega))
      have b2 := a2.below (h1.mono (by omega))
      have y0 := b1.c 0 rfl
      have hbz := hb0.trans (h1.mono (by omega))
      clear h1
      go_wp2_with fail
      refine (HR'.out _ hbz).mono ?_
      rintro e w2 ⟨rfl, h2⟩
      have d0 := b0.below h2
      have d1 := b1.below h2
      have d2 := b2.below h2
      have z0 := d0.c 0 rfl
      have hby := hbz.trans (h2.mono hbz.size)
      have HT := Lib.hid (table_any w2 A n c R V (HV.out.1.below hby) HV.out.2.2.1)
      clear h2 b0 b1 b2 a0 a1 a2 y0 HR HR' hbz hb0
      go_wp2_with fail
      refine HT.out.mono ?_
      rintro e w3 ⟨b, T, rfl, hms, hpt, hbb, h3⟩
      have e1 := d1.below h3
      have e2 := d2.below h3
      have hbx := hby.trans (h3.mono hby.size)
      have x0 := e1.c 0 rfl
      have hg2 : w.heap.size + 2 < w2.heap.size := d2.lt
      have hT0 : ∀ r, partV (T.map RA.p) r = joinS (partV V r) (partV (V'.take 0) r) := fun r => by
        rw [hpt, List.take_zero]
        exact (join_nil (part_right HV.out.2.2.1 r)).symm
      have HS := Lib.hid (And.intro hms (And.intro hT0 (And.intro e2 hbx)))
      clear h3 d0 d1 d2 hms hpt e1 e2 hT0 hbx hby z0 HT
      go_wp2_with fail
      go_loopw [22] (fun x22 wr => ∃ (k : Nat) (T : List RA), k ≤ n' ∧ x22 = .int .i64 (k : Int) ∧ MS wr b T ∧ (∀ r, partV (T.map RA.p) r = joinS (partV V r) (partV (V'.take k) r)) ∧ At wr (w.heap.size + 2) [.slice none 0 0] ∧ Below w.heap.size w wr) (fun x22 _ => n' - (intOf x22).toNat)
      case atStart => exact ⟨0, T, by omega, rfl, HS.out.1, HS.out.2.1, HS.out.2.2.1, HS.out.2.2.2⟩
      case round =>
        clear HS
        obtain ⟨k, T, hk, rfl, hms, hT, h2, hbel⟩ := hrel
        by_cases hlt : k < n'
        · obtain ⟨qq, bb, oo, _, hV, hq, rfl, hbW, c0, c1⟩ := HV.out.2.1.at_ hlt
          have hqa := okV_lt HV.out.2.2.2 _ (List.mem_of_getElem? hV)
          dsimp only at hqa
          replace c0 := (hbel.cell hbW).trans c0
          replace c1 := (hbel.cell hbW).trans c1
          have hd1 : decide ((k : Int) < (n' : Int)) = true := by rw [decide_eq_true_eq]; omega
          have hn0 : (0 : Int) ≤ (k : Int) := by omega
          have hn1 : (k : Int) < (n' : Int) := by omega
          have hbx0 := balloc (Below.refl wr.heap.size wr) (.cells #[.int .i64 qq.r, .slice qq.A qq.l.length qq.c] 61)
          have hbx := hbel.alloc hbel.size (.cells #[.int .i64 qq.r, .slice qq.A qq.l.length qq.c] 61)
          have hpk := part_take_out hV HU.out.rise
          have hTk := hT qq.r
          dsimp only at hpk
          rw [hpk, join_nil (part_right HV.out.2.2.1 _)] at hTk
          have hki : i64in qq.r := by unfold i64in; omega
          have hms2 := hms.below hbx0
          obtain ⟨A2, c2, hlv, hst⟩ := hms2.look qq.r
          rw [hTk] at hlv hst
          have hbox := At.new wr 61 #[.int .i64 qq.r, .slice qq.A qq.l.length qq.c]
          have HQ := Lib.hid (And.intro hms2 (And.intro hT (And.intro (h2.below hbx0) (And.intro hbx (And.intro hV (And.intro hqa (And.intro (hq.below hbx) (And.intro hst hbox))))))))
          have hlr : ∀ Wx, KB (wr.alloc (.cells #[.int .i64 qq.r, .slice qq.A qq.l.length qq.c] 61)).heap Wx → (Instr.lookup 58 (.map (some b)) (.int .i64 qq.r) false).run Try.prog Wx = .ok (.slice A2 (partV V qq.r).length c2) Wx := fun Wx h => by
            have := (HQ.out.1.m.kb h).look1_run (x := qq.r) hki
            rw [← hlv]
            exact this
          have hl1 : (partV V qq.r).length ≤ 10000 := HLm.out.1.part qq.r
          have hl2 : qq.l.length ≤ 10000 := HLm.out.2 _ (List.mem_of_getElem? hV)
          obtain ⟨la, hla⟩ : ∃ m, (partV V qq.r).length = m := ⟨_, rfl⟩
          obtain ⟨lb, hlb⟩ : ∃ m, qq.l.length = m := ⟨_, rfl⟩
          rw [hla] at hlr hl1
          obtain ⟨r, A3, c3, l3⟩ := qq
          dsimp only at *
          rw [hlb] at c1 hbx0 hbx hlr hl2 HQ
          have HLL := Lib.hid (And.intro hla (And.intro hlb (And.intro hl1 hl2)))
          clear hms hT h2 hV hqa hq hst hlv hms2 hla hlb hpk hTk hbox hbx0 hbel hl1 hl2
          go_wp2_with fail
          have hb9 : Below w.heap.size w (wr.alloc (.cells #[.int .i64 r, .slice A3 lb c3] 61)) := hbx
          have f0 := HQ.out.2.2.2.2.2.2.2.2.e 0 rfl
          have f1 := HQ.out.2.2.2.2.2.2.2.2.e 1 rfl
          generalize wr.alloc (.cells #[.int .i64 r, .slice A3 lb c3] 61) = W5 at *
          clear c0 c1 hbx
          refine bstartE (KB W5.heap) 10 (by kernel_rfl) ?_
          refine btakeE 0 [] (oi := _) (v := ?_) (by simp only [getElem?_toArray, getElem?_cons_zero]; rfl) (by kernel_rfl) (by exact fun _ _ _ h => h) (by first | assumption | exact KB.refl _) (.inl ⟨by rfl, fun W hW => ?_⟩) ?_; rotate_left
          · (go_simp; first | done | with_reducible rfl)
          try simp only [Act.put, List.setIfInBounds_toArray, List.set_cons_zero, List.set_cons_succ]
          refine btakeE 1 [] (oi := _) (v := ?_) (by simp only [getElem?_toArray, getElem?_cons_succ, getElem?_cons_zero]; rfl) (by kernel_rfl) (by exact fun _ _ _ h => h) (by first | assumption | exact KB.refl _) (.inl ⟨by rfl, fun W hW => ?_⟩) ?_; rotate_left
          · (go_simp; first | done | with_reducible rfl)
          try simp only [Act.put, List.setIfInBounds_toArray, List.set_cons_zero, List.set_cons_succ]
          refine btakeE 2 [] (oi := _) (v := ?_) (by simp only [getElem?_toArray, getElem?_cons_succ, getElem?_cons_zero]; rfl) (by kernel_rfl) (by exact fun _ _ _ h => h) (by first | assumption | exact KB.refl _) (.inl ⟨by rfl, fun W hW => ?_⟩) ?_; rotate_left
          · (go_simp; first | done | with_reducible rfl)
          try simp only [Act.put, List.setIfInBounds_toArray, List.set_cons_zero, List.set_cons_succ]
          refine btakeE 3 [] (oi := _) (v := ?_) (by simp only [getElem?_toArray, getElem?_cons_succ, getElem?_cons_zero]; rfl) (by kernel_rfl) (by exact fun _ _ _ h => h) (by first | assumption | exact KB.refl _) (.inl ⟨by rfl, fun W hW => ?_⟩) ?_; rotate_left
          · (go_simp; first | done | with_reducible rfl)
          try simp only [Act.put, List.setIfInBounds_toArray, List.set_cons_zero, List.set_cons_succ]
          refine btakeE 4 [] (oi := _) (v := ?_) (by simp only [getElem?_toArray, getElem?_cons_succ, getElem?_cons_zero]; rfl) (by kernel_rfl) (by exact fun _ _ _ h => h) (by first | assumption | exact KB.refl _) (.inl ⟨by rfl, fun W hW => ?_⟩) ?_; rotate_left
          · (go_simp; first | done | with_reducible rfl)
          try simp only [Act.put, List.setIfInBounds_toArray, List.set_cons_zero, List.set_cons_succ]
          refine btakeE 5 [] (oi := _) (v := ?_) (by simp only [getElem?_toArray, getElem?_cons_succ, getElem?_cons_zero]; rfl) (by kernel_rfl) (by exact fun _ _ _ h => h) (by first | assumption | exact KB.refl _) (.inl ⟨by rfl, fun W hW => ?_⟩) ?_; rotate_left
          · (go_simp; first | done | with_reducible rfl)
          try simp only [Act.put, List.setIfInBounds_toArray, List.set_cons_zero, List.set_cons_succ]
          refine btakeE 6 [] (oi := _) (v := ?_) (by simp only [getElem?_toArray, getElem?_cons_succ, getElem?_cons_zero]; rfl) (by kernel_rfl) (by exact fun _ _ _ h => h) (by first | assumption | exact KB.refl _) (.inl ⟨by rfl, fun W hW => ?_⟩) ?_; rotate_left
          · (go_simp; first | done | with_reducible rfl)
          try simp only [Act.put, List.setIfInBounds_toArray, List.set_cons_zero, List.set_cons_succ]
          refine btakeE 7 [] (oi := _) (v := ?_) (by simp only [getElem?_toArray, getElem?_cons_succ, getElem?_cons_zero]; rfl) (by kernel_rfl) (by exact fun _ _ _ h => h) (by first | assumption | exact KB.refl _) (.inl ⟨by rfl, fun W hW => ?_⟩) ?_; rotate_left
          · (go_simp; first | done | with_reducible rfl)
          try simp only [Act.put, List.setIfInBounds_toArray, List.set_cons_zero, List.set_cons_succ]
          refine btakeE 8 [] (oi := _) (v := ?_) (by simp only [getElem?_toArray, getElem?_cons_succ, getElem?_cons_zero]; rfl) (by kernel_rfl) (by exact fun _ _ _ h => h) (by first | assumption | exact KB.refl _) (.inl ⟨by rfl, fun W hW => ?_⟩) ?_; rotate_left
          · (go_simp; first | done | with_reducible rfl)
          try simp only [Act.put, List.setIfInBounds_toArray, List.set_cons_zero, List.set_cons_succ]
          -- 9: newsreel/span.Join
          refine bopE 9 (o := _) (by simp only [getElem?_toArray, getElem?_cons_succ, getElem?_cons_zero]; rfl) (by kernel_rfl) (by rfl) (fun K hK => ?_)
          go_simp
          refine (Join_any W5.drew A2 A3 la lb c2 c3 (partV V r) l3 HQ.out.2.2.2.2.2.2.2.1.1 HQ.out.2.2.2.2.2.2.1.1 HLL.out.1.symm HLL.out.2.1.symm (by have := HLL.out.2.2.1; omega) (by have := HLL.out.2.2.2; omega) (by rw [← HLL.out.2.1]; exact HQ.out.2.2.2.2.2.2.1.2.1)).mono ?_
          rintro e w6 ⟨A6, c6, rfl, hs6, hl6, hc6, hb6⟩
          have hb6' : Below W5.heap.size W5 w6 := (Below.refl _ W5).drew.trans hb6
          have hkb : KB W5.heap w6 := KB.of hb6'
          have H6 := Lib.hid (And.intro hb6' (show RSt w6 ⟨r, A6, c6, joinS (partV V r) l3⟩ from ⟨hs6, hl6, hc6⟩))
          clear hs6 hl6 hc6 hb6 hb6'
          refine hK.out _ _ hkb ?_; clear hK K
          try simp only [Act.put, List.setIfInBounds_toArray, List.set_cons_zero, List.set_cons_succ]
          -- 10: Op.mapUpdate 58 (Operand.tmp 26) (Operand.tmp 28) (Operand.tmp 35)
          refine blastE 10 (o := _) (by simp only [getElem?_toArray, getElem?_cons_succ, getElem?_cons_zero]; rfl) (by kernel_rfl) (by rfl) (by rfl) (fun K hK => ?_)
          have hms6 := HQ.out.1.below H6.out.1
          have hlen := HQ.out.1.len
          refine wp_mput rfl hms6.m (by rw [List.length_map]; simp only [maxLen]; omega) rfl (c := r) rfl hki (d := ⟨A6, (joinS (partV V r) l3).length, c6⟩) rfl ?_
          intro w7 h71 h72
          have hr64 := HQ.out.2.2.2.2.2.1
          have hm7 := hms6.put ⟨r, A6, c6, joinS (partV V r) l3⟩ H6.out.2 ⟨by dsimp only; omega, by dsimp only; omega⟩ h71 h72
          have hb67 : Below w.heap.size w w7 := (HQ.out.2.2.2.1.trans (H6.out.1.mono HQ.out.2.2.2.1.size)).grown h72.grown (Nat.le_trans HQ.out.2.2.2.1.size H6.out.1.size) (fun g e => by have := Option.some.inj e; omega)
          have h27 : At w7 (w.heap.size + 2) [.slice none 0 0] := (HQ.out.2.2.1.below H6.out.1).grown h72.grown (fun e => by have := Option.some.inj e; omega)
          have hT7 : ∀ x, partV ((putR T ⟨r, A6, c6, joinS (partV V r) l3⟩).map RA.p) x = joinS (partV V x) (partV (V'.take (k + 1)) x) := fun x => by
            rw [part_put, part_take HQ.out.2.2.2.2.1 HU.out.rise, HQ.out.2.1]
            by_cases hx : x = r
            · rw [if_pos hx, if_pos hx, hx]
            · rw [if_neg hx, if_neg hx]
          have H7 := Lib.hid (And.intro hm7 (And.intro hT7 (And.intro h27 hb67)))
          clear h71 h72 hm7 hb67 h27 hT7 hms6
          refine hK.out _ _ ?_; clear hK K
          try simp only [Act.put]
          refine bdoneE (by kernel_rfl) ?_
          go_wp2_with fail
          go_roundw
          case rel => exact ⟨k + 1, _, by omega, by go_num, H7.out.1, H7.out.2.1, H7.out.2.2.1, H7.out.2.2.2⟩
          case measure => simp [intOf]; omega
        · obtain rfl : k = n' := by omega
          have hd1 : decide ((k : Int) < (k : Int)) = false := by rw [decide_eq_false_iff_not]; omega
          have hTf : ∀ r, partV (T.map RA.p) r = joinS (partV V r) (partV V' r) := fun r => by rw [hT, ← HV.out.2.1.len, List.take_length]
          have hlm : ∀ r, (partV (T.map RA.p) r).length ≤ 1000000 := fun r => by
            rw [hTf]
            have := joinS_len (partV V r) (partV V' r)
            have := HLm.out.1.part r
            have := HLm.out.2.part r
            omega
          have hro := rows_own wr b T hms hlm
          rw [show (fun r => partV (T.map RA.p) r) = fun r => joinS (partV V r) (partV V' r) from funext hTf, ← HF.out] at hro
          have HO := Lib.hid hro
          have HE := Lib.hid (And.intro h2 hbel)
          clear hms hT hTf hlm hro h2 hbel
          go_wp2_with fail
          refine HO.out.mono ?_
          rintro e w8 ⟨A8, c8, R8, rfl, hvo8, hR8, hb8⟩
          have d2 := HE.out.1.below hb8
          have z0 := d2.c 0 rfl
          have z1 := d2.f 0 rfl
          have hg2w : w.heap.size + 2 < wr.heap.size := HE.out.1.lt
          have hby := HE.out.2.trans (hb8.mono HE.out.2.size)
          have hvo9 := hvo8.kept (grownS w8 (w.heap.size + 2) 0 (.slice A8 R8.length c8)) (by omega)
          have HZ := Lib.hid (And.intro (d2.set 0 (.slice A8 R8.length c8) (by simp)) (And.intro (hby.setCell (show w.heap.size ≤ w.heap.size + 2 by omega) (p := ⟨w.heap.size + 2, 0, none⟩) (.slice A8 R8.length c8)) hvo9))
          clear d2 hb8 hby hvo8 hvo9
          go_wp2_with fail
          exact bodyPost_ret (results_vec rfl _ rfl HZ.out.1) rfl ⟨A8, c8, R8, rfl, HZ.out.2.2.lower (by omega), hR8, HZ.out.2.1⟩
set_option maxRecDepth 100000 in
set_option maxHeartbeats 6400000 in
theorem VMinus_own (w : World) (A A' : Option Addr) (n n' c c' : Nat) (R R' : List RA) (V V' : VL) (hv : VS w A n c R V) (hv' : VS w A' n' c' R' V') (hl : n ≤ 1000000) (hl' : n' ≤ 1000000) (hm : Lim 10000 V) (hm' : Lim 10000 V') :
    Calls Try.prog 10 #[.agg #[.slice A n c], .agg #[.slice A' n' c']] w (PAns w (minusV V V')) := by
  have hb0 : Below w.heap.size w (((w.alloc (.cells #[.slice A n c] 27)).alloc (.cells #[.slice A' n' c'] 27)).alloc (.cells #[.slice none 0 0] 27)) := balloc (balloc (balloc (Below.refl _ _) _) _) _
  have a0 : At (((w.alloc (.cells #[.slice A n c] 27)).alloc (.cells #[.slice A' n' c'] 27)).alloc (.cells #[.slice none 0 0] 27)) w.heap.size [.slice A n c] := ((At.new w 27 #[.slice A n c]).alloc _).alloc _
  have a1 : At (((w.alloc (.cells #[.slice A n c] 27)).alloc (.cells #[.slice A' n' c'] 27)).alloc (.cells #[.slice none 0 0] 27)) (w.heap.size + 1) [.slice A' n' c'] := by
    have := (At.new (w.alloc (.cells #[.slice A n c] 27)) 27 #[.slice A' n' c']).alloc (.cells #[.slice none 0 0] 27)
    rw [World.size_alloc] at this
    exact this
  have a2 : At (((w.alloc (.cells #[.slice A n c] 27)).alloc (.cells #[.slice A' n' c'] 27)).alloc (.cells #[.slice none 0 0] 27)) (w.heap.size + 2) [.slice none 0 0] := by
    have := At.new ((w.alloc (.cells #[.slice A n c] 27)).alloc (.cells #[.slice A' n' c'] 27)) 27 #[.slice none 0 0]
    rw [World.size_alloc, World.size_alloc] at this
    exact this
  have hsz : (((w.alloc (.cells #[.slice A n c] 27)).alloc (.cells #[.slice A' n' c'] 27)).alloc (.cells #[.slice none 0 0] 27)).heap.size = w.heap.size + 3 := by simp
  obtain ⟨p, hp⟩ : ∃ p, rightV V = p := ⟨_, rfl⟩
  obtain ⟨q, hq⟩ : ∃ q, rightV V' = q := ⟨_, rfl⟩
  have HR := Lib.hid (fun W (hW : Below w.heap.size w W) => VRight_any W A n c R V (hv.below hW) hl (hm.mono (by omega)))
  have HR' := Lib.hid (fun W (hW : Below w.heap.size w W) => VRight_any W A' n' c' R' V' (hv'.below hW) hl' (hm'.mono (by omega)))
  rw [hp] at HR
  rw [hq] at HR'
  have HV := Lib.hid (And.intro hv (And.intro hv' (And.intro hp hq)))
  have HLm := Lib.hid (And.intro hm hm')
  clear hv hv' hl hl' hm hm' hp hq
  go_enter Try.func10, Try.ntmps10
  cases p with
  | false =>
    have HF := Lib.hid (show minusV V V' = [] by rw [minusV, if_neg (by rw [HV.out.2.2.1]; simp)])
    go_wp2_with fail
    generalize ((w.alloc (.cells #[.slice A n c] 27)).alloc (.cells #[.slice A' n' c'] 27)).alloc (.cells #[.slice none 0 0] 27) = W at *
    refine (HR.out _ hb0).mono ?_
    rintro e w1 ⟨rfl, h1⟩
    have b2 := a2.below (h1.mono (by omega))
    have z0 := b2.c 0 rfl
    have z1 := b2.f 0 rfl
    have hbz := hb0.trans (h1.mono (by omega))
    have HZ := Lib.hid (And.intro (b2.set 0 (.slice none 0 0) (by simp)) (hbz.setCell (show w.heap.size ≤ w.heap.size + 2 by omega) (p := ⟨w.heap.size + 2, 0, none⟩) (.slice none 0 0)))
    clear b2 h1
    go_wp2_with fail
    exact bodyPost_ret (results_vec rfl _ rfl HZ.out.1) rfl (by rw [HF.out]; exact PAns.nil HZ.out.2)
  | true =>
    cases q with
    | false =>
      have HF := Lib.hid (show minusV V V' = [] by rw [minusV, if_neg (by rw [HV.out.2.2.2]; simp)])
      go_wp2_with fail
      generalize ((w.alloc (.cells #[.slice A n c] 27)).alloc (.cells #[.slice A' n' c'] 27)).alloc (.cells #[.slice none 0 0] 27) = W at *
      refine (HR.out _ hb0).mono ?_
      rintro e w1 ⟨rfl, h1⟩
      have b1 := a1.below (h1.mono (by omega))
      have b2 := a2.below (h1.mono (by omega))
      have y0 := b1.c 0 rfl
      have hbz := hb0.trans (h1.mono (by omega))
      clear h1
      go_wp2_with fail
      refine (HR'.out _ hbz).mono ?_
      rintro e w2 ⟨rfl, h2⟩
      have d2 := b2.below h2
      have z0 := d2.c 0 rfl
      have z1 := d2.f 0 rfl
      have hby := hbz.trans (h2.mono hbz.size)
      have HZ := Lib.hid (And.intro (d2.set 0 (.slice none 0 0) (by simp)) (hby.setCell (show w.heap.size ≤ w.heap.size + 2 by omega) (p := ⟨w.heap.size + 2, 0, none⟩) (.slice none 0 0)))
      clear b1 b2 d2 h2
      go_wp2_with fail
      exact bodyPost_ret (results_vec rfl _ rfl HZ.out.1) rfl (by rw [HF.out]; exact PAns.nil HZ.out.2)
    | true =>
      have HF := Lib.hid (show minusV V V' = vecOf fun i => minusS (partV V i) (partV V' i) by rw [minusV, if_pos ⟨HV.out.2.2.1, HV.out.2.2.2⟩])
      have HU := Lib.hid (okV_up HV.out.2.2.2)
      have hn64 := HV.out.2.1.one HV.out.2.2.2
      go_wp2_with fail
      generalize ((w.alloc (.cells #[.slice A n c] 27)).alloc (.cells #[.slice A' n' c'] 27)).alloc (.cells #[.slice none 0 0] 27) = W at *
      refine (HR.out _ hb0).mono ?_
      rintro e w1 ⟨rfl, h1⟩
      have b0 := a0.below (h1.mono (by omega))
      have b1 := a1.below (h1.mono (by omega))
      have b2 := a2.below (h1.mono (by omega))
      have y0 := b1.c 0 rfl
      have hbz := hb0.trans (h1.mono (by omega))
      clear h1
      go_wp2_with fail
      refine (HR'.out _ hbz).mono ?_
      rintro e w2 ⟨rfl, h2⟩
      have d0 := b0.below h2
      have d1 := b1.below h2
      have d2 := b2.below h2
      have z0 := d0.c 0 rfl
      have hby := hbz.trans (h2.mono hbz.size)
      have HT := Lib.hid (table_any w2 A n c R V (HV.out.1.below hby) HV.out.2.2.1)
      clear h2 b0 b1 b2 a0 a1 a2 y0 HR HR' hbz hb0
      go_wp2_with fail
      refine HT.out.mono ?_
      rintro e w3 ⟨b, T, rfl, hms, hpt, hbb, h3⟩
      have e1 := d1.below h3
      have e2 := d2.below h3
      have hbx := hby.trans (h3.mono hby.size)
      have x0 := e1.c 0 rfl
      have hg2 : w.heap.size + 2 < w2.heap.size := d2.lt
      have hT0 : ∀ r, partV (T.map RA.p) r = minusS (partV V r) (partV (V'.take 0) r) := fun r => by
        rw [hpt, List.take_zero]
        exact (minus_nil (part_right HV.out.2.2.1 r)).symm
      have HS := Lib.hid (And.intro hms (And.intro hT0 (And.intro e2 hbx)))
      clear h3 d0 d1 d2 hms hpt e1 e2 hT0 hbx hby z0 HT
      go_wp2_with fail
      go_loopw [22] (fun x22 wr => ∃ (k : Nat) (T : List RA), k ≤ n' ∧ x22 = .int .i64 (k : Int) ∧ MS wr b T ∧ (∀ r, partV (T.map RA.p) r = minusS (partV V r) (partV (V'.take k) r)) ∧ At wr (w.heap.size + 2) [.slice none 0 0] ∧ Below w.heap.size w wr) (fun x22 _ => n' - (intOf x22).toNat)
      case atStart => exact ⟨0, T, by omega, rfl, HS.out.1, HS.out.2.1, HS.out.2.2.1, HS.out.2.2.2⟩
      case round =>
        clear HS
        obtain ⟨k, T, hk, rfl, hms, hT, h2, hbel⟩ := hrel
        by_cases hlt : k < n'
        · obtain ⟨qq, bb, oo, _, hV, hq, rfl, hbW, c0, c1⟩ := HV.out.2.1.at_ hlt
          have hqa := okV_lt HV.out.2.2.2 _ (List.mem_of_getElem? hV)
          dsimp only at hqa
          replace c0 := (hbel.cell hbW).trans c0
          replace c1 := (hbel.cell hbW).trans c1
          have hd1 : decide ((k : Int) < (n' : Int)) = true := by rw [decide_eq_true_eq]; omega
          have hn0 : (0 : Int) ≤ (k : Int) := by omega
          have hn1 : (k : Int) < (n' : Int) := by omega
          have hbx0 := balloc (Below.refl wr.heap.size wr) (.cells #[.int .i64 qq.r, .slice qq.A qq.l.length qq.c] 61)
          have hbx := hbel.alloc hbel.size (.cells #[.int .i64 qq.r, .slice qq.A qq.l.length qq.c] 61)
          have hpk := part_take_out hV HU.out.rise
          have hTk := hT qq.r
          dsimp only at hpk
          rw [hpk, minus_nil (part_right HV.out.2.2.1 _)] at hTk
          have hki : i64in qq.r := by unfold i64in; omega
          have hms2 := hms.below hbx0
          obtain ⟨A2, c2, hlv, hst⟩ := hms2.look qq.r
          rw [hTk] at hlv hst
          have hbox := At.new wr 61 #[.int .i64 qq.r, .slice qq.A qq.l.length qq.c]
          have HQ := Lib.hid (And.intro hms2 (And.intro hT (And.intro (h2.below hbx0) (And.intro hbx (And.intro hV (And.intro hqa (And.intro (hq.below hbx) (And.intro hst hbox))))))))
          have hlr : ∀ Wx, KB (wr.alloc (.cells #[.int .i64 qq.r, .slice qq.A qq.l.length qq.c] 61)).heap Wx → (Instr.lookup 58 (.map (some b)) (.int .i64 qq.r) false).run Try.prog Wx = .ok (.slice A2 (partV V qq.r).length c2) Wx := fun Wx h => by
            have := (HQ.out.1.m.kb h).look1_run (x := qq.r) hki
            rw [← hlv]
            exact this
          have hl1 : (partV V qq.r).length ≤ 10000 := HLm.out.1.part qq.r
          have hl2 : qq.l.length ≤ 10000 := HLm.out.2 _ (List.mem_of_getElem? hV)
          obtain ⟨la, hla⟩ : ∃ m, (partV V qq.r).length = m := ⟨_, rfl⟩
          obtain ⟨lb, hlb⟩ : ∃ m, qq.l.length = m := ⟨_, rfl⟩
          rw [hla] at hlr hl1
          obtain ⟨r, A3, c3, l3⟩ := qq
          dsimp only at *
          rw [hlb] at c1 hbx0 hbx hlr hl2 HQ
          have HLL := Lib.hid (And.intro hla (And.intro hlb (And.intro hl1 hl2)))
          clear hms hT h2 hV hqa hq hst hlv hms2 hla hlb hpk hTk hbox hbx0 hbel hl1 hl2
          go_wp2_with fail
          have hb9 : Below w.heap.size w (wr.alloc (.cells #[.int .i64 r, .slice A3 lb c3] 61)) := hbx
          have f0 := HQ.out.2.2.2.2.2.2.2.2.e 0 rfl
          have f1 := HQ.out.2.2.2.2.2.2.2.2.e 1 rfl
          generalize wr.alloc (.cells #[.int .i64 r, .slice A3 lb c3] 61) = W5 at *
          clear c0 c1 hbx
          refine bstartE (KB W5.heap) 10 (by kernel_rfl) ?_
          refine btakeE 0 [] (oi := _) (v := ?_) (by simp only [getElem?_toArray, getElem?_cons_zero]; rfl) (by kernel_rfl) (by exact fun _ _ _ h => h) (by first | assumption | exact KB.refl _) (.inl ⟨by rfl, fun W hW => ?_⟩) ?_; rotate_left
          · (go_simp; first | done | with_reducible rfl)
          try simp only [Act.put, List.setIfInBounds_toArray, List.set_cons_zero, List.set_cons_succ]
          refine btakeE 1 [] (oi := _) (v := ?_) (by simp only [getElem?_toArray, getElem?_cons_succ, getElem?_cons_zero]; rfl) (by kernel_rfl) (by exact fun _ _ _ h => h) (by first | assumption | exact KB.refl _) (.inl ⟨by rfl, fun W hW => ?_⟩) ?_; rotate_left
          · (go_simp; first | done | with_reducible rfl)
          try simp only [Act.put, List.setIfInBounds_toArray, List.set_cons_zero, List.set_cons_succ]
          refine btakeE 2 [] (oi := _) (v := ?_) (by simp only [getElem?_toArray, getElem?_cons_succ, getElem?_cons_zero]; rfl) (by kernel_rfl) (by exact fun _ _ _ h => h) (by first | assumption | exact KB.refl _) (.inl ⟨by rfl, fun W hW => ?_⟩) ?_; rotate_left
          · (go_simp; first | done | with_reducible rfl)
          try simp only [Act.put, List.setIfInBounds_toArray, List.set_cons_zero, List.set_cons_succ]
          refine btakeE 3 [] (oi := _) (v := ?_) (by simp only [getElem?_toArray, getElem?_cons_succ, getElem?_cons_zero]; rfl) (by kernel_rfl) (by exact fun _ _ _ h => h) (by first | assumption | exact KB.refl _) (.inl ⟨by rfl, fun W hW => ?_⟩) ?_; rotate_left
          · (go_simp; first | done | with_reducible rfl)
          try simp only [Act.put, List.setIfInBounds_toArray, List.set_cons_zero, List.set_cons_succ]
          refine btakeE 4 [] (oi := _) (v := ?_) (by simp only [getElem?_toArray, getElem?_cons_succ, getElem?_cons_zero]; rfl) (by kernel_rfl) (by exact fun _ _ _ h => h) (by first | assumption | exact KB.refl _) (.inl ⟨by rfl, fun W hW => ?_⟩) ?_; rotate_left
          · (go_simp; first | done | with_reducible rfl)
          try simp only [Act.put, List.setIfInBounds_toArray, List.set_cons_zero, List.set_cons_succ]
          refine btakeE 5 [] (oi := _) (v := ?_) (by simp only [getElem?_toArray, getElem?_cons_succ, getElem?_cons_zero]; rfl) (by kernel_rfl) (by exact fun _ _ _ h => h) (by first | assumption | exact KB.refl _) (.inl ⟨by rfl, fun W hW => ?_⟩) ?_; rotate_left
          · (go_simp; first | done | with_reducible rfl)
          try simp only [Act.put, List.setIfInBounds_toArray, List.set_cons_zero, List.set_cons_succ]
          refine btakeE 6 [] (oi := _) (v := ?_) (by simp only [getElem?_toArray, getElem?_cons_succ, getElem?_cons_zero]; rfl) (by kernel_rfl) (by exact fun _ _ _ h => h) (by first | assumption | exact KB.refl _) (.inl ⟨by rfl, fun W hW => ?_⟩) ?_; rotate_left
          · (go_simp; first | done | with_reducible rfl)
          try simp only [Act.put, List.setIfInBounds_toArray, List.set_cons_zero, List.set_cons_succ]
          refine btakeE 7 [] (oi := _) (v := ?_) (by simp only [getElem?_toArray, getElem?_cons_succ, getElem?_cons_zero]; rfl) (by kernel_rfl) (by exact fun _ _ _ h => h) (by first | assumption | exact KB.refl _) (.inl ⟨by rfl, fun W hW => ?_⟩) ?_; rotate_left
          · (go_simp; first | done | with_reducible rfl)
          try simp only [Act.put, List.setIfInBounds_toArray, List.set_cons_zero, List.set_cons_succ]
          refine btakeE 8 [] (oi := _) (v := ?_) (by simp only [getElem?_toArray, getElem?_cons_succ, getElem?_cons_zero]; rfl) (by kernel_rfl) (by exact fun _ _ _ h => h) (by first | assumption | exact KB.refl _) (.inl ⟨by rfl, fun W hW => ?_⟩) ?_; rotate_left
          · (go_simp; first | done | with_reducible rfl)
          try simp only [Act.put, List.setIfInBounds_toArray, List.set_cons_zero, List.set_cons_succ]
          -- 9: newsreel/span.Minus
          refine bopE 9 (o := _) (by simp only [getElem?_toArray, getElem?_cons_succ, getElem?_cons_zero]; rfl) (by kernel_rfl) (by rfl) (fun K hK => ?_)
          go_simp
          refine (Minus_any W5.drew A2 A3 la lb c2 c3 (partV V r) l3 HQ.out.2.2.2.2.2.2.2.1.1 HQ.out.2.2.2.2.2.2.1.1 HLL.out.1.symm HLL.out.2.1.symm (by have := HLL.out.2.2.1; omega) (by have := HLL.out.2.2.2; omega) (by rw [← HLL.out.2.1]; exact HQ.out.2.2.2.2.2.2.1.2.1) HQ.out.2.2.2.2.2.2.1.2.2).mono ?_
          rintro e w6 ⟨A6, c6, rfl, hs6, hl6, hc6, hb6⟩
          have hb6' : Below W5.heap.size W5 w6 := (Below.refl _ W5).drew.trans hb6
          have hkb : KB W5.heap w6 := KB.of hb6'
          have H6 := Lib.hid (And.intro hb6' (show RSt w6 ⟨r, A6, c6, minusS (partV V r) l3⟩ from ⟨hs6, hl6, hc6⟩))
          clear hs6 hl6 hc6 hb6 hb6'
          refine hK.out _ _ hkb ?_; clear hK K
          try simp only [Act.put, List.setIfInBounds_toArray, List.set_cons_zero, List.set_cons_succ]
          -- 10: Op.mapUpdate 58 (Operand.tmp 26) (Operand.tmp 28) (Operand.tmp 35)
          refine blastE 10 (o := _) (by simp only [getElem?_toArray, getElem?_cons_succ, getElem?_cons_zero]; rfl) (by kernel_rfl) (by rfl) (by rfl) (fun K hK => ?_)
          have hms6 := HQ.out.1.below H6.out.1
          have hlen := HQ.out.1.len
          refine wp_mput rfl hms6.m (by rw [List.length_map]; simp only [maxLen]; omega) rfl (c := r) rfl hki (d := ⟨A6, (minusS (partV V r) l3).length, c6⟩) rfl ?_
          intro w7 h71 h72
          have hr64 := HQ.out.2.2.2.2.2.1
          have hm7 := hms6.put ⟨r, A6, c6, minusS (partV V r) l3⟩ H6.out.2 ⟨by dsimp only; omega, by dsimp only; omega⟩ h71 h72
          have hb67 : Below w.heap.size w w7 := (HQ.out.2.2.2.1.trans (H6.out.1.mono HQ.out.2.2.2.1.size)).grown h72.grown (Nat.le_trans HQ.out.2.2.2.1.size H6.out.1.size) (fun g e => by have := Option.some.inj e; omega)
          have h27 : At w7 (w.heap.size + 2) [.slice none 0 0] := (HQ.out.2.2.1.below H6.out.1).grown h72.grown (fun e => by have := Option.some.inj e; omega)
          have hT7 : ∀ x, partV ((putR T ⟨r, A6, c6, minusS (partV V r) l3⟩).map RA.p) x = minusS (partV V x) (partV (V'.take (k + 1)) x) := fun x => by
            rw [part_put, part_take HQ.out.2.2.2.2.1 HU.out.rise, HQ.out.2.1]
            by_cases hx : x = r
            · rw [if_pos hx, if_pos hx, hx]
            · rw [if_neg hx, if_neg hx]
          have H7 := Lib.hid (And.intro hm7 (And.intro hT7 (And.intro h27 hb67)))
          clear h71 h72 hm7 hb67 h27 hT7 hms6
          refine hK.out _ _ ?_; clear hK K
          try simp only [Act.put]
          refine bdoneE (by kernel_rfl) ?_
          go_wp2_with fail
          go_roundw
          case rel => exact ⟨k + 1, _, by omega, by go_num, H7.out.1, H7.out.2.1, H7.out.2.2.1, H7.out.2.2.2⟩
          case measure => simp [intOf]; omega
        · obtain rfl : k = n' := by omega
          have hd1 : decide ((k : Int) < (k : Int)) = false := by rw [decide_eq_false_iff_not]; omega
          have hTf : ∀ r, partV (T.map RA.p) r = minusS (partV V r) (partV V' r) := fun r => by rw [hT, ← HV.out.2.1.len, List.take_length]
          have hlm : ∀ r, (partV (T.map RA.p) r).length ≤ 1000000 := fun r => by
            rw [hTf]
            have := minusS_len (partV V r) (partV V' r)
            have := HLm.out.1.part r
            have := HLm.out.2.part r
            omega
          have hro := rows_own wr b T hms hlm
          rw [show (fun r => partV (T.map RA.p) r) = fun r => minusS (partV V r) (partV V' r) from funext hTf, ← HF.out] at hro
          have HO := Lib.hid hro
          have HE := Lib.hid (And.intro h2 hbel)
          clear hms hT hTf hlm hro h2 hbel
          go_wp2_with fail
          refine HO.out.mono ?_
          rintro e w8 ⟨A8, c8, R8, rfl, hvo8, hR8, hb8⟩
          have d2 := HE.out.1.below hb8
          have z0 := d2.c 0 rfl
          have z1 := d2.f 0 rfl
          have hg2w : w.heap.size + 2 < wr.heap.size := HE.out.1.lt
          have hby := HE.out.2.trans (hb8.mono HE.out.2.size)
          have hvo9 := hvo8.kept (grownS w8 (w.heap.size + 2) 0 (.slice A8 R8.length c8)) (by omega)
          have HZ := Lib.hid (And.intro (d2.set 0 (.slice A8 R8.length c8) (by simp)) (And.intro (hby.setCell (show w.heap.size ≤ w.heap.size + 2 by omega) (p := ⟨w.heap.size + 2, 0, none⟩) (.slice A8 R8.length c8)) hvo9))
          clear d2 hb8 hby hvo8 hvo9
          go_wp2_with fail
          exact bodyPost_ret (results_vec rfl _ rfl HZ.out.1) rfl ⟨A8, c8, R8, rfl, HZ.out.2.2.lower (by omega), hR8, HZ.out.2.1⟩
end Go.Proofs.Ytaflikgdlkaefaa
/- Vectors: the document's VecOf (plain facts, the array). -/
namespace Go.Proofs.Ytaflikgdlkaefaa
open Go.RowKit Go.Maps Go.Proofs.Ytaflikgdlkaefaa.Pl Go.Proofs.Ytaflikgdlkaefaa.Sp Go.Proofs.Ytaflikgdlkaefaa.Ve
set_option maxRecDepth 20000

theorem ofS_snoc (s : List Int) (q : Int) : ofS (s ++ [q]) = if numOk q = true then addR (ofS s) ⟨q, q⟩ else ofS s := by
  unfold ofS
  rw [List.foldl_append]
  rfl
theorem seqsOf_take {l : List Dt.D2} {k : Nat} {d : Dt.D2} (h : l[k]? = some d) (r : Int) : seqsOf (l.take (k + 1)) r = if d.right = true ∧ d.r = r then seqsOf (l.take k) r ++ [d.q] else seqsOf (l.take k) r := by
  unfold seqsOf
  rw [List.take_add_one, h, Option.toList_some, List.filter_append, List.map_append]
  by_cases hc : d.right = true ∧ d.r = r
  · rw [if_pos hc, List.filter_cons_of_pos (by simp [hc.1, hc.2])]
    rfl
  · rw [if_neg hc, List.filter_cons_of_neg (by simpa using fun a b => hc ⟨a, b⟩)]
    simp
/-- a right dot more -/
theorem ofS_step {l : List Dt.D2} {k : Nat} {d : Dt.D2} (h : l[k]? = some d) (hd : d.right = true) (r : Int) : ofS (seqsOf (l.take (k + 1)) r) = if r = d.r then addS (ofS (seqsOf (l.take k) r)) ⟨d.q, d.q⟩ else ofS (seqsOf (l.take k) r) := by
  rw [seqsOf_take h]
  by_cases hr : r = d.r
  · rw [if_pos ⟨hd, hr.symm⟩, if_pos hr, ofS_snoc]
    obtain ⟨h1, h2, h3, h4⟩ := Dt.right_iff.1 hd
    have hok : (⟨d.q, d.q⟩ : Rg).ok = true := ok_iff.2 ⟨h3, Int.le_refl _, by unfold mx; omega⟩
    rw [if_pos (show numOk d.q = true by unfold numOk mx; rw [decide_eq_true_eq]; omega), addS, if_pos ⟨ofS_right _, hok⟩]
  · rw [if_neg (fun e => hr e.2.symm), if_neg hr]
theorem ofS_skip {l : List Dt.D2} {k : Nat} {d : Dt.D2} (h : l[k]? = some d) (hd : d.right = false) (r : Int) : ofS (seqsOf (l.take (k + 1)) r) = ofS (seqsOf (l.take k) r) := by
  rw [seqsOf_take h, if_neg (fun e => by rw [hd] at e; cases e.1)]
def z64S : List RSl := List.replicate 64 zeroS
theorem infoA : (Try.prog.info? 83).bind (·.zero) = some (.agg (XA.us z64S).toArray) := by kernel_rfl
theorem zeroA (w : World) : (zeroValue 83).run Try.prog w = .ok (.agg (XA.us z64S).toArray) w := by
  have h := infoA
  cases hi : Try.prog.info? 83 with
  | none => rw [hi] at h; cases h
  | some i => rw [hi] at h; simp only [Option.bind_some] at h; simp [zeroValue, typeInfo, hi, h]
theorem aggA (w : World) : (isAgg 83).run Try.prog w = .ok true w := by first | exact Try.isAgg83 w | go_simp
theorem sizeA (w : World) : (Go.sizeOf 83).run Try.prog w = .ok 64 w := by first | exact Try.sizeOf83 w | go_simp
theorem XA.zero (w : World) : XA w z64S (fun _ => []) := ⟨rfl, fun i hi => ⟨zeroS, by rw [z64S, List.getElem?_replicate, if_pos hi], rfl, RSt.nil w i⟩⟩
/-- a slice is laid into the array -/
theorem XA.set {w' : World} {X : List RSl} {f g : Int → List Rg} (h : XA w' X f) {r : Nat} (_hr : r < 64) {s : RSl} (hs : s.n = (g r).length) (hst : RSt w' ⟨r, s.A, s.c, g r⟩) (hg : ∀ i : Nat, i < 64 → i ≠ r → g i = f i) : XA w' (X.set r s) g := ⟨by rw [List.length_set]; exact h.1, fun i hi => by
  by_cases e : i = r
  · subst e
    exact ⟨s, by rw [List.getElem?_set_self (by rw [h.1]; exact hi)], hs, hst⟩
  · obtain ⟨s', h1, h2, h3⟩ := h.2 i hi
    rw [hg i hi e]
    exact ⟨s', by rw [List.getElem?_set_ne (fun e' => e e'.symm)]; exact h1, h2, h3⟩⟩
end Go.Proofs.Ytaflikgdlkaefaa
/- Dots: plain mathematics of lists of them, and their bytes. -/
namespace Go.Proofs.Ytaflikgdlkaefaa.Dt
open Go.Proofs.Ytaflikgdlkaefaa.Pl

def okAt (l : List D2) (i : Nat) : Bool := (l[i]?.getD ⟨0, 0⟩).right && (decide (i = 0) || (l[i - 1]?.getD ⟨0, 0⟩).lt (l[i]?.getD ⟨0, 0⟩))
def goodD (l : List D2) : Bool := (List.range l.length).all (okAt l)
theorem good_of {l : List D2} (h : ∀ i, i < l.length → okAt l i = true) : goodD l = true := by
  rw [goodD, List.all_eq_true]
  intro i hi
  exact h i (List.mem_range.1 hi)
theorem good_no {l : List D2} {i : Nat} (hi : i < l.length) (h : okAt l i = false) : goodD l = false := by
  rw [goodD, List.all_eq_false]
  exact ⟨i, List.mem_range.2 hi, by rw [h]; simp⟩
theorem good_at {l : List D2} (h : goodD l = true) (i : Nat) (hi : i < l.length) : okAt l i = true := by
  rw [goodD, List.all_eq_true] at h
  exact h i (List.mem_range.2 hi)
theorem okAt_append {l m : List D2} {i : Nat} (hi : i < l.length) : okAt (l ++ m) i = okAt l i := by
  unfold okAt
  rw [List.getElem?_append_left hi, List.getElem?_append_left (by omega)]
theorem okAt_last (l : List D2) (x : D2) : okAt (l ++ [x]) l.length = (x.right && (decide (l = []) || (l[l.length - 1]?.getD ⟨0, 0⟩).lt x)) := by
  unfold okAt
  rw [List.getElem?_append_right (Nat.le_refl _)]
  by_cases h : l = []
  · subst h; simp
  · have : 0 < l.length := List.length_pos_iff.2 h
    rw [List.getElem?_append_left (by omega)]
    simp [h]
theorem good_snoc (l : List D2) (x : D2) : goodD (l ++ [x]) = (goodD l && (x.right && (decide (l = []) || (l[l.length - 1]?.getD ⟨0, 0⟩).lt x))) := by
  rw [← okAt_last]
  rcases h : goodD l with _ | _
  · obtain ⟨i, hi, h'⟩ : ∃ i, i < l.length ∧ okAt l i = false := by
      rw [goodD, List.all_eq_false] at h
      obtain ⟨i, hi, h'⟩ := h
      exact ⟨i, List.mem_range.1 hi, by simpa using h'⟩
    rw [good_no (i := i) (by simp; omega) (by rw [okAt_append hi]; exact h')]
    rfl
  · rcases h2 : okAt (l ++ [x]) l.length with _ | _
    · rw [good_no (by simp) h2]; rfl
    · rw [good_of fun i hi => by
        by_cases e : i = l.length
        · subst e; exact h2
        · have hi' : i < l.length := by simp at hi; omega
          rw [okAt_append hi']; exact good_at h i hi']
      rfl
theorem good_take {l : List D2} (h : goodD l = true) (k : Nat) : goodD (l.take k) = true := by
  refine good_of fun i hi => ?_
  rw [List.length_take] at hi
  have := good_at h i (by omega)
  rw [← List.take_append_drop k l, okAt_append (by rw [List.length_take]; omega)] at this
  exact this
theorem good_rise {l : List D2} (h : Rise l) (hr : ∀ x ∈ l, x.right = true) : goodD l = true := by
  refine good_of fun i hi => ?_
  unfold okAt
  rw [List.getElem?_eq_getElem hi, Option.getD_some, hr _ (List.getElem_mem hi), Bool.true_and]
  by_cases h0 : i = 0
  · simp [h0]
  · rw [List.getElem?_eq_getElem (by omega), Option.getD_some, List.pairwise_iff_getElem.1 h (i - 1) i (by omega) hi (by omega)]
    simp
theorem good_right {l : List D2} (h : goodD l = true) : ∀ x ∈ l, x.right = true := by
  intro x hx
  obtain ⟨i, hi, rfl⟩ := List.mem_iff_getElem.1 hx
  have := good_at h i hi
  unfold okAt at this
  rw [List.getElem?_eq_getElem hi, Option.getD_some, Bool.and_eq_true] at this
  exact this.1
def flatD (l : List D2) : List UInt8 := l.flatMap D2.bytes
theorem flatD_append (a b : List D2) : flatD (a ++ b) = flatD a ++ flatD b := by simp [flatD]
theorem flatD_snoc (a : List D2) (x : D2) : flatD (a ++ [x]) = flatD a ++ x.bytes := by simp [flatD]
theorem flatD_le (l : List D2) : (flatD l).length ≤ 11 * l.length := by
  induction l with
  | nil => simp [flatD]
  | cons x t ih =>
    have := bytes_le x
    simp only [flatD, List.flatMap_cons, List.length_append, List.length_cons] at *
    omega
def putDs (l : List D2) : List UInt8 := if l.length ≤ 16 ∧ goodD l = true then enc l.length ++ flatD l else []
def goA (b : List UInt8) : Nat → List D2 → Nat → List D2 × Nat × Nat
  | 0, out, k => (out, k, 0)
  | n + 1, out, k => if (takeD (b.drop k)).2.2 ≠ 0 then ([], 0, (takeD (b.drop k)).2.2)
    else if out ≠ [] ∧ (out[out.length - 1]?.getD ⟨0, 0⟩).lt (takeD (b.drop k)).1 = false then ([], 0, 21)
    else goA b n (out ++ [(takeD (b.drop k)).1]) (k + (takeD (b.drop k)).2.1)
def takeDs (b : List UInt8) : List D2 × Nat × Nat :=
  if (takeS b).2.2 ≠ 0 then ([], 0, (takeS b).2.2) else if (takeS b).1 > 16 then ([], 0, 21) else goA b (takeS b).1 [] (takeS b).2.1
theorem goA_ok (b : List UInt8) : ∀ (n : Nat) (out : List D2) (k : Nat), (goA b n out k).2.2 = 0 → goodD out = true → k ≤ b.length →
    ∃ more : List D2, (goA b n out k).1 = out ++ more ∧ more.length = n ∧ goodD (out ++ more) = true ∧ (goA b n out k).2.1 ≤ b.length ∧ (goA b n out k).2.1 = k + (flatD more).length ∧ flatD more = (b.drop k).take (flatD more).length
  | 0, out, k, _, hg, hk => ⟨[], by simp [goA], rfl, by simpa using hg, hk, by simp [goA, flatD], by simp [flatD]⟩
  | n + 1, out, k, h, hg, hk => by
    unfold goA at h ⊢
    by_cases h1 : (takeD (b.drop k)).2.2 ≠ 0
    · rw [if_pos h1] at h; exact absurd h h1
    rw [if_neg h1] at h ⊢
    by_cases h2 : out ≠ [] ∧ (out[out.length - 1]?.getD ⟨0, 0⟩).lt (takeD (b.drop k)).1 = false
    · rw [if_pos h2] at h; simp at h
    rw [if_neg h2] at h ⊢
    obtain ⟨hr, hby, hn2, hnl⟩ := takeD_ok (b := b.drop k) (by omega)
    have hgs : goodD (out ++ [(takeD (b.drop k)).1]) = true := by
      rw [good_snoc, hg, hr]
      by_cases e : out = []
      · simp [e]
      · rcases hb : (out[out.length - 1]?.getD ⟨0, 0⟩).lt (takeD (b.drop k)).1 with _ | _
        · exact absurd ⟨e, hb⟩ h2
        · simp
    have hl : (b.drop k).length = b.length - k := by simp
    obtain ⟨more, m1, m2, m3, m4, m5, m6⟩ := goA_ok b n _ _ h hgs (by omega)
    generalize (takeD (b.drop k)).1 = d at *
    generalize (takeD (b.drop k)).2.1 = j at *
    have hdl : d.bytes.length = j := by rw [hby, List.length_take]; omega
    refine ⟨d :: more, by rw [m1]; simp, by simp [m2], by simpa using m3, m4, ?_, ?_⟩
    · rw [m5]; simp [flatD, hdl]; omega
    · show d.bytes ++ flatD more = _
      have : (flatD (d :: more)).length = j + (flatD more).length := by simp [flatD, hdl]
      rw [this, List.take_add, ← hby, List.drop_drop, ← m6]
theorem takeDs_ok {b : List UInt8} (h : (takeDs b).2.2 = 0) : 1 ≤ (takeDs b).2.1 ∧ (takeDs b).2.1 ≤ b.length ∧ putDs (takeDs b).1 = b.take (takeDs b).2.1 := by
  unfold takeDs at h ⊢
  by_cases h1 : (takeS b).2.2 ≠ 0
  · rw [if_pos h1] at h; exact absurd h h1
  rw [if_neg h1] at h ⊢
  by_cases h2 : (takeS b).1 > 16
  · rw [if_pos h2] at h; simp at h
  rw [if_neg h2] at h ⊢
  obtain ⟨k1, _, k3, k4, _⟩ := takeS_ok b (by omega)
  obtain ⟨more, m1, m2, m3, m4, m5, m6⟩ := goA_ok b _ _ _ h rfl k3
  rw [List.nil_append] at m1 m3
  refine ⟨by rw [m5]; omega, m4, ?_⟩
  rw [m1, m5, putDs, if_pos ⟨by omega, m3⟩, m2, List.take_add, ← m6, ← k4]
theorem drop_eq_of {b x t : List UInt8} {k : Nat} (h : b.drop k = x ++ t) : b.drop (k + x.length) = t := by
  rw [← List.drop_drop, h, List.drop_left' rfl]
theorem goA_flat (b t : List UInt8) : ∀ (more out : List D2) (k : Nat), goodD (out ++ more) = true → b.drop k = flatD more ++ t →
    goA b more.length out k = (out ++ more, k + (flatD more).length, 0)
  | [], out, k, _, _ => by simp [goA, flatD]
  | d :: more, out, k, hg, hb => by
    have hb' : b.drop k = d.bytes ++ (flatD more ++ t) := by rw [hb]; simp [flatD]
    have hg' : goodD (out ++ [d] ++ more) = true := by simpa using hg
    have hgd := good_take hg' (out.length + 1)
    rw [List.take_append_of_le_length (by simp), List.take_of_length_le (by simp), good_snoc] at hgd
    simp only [Bool.and_eq_true] at hgd
    have hr := hgd.2.1
    have ht := take_bytes hr (flatD more ++ t)
    show goA b (more.length + 1) out k = _
    rw [goA]
    simp only [hb', ht]
    rw [if_neg (by simp), if_neg (by
      rintro ⟨h1, h2⟩
      have := hgd.2.2
      rw [h2] at this
      simp [h1] at this)]
    rw [goA_flat b t more (out ++ [d]) (k + d.bytes.length) hg' (drop_eq_of hb')]
    simp [flatD, Nat.add_assoc]
theorem takeDs_put {l : List D2} (h : l.length ≤ 16) (hg : goodD l = true) (t : List UInt8) : takeDs (putDs l ++ t) = (l, (putDs l).length, 0) := by
  have hp : putDs l = enc l.length ++ flatD l := by rw [putDs, if_pos ⟨h, hg⟩]
  rw [hp]
  have hq := take_enc l.length (by omega) (flatD l ++ t)
  rw [← List.append_assoc] at hq
  unfold takeDs
  simp only [hq]
  rw [if_neg (by simp), if_neg (by omega), goA_flat _ t l [] _ (by simpa using hg) (by rw [List.append_assoc, List.drop_left' rfl])]
  simp
theorem putDs_pos {l : List D2} (h : l.length ≤ 16) (hg : goodD l = true) : 1 ≤ (putDs l).length := by
  rw [putDs, if_pos ⟨h, hg⟩, List.length_append]
  have := enc_len l.length
  omega
theorem putDs_some {l : List D2} (h : putDs l ≠ []) : l.length ≤ 16 ∧ goodD l = true := by
  unfold putDs at h
  split at h
  · assumption
  · exact absurd rfl h
theorem putDs_le (l : List D2) : (putDs l).length ≤ 200 := by
  unfold putDs
  split
  · rename_i h
    have := enc_len l.length
    have := flatD_le l
    rw [List.length_append]
    omega
  · simp
end Go.Proofs.Ytaflikgdlkaefaa.Dt
/- Dots as values, and as cells of memory. -/
namespace Go.Proofs.Ytaflikgdlkaefaa
open Go.RowKit Go.Proofs.Ytaflikgdlkaefaa.Dt
set_option maxRecDepth 20000

def _root_.Go.Proofs.Ytaflikgdlkaefaa.Dt.D2.v (d : D2) : Value := .agg #[.int .i64 d.r, .int .i64 d.q]
def _root_.Go.Proofs.Ytaflikgdlkaefaa.Dt.D2.cells (d : D2) : List Value := [.int .i64 d.r, .int .i64 d.q]
def _root_.Go.Proofs.Ytaflikgdlkaefaa.Dt.D2.ok (d : D2) : Prop := i64in d.r ∧ i64in d.q
/-- a dot's box -/
def StandsD (w : World) (g : Nat) (s : D2) : Prop := g < w.heap.size ∧ w.cell? ⟨g, 0, none⟩ = some (.int .i64 s.r) ∧ w.cell? ⟨g, 1, none⟩ = some (.int .i64 s.q) ∧ w.frozen? ⟨g, 0, none⟩ = false ∧ w.frozen? ⟨g, 1, none⟩ = false
theorem StandsD.below {w w' : World} {g : Nat} {s : D2} (h : StandsD w g s) (hb : Below w.heap.size w w') : StandsD w' g s := by
  obtain ⟨h1, h2, h3, h5, h6⟩ := h
  exact ⟨Nat.lt_of_lt_of_le h1 hb.size, (hb.cell h1).trans h2, (hb.cell h1).trans h3, (hb.frozen h1).trans h5, (hb.frozen h1).trans h6⟩
theorem StandsD.alloc {w : World} {g : Nat} {s : D2} (h : StandsD w g s) (o : Obj) : StandsD (w.alloc o) g s := h.below (balloc (Below.refl _ _) o)
theorem StandsD.new (w : World) (t : TypeId) (s : D2) : StandsD (w.alloc (.cells #[.int .i64 s.r, .int .i64 s.q] t)) w.heap.size s := by
  obtain ⟨h1, h2⟩ := cell2 w t (.int .i64 s.r) (.int .i64 s.q)
  exact ⟨by simp, h1, h2, by rw [frozen?_alloc_cells]; simp [World.frozen?], by rw [frozen?_alloc_cells]; simp [World.frozen?]⟩
/-- the two stores of a dot -/
def put2 (w : World) (g : Nat) (s : D2) : World := (w.setCell ⟨g, 0, none⟩ (.int .i64 s.r)).setCell ⟨g, 1, none⟩ (.int .i64 s.q)
theorem StandsD.put {w : World} {g : Nat} {m : D2} (h : StandsD w g m) (s : D2) : StandsD (put2 w g s) g s := by
  obtain ⟨h1, h2, h3, h5, h6⟩ := h
  unfold put2
  refine ⟨by simpa using h1, ?_, ?_, by simp only [setCell_frozen]; exact h5, by simp only [setCell_frozen]; exact h6⟩
  · rw [setCell_other _ _ _ _ _ _ (.inr (by omega)), World.cell?_setCell_same _ _ _ h2]
  · rw [World.cell?_setCell_same _ _ _ (u := .int .i64 m.q) (by rw [setCell_other _ _ _ _ _ _ (.inr (by omega))]; exact h3)]
theorem StandsD.put_other {w : World} {g g' : Nat} {m : D2} (h : StandsD w g m) (s : D2) (hne : g' ≠ g) : StandsD (put2 w g' s) g m := by
  obtain ⟨h1, h2, h3, h5, h6⟩ := h
  unfold put2
  refine ⟨by simpa using h1, ?_, ?_, by simp only [setCell_frozen]; exact h5, by simp only [setCell_frozen]; exact h6⟩
  · rw [setCell_other _ _ _ _ _ _ (.inl hne), setCell_other _ _ _ _ _ _ (.inl hne)]; exact h2
  · rw [setCell_other _ _ _ _ _ _ (.inl hne), setCell_other _ _ _ _ _ _ (.inl hne)]; exact h3
theorem below_put2 {B : Nat} {a w : World} (h : Below B a w) {g : Nat} (hg : B ≤ g) (s : D2) : Below B a (put2 w g s) := (h.setCell hg _).setCell hg _
theorem eq2 (w : World) (a b : D2) : (binOp .eql 32 a.v b.v).run Try.prog w = .ok (.bool (decide (a = b))) w := by
  unfold D2.v
  rw [run_eql_struct]
  obtain ⟨p, l⟩ := a
  obtain ⟨p', l'⟩ := b
  go_simp
  by_cases h1 : p = p' <;> by_cases h2 : l = l' <;> simp [h1, h2]
theorem ne2 (w : World) (a b : D2) : (binOp .neq 32 a.v b.v).run Try.prog w = .ok (.bool (!decide (a = b))) w := by
  unfold D2.v
  rw [run_neq_struct]
  obtain ⟨p, l⟩ := a
  obtain ⟨p', l'⟩ := b
  go_simp
  by_cases h1 : p = p' <;> by_cases h2 : l = l' <;> simp [h1, h2]
/-! ### rows of dots -/
def dv (ls : List D2) : List Value := ls.flatMap D2.cells
theorem dv_get : ∀ (ls : List D2) (k j : Nat) (s : D2), ls[k]? = some s → j < 2 → (dv ls)[k * 2 + j]? = s.cells[j]?
  | [], k, j, s, h, _ => by simp at h
  | x :: ls, 0, j, s, h, hj => by
    simp at h; subst h
    show (x.cells ++ dv ls)[0 * 2 + j]? = _
    rw [List.getElem?_append_left (by simp [D2.cells]; omega)]; congr 1; omega
  | x :: ls, k + 1, j, s, h, hj => by
    show (x.cells ++ dv ls)[(k + 1) * 2 + j]? = _
    rw [List.getElem?_append_right (by simp [D2.cells]; omega), show (k + 1) * 2 + j - x.cells.length = k * 2 + j by simp [D2.cells]; omega]
    exact dv_get ls k j s (by simpa using h) hj
theorem dv_len (ls : List D2) : (dv ls).length = ls.length * 2 := by
  induction ls with
  | nil => rfl
  | cons x t ih => simp [dv, D2.cells] at *; omega
theorem dv_append (a b : List D2) : dv (a ++ b) = dv a ++ dv b := by simp [dv]
theorem dv_take (ls : List D2) (k : Nat) : (dv ls).take (k * 2) = dv (ls.take k) := by
  induction ls generalizing k with
  | nil => simp [dv]
  | cons x t ih =>
    cases k with
    | zero => simp [dv]
    | succ k =>
      show (x.cells ++ dv t).take ((k + 1) * 2) = x.cells ++ dv (t.take k)
      rw [← ih k, show (k + 1) * 2 = x.cells.length + k * 2 by simp [D2.cells]; omega, List.take_length_add_append]
theorem dotAt {w : World} {B : Nat} {A : Option Addr} {ls : List D2} (h : Sl w B A (dv ls)) {k : Nat} (hk : k < ls.length) :
    ∃ b o, A = some ⟨b, o, none⟩ ∧ b < B ∧ b < w.heap.size ∧ w.cell? ⟨b, o + k * 2, none⟩ = some (.int .i64 (ls[k]?.getD ⟨0, 0⟩).r) ∧ w.cell? ⟨b, o + k * 2 + 1, none⟩ = some (.int .i64 (ls[k]?.getD ⟨0, 0⟩).q) := by
  obtain ⟨b, o, e, h1, h2, hc⟩ := h.at_ (k := k * 2) (by rw [dv_len]; omega)
  have hs : ls[k]? = some (ls[k]'hk) := List.getElem?_eq_getElem hk
  rw [hs]
  exact ⟨b, o, e, h1, h2, hc (k * 2 + 0) _ (dv_get ls k 0 _ hs (by omega)), hc (k * 2 + 1) _ (dv_get ls k 1 _ hs (by omega))⟩
end Go.Proofs.Ytaflikgdlkaefaa
/- Dots: the walks of what is asked of one or two. -/
namespace Go.Proofs.Ytaflikgdlkaefaa
open Go.RowKit Go.Proofs.Ytaflikgdlkaefaa.Pl Go.Proofs.Ytaflikgdlkaefaa.Dt Go.Sort
set_option maxRecDepth 20000

def or2 (a b : Int) : Int := if a ≠ 0 then a else b
def cmpD2 (a b : D2) : Int := or2 (cmp3 a.r b.r) (cmp3 a.q b.q)
theorem cmpD2_lt (a b : D2) : decide (cmpD2 a b < 0) = a.lt b := by
  unfold cmpD2 or2 cmp3 D2.lt
  rw [decide_eq_decide]
  (repeat' split) <;> omega
set_option maxRecDepth 100000 in
theorem DRight_any (w : World) (s : D2) :
    Calls Try.prog 31 #[s.v] w fun e w' => e = .returned (.bool s.right) ∧ Below w.heap.size w w' := by
  unfold D2.v
  obtain ⟨r, q⟩ := s
  go_enter Try.func31, Try.ntmps31
  go_wp2_with fail
  all_goals
    go_ret
    refine ⟨ret_b ?_, (Below.refl _ _).alloc (Nat.le_refl _) _⟩
    simp only [D2.right]
    first | (rw [eq_comm, decide_eq_false_iff_not]; omega) | (rw [decide_eq_decide]; omega)
set_option maxRecDepth 100000 in
theorem RDRight_any (w : World) (s : D2) :
    Calls Try.prog 25 #[s.v] w fun e w' => e = .returned (.bool s.right) ∧ Below w.heap.size w w' := by
  unfold D2.v
  obtain ⟨r, q⟩ := s
  go_enter Try.func25, Try.ntmps25
  go_wp2_with fail
  all_goals
    go_ret
    refine ⟨ret_b ?_, (Below.refl _ _).alloc (Nat.le_refl _) _⟩
    simp only [D2.right]
    first | (rw [eq_comm, decide_eq_false_iff_not]; omega) | (rw [decide_eq_decide]; omega)
set_option maxRecDepth 100000 in
theorem isNaN_int (w : World) (a : Int) : Calls Try.prog 111 #[.int .i64 a] w fun e w' => e = .returned (.bool false) ∧ w = w' := by
  go_enter Try.func111, Try.ntmps111
  go_wp2_with fail
  go_ret
  exact ⟨rfl, rfl⟩
end Go.Proofs.Ytaflikgdlkaefaa
/- Numbers as bytes: Take, and the document's Take. -/
namespace Go.Proofs.Ytaflikgdlkaefaa
open Go.RowKit Go.Proofs.Ytaflikgdlkaefaa.Pl
set_option maxRecDepth 20000

/-- 'a | y << j' -/
theorem or_shl (a y j : Nat) (ha : U64 a) : ∃ r : Nat, bits .or .u64 (a : Int) (IntKind.u64.wrap ((y : Int) * 2 ^ j)) = (r : Int) ∧ U64 r ∧ (a < 2 ^ j → a + y * 2 ^ j < 18446744073709551616 → r = a + y * 2 ^ j) := by
  have ha' := ha.out
  have e : IntKind.u64.wrap ((y : Int) * 2 ^ j) = ((y * 2 ^ j % 18446744073709551616 : Nat) : Int) := by
    rw [IntKind.wrap_u64]
    have : ((y : Int) * 2 ^ j) = ((y * 2 ^ j : Nat) : Int) := by simp
    rw [this]; omega
  rw [e, u64_or_nat _ _ ha' (Nat.mod_lt _ (by omega))]
  refine ⟨_, rfl, U64.mk ?_, fun h1 h2 => ?_⟩
  · have : y * 2 ^ j % 18446744073709551616 < 2 ^ 64 := Nat.mod_lt _ (by omega)
    exact Nat.or_lt_two_pow (show a < 2 ^ 64 by omega) this
  · rw [Nat.mod_eq_of_lt (by omega), Nat.or_comm, nat_join j _ _ (Nat.mul_mod_left _ _) h1]; omega

def TakeRel (l : List UInt8) (x5 x14 : Value) : Prop :=
  ∃ k a : Nat, k ≤ min l.length 10 ∧ k ≤ run l ∧ x14 = .int .i64 (k : Int) ∧ x5 = .int .u64 (a : Int) ∧ U64 a ∧ (k ≤ 9 → a = val (l.take k))
theorem ret_take {X Y : Int} {v n : Nat} (h1 : X = (v : Int)) (h2 : Y = (n : Int)) : Ending.returned (.tuple #[.int .u64 X, .int .i64 Y, .int .i64 0]) = .returned (.tuple #[.int .u64 ((v, n, 0) : Nat × Nat × Nat).1, .int .i64 ((v, n, 0) : Nat × Nat × Nat).2.1, .int .i64 (((v, n, 0) : Nat × Nat × Nat).2.2 : Nat)]) := by
  subst h1 h2; rfl

set_option maxRecDepth 100000 in
set_option maxHeartbeats 800000 in
theorem Take_any (w : World) (B : Nat) (A : Option Addr) (c : Nat) (l : List UInt8) (hb : Sl w B A (bv l)) (hc : l.length ≤ c) (hn : c ≤ maxLen) :
    Calls Try.prog 64 #[.slice A l.length c] w fun e w' => e = .returned (.tuple #[.int .u64 ((takeS l).1 : Int), .int .i64 ((takeS l).2.1 : Int), .int .i64 ((takeS l).2.2 : Int)]) ∧ w = w' := by
  unfold maxLen at hn
  have hm : (l.length ≤ 10 ∧ min l.length 10 = l.length) ∨ (10 < l.length ∧ min l.length 10 = 10) := by omega
  rcases hm with ⟨hm, hM⟩ | ⟨hm, hM⟩
  all_goals
    have HM := Lib.hid hM
    clear hM
    go_enter Try.func64, Try.ntmps64
    go_wp2_with fail
    go_loop [5, 14] (fun x5 x14 => TakeRel l x5 x14) (fun _ x14 => min l.length 10 - (intOf x14).toNat)
    case atStart => exact ⟨0, 0, by omega, by omega, rfl, rfl, U64.mk (by omega), fun _ => rfl⟩
    case round =>
      obtain ⟨k, a, hk, hr, rfl, rfl, ha, hacc⟩ := hrel
      have Ha := Lib.hid hacc
      clear hacc
      by_cases hlt : k < min l.length 10
      · obtain ⟨b, o, rfl, hbB, hbW, hcell⟩ := hb.at_ (k := k) (by simp; omega)
        have hck := hcell k _ (bv_get l k (by omega))
        have hx256 := (l[k]?.getD 0).toNat_lt
        have hst := run_step l k hr (by omega)
        have hvs := val_take_succ l k (by omega)
        have hvl := val_take_lt l k (by omega)
        have hend := fun h => takeS_end l k h (by omega) (by omega)
        have hx : at_ l k = (l[k]?.getD 0).toNat := rfl
        generalize (l[k]?.getD 0).toNat = x at hck hx256 hx
        rw [hx] at hst hvs hend
        have Hst := Lib.hid hst
        have Hvs := Lib.hid hvs
        have Hend := Lib.hid hend
        have Hvl := Lib.hid hvl
        clear hcell hb hx hst hvs hend hvl
        have hk10 : k < 10 := by omega
        by_cases h128 : 128 ≤ x
        · obtain ⟨r, hr1, hr2, hr3⟩ := or_shl a (x - 128) (7 * k) ha
          rw [show ((x - 128 : Nat) : Int) = (x : Int) - 128 by omega] at hr1
          have Hr1 := Lib.hid hr1
          have Hr3 := Lib.hid hr3
          clear hr1 hr3
          go_wp2_with fail
          go_round
          case rel =>
            refine ⟨k + 1, r, by omega, Hst.out.1 h128, by go_num, by rw [Hr1.out], hr2, fun h9 => ?_⟩
            have e := Ha.out (by omega)
            have h3 := Hr3.out
            have hl := Hvl.out
            rw [pow7] at h3
            have hp : 128 ^ (k + 1) ≤ 128 ^ 9 := Nat.pow_le_pow_right (by omega) h9
            rw [Nat.pow_succ] at hp
            have hmul : (x - 128) * 128 ^ k ≤ 127 * 128 ^ k := Nat.mul_le_mul_right _ (by omega)
            rw [Hvs.out, h3 (by omega) (by omega), e, show x % 128 = x - 128 by omega]
          case measure => simp [intOf]; omega
        · have e0 := Hend.out (Hst.out.2 (by omega))
          have e1 : ((0 < k ∧ x = 0) ∨ (k = 9 ∧ 1 < x)) → takeS l = (0, 0, 21) := fun h => by rw [e0, if_pos h]
          have e2 : ¬ ((0 < k ∧ x = 0) ∨ (k = 9 ∧ 1 < x)) → takeS l = (val (l.take (k + 1)), k + 1, 0) := fun h => by rw [e0, if_neg h]
          have e3 : ¬ ((0 < k ∧ x = 0) ∨ (k = 9 ∧ 1 < x)) → bits .or .u64 (a : Int) (IntKind.u64.wrap ((x : Int) * 2 ^ (7 * k))) = (val (l.take (k + 1)) : Int) := fun h => by
            obtain ⟨r, hr1, hr2, hr3⟩ := or_shl a x (7 * k) ha
            have e := Ha.out (by omega)
            have hl := Hvl.out
            rw [pow7] at hr3
            rw [hr1, Hvs.out, Nat.mod_eq_of_lt (by omega : x < 128)]
            by_cases h9 : k = 9
            · have hx1 : x ≤ 1 := by omega
              have hmul : x * 128 ^ k ≤ 1 * 128 ^ k := Nat.mul_le_mul_right _ hx1
              have hp : 128 ^ k = 128 ^ 9 := by rw [h9]
              rw [hr3 (by omega) (by omega), e]
            · have hp : 128 ^ (k + 1) ≤ 128 ^ 9 := Nat.pow_le_pow_right (by omega) (by omega)
              rw [Nat.pow_succ] at hp
              have hmul : x * 128 ^ k ≤ 127 * 128 ^ k := Nat.mul_le_mul_right _ (by omega)
              rw [hr3 (by omega) (by omega), e]
          have E1 := Lib.hid e1
          have E2 := Lib.hid e2
          have E3 := Lib.hid e3
          clear e0 e1 e2 e3
          by_cases hbad : (0 < k ∧ x = 0) ∨ (k = 9 ∧ 1 < x)
          · have T := Lib.hid (E1.out hbad)
            go_wp2_with fail
            all_goals first | (exfalso; omega) | (go_ret3; rw [T.out]; exact ⟨rfl, rfl⟩)
          · have T := Lib.hid (E2.out hbad)
            have T3 := Lib.hid (E3.out hbad)
            have T9 : k = 9 → bits .or .u64 (a : Int) ((x : Int) * 9223372036854775808) = (val (l.take (k + 1)) : Int) := fun h9 => by
              have h := T3.out
              have e : IntKind.u64.wrap ((x : Int) * 2 ^ (7 * k)) = (x : Int) * 9223372036854775808 := by
                rw [h9, IntKind.wrap_u64]
                simp only [Nat.reduceMul, Int.reducePow]
                omega
              rwa [e] at h
            have T0 : x = 0 → k = 0 → bits .or .u64 (a : Int) 0 = (val (l.take (k + 1)) : Int) := fun hx hk => by
              have h := T3.out
              have e : IntKind.u64.wrap ((x : Int) * 2 ^ (7 * k)) = 0 := by
                rw [hx, IntKind.wrap_u64]; simp
              rwa [e] at h
            have T9' := Lib.hid T9
            have T0' := Lib.hid T0
            clear T9 T0
            go_wp2_with fail
            all_goals first | (exfalso; omega) | (go_ret3; rw [T.out]; first | exact ⟨ret_take (T3.out) (by omega), rfl⟩ | exact ⟨ret_take (T9'.out (by omega)) (by omega), rfl⟩ | exact ⟨ret_take (T0'.out (by omega) (by omega)) (by omega), rfl⟩)
      · clear hb Ha
        by_cases h10 : l.length < 10
        · have T := Lib.hid (takeS_short l (by have := run_le l; omega) h10)
          go_wp2_with fail
          all_goals (go_ret3; rw [T.out]; exact ⟨rfl, rfl⟩)
        · have T := Lib.hid (takeS_ten l (by omega))
          go_wp2_with fail
          all_goals (go_ret3; rw [T.out]; exact ⟨rfl, rfl⟩)
end Go.Proofs.Ytaflikgdlkaefaa
