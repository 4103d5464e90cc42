/- Disks: the document's Crash. -/
import Derived.Test.YthnbnhlfiehihaaM05
import Derived.Test.YthnbnhlfiehihaaM09
namespace Go.Proofs.Ythnbnhlfiehihaa
open Go.RowKit Go.Maps
set_option maxRecDepth 20000

theorem part_twice {R : DR} {ps : List Int} (hr : RiseN R) {j : Nat} {x : Nm} {f : DF} (hx : R[j]? = some (x, f)) : (partR R ps j)[j]? = some (x, f) ∧ RiseN (partR R ps j) ∧ partR R ps (j + 1) = putN (partR R ps j) x (crash1 f (ps.drop (cntL (R.take j)))) :=
  ⟨(part_at (List.getElem?_eq_some_iff.1 hx).1).trans hx, part_rise hr ps j, part_put hr hx⟩
/-- a file cut short where it lies -/
theorem ddp_cut {w : World} {p : Nat} {F H : Nat → Prop} {s : DK} (hp1 : DD w p F H s) (hr : RiseN s.R) {k : Nat} {x : Nm} {v : FV} {g m c : Nat} {G : List NF} (hA : At w p (boxD (some ⟨g, 0, none⟩) m c s)) (hFg : F g) (hgp : g ≠ p) (hrow : EK.Row w g G) (hG : mapN FV.f G = s.R) (hGk : G[k]? = some (x, v)) (hvs : ∀ q ∈ G, FVat w F H q.2) (hGm : G.length = m) (hmc : m ≤ c) (hcm : c ≤ maxLen) (hv : FVat w F H v)
    (tn sn : Nat) (htl : tn ≤ v.f.b.length) : DDP w p F H { s with R := putN s.R x ⟨v.f.b.take tn, sn⟩ } ((w.setCell ⟨g, k * 3 + 1, none⟩ (.slice (adr v.g) tn tn)).setCell ⟨g, k * 3 + 2, none⟩ (.int .i64 (sn : Int))) := by
  have hx : s.R[k]? = some (x, v.f) := by rw [f_at hG, hGk]; rfl
  have htk : (v.f.b.take tn).length = tn := by rw [List.length_take]; omega
  obtain ⟨ht1, ht2⟩ := putN_twice hr hx ⟨v.f.b.take tn, v.f.s⟩ ⟨v.f.b.take tn, sn⟩
  obtain ⟨F3, H3, hp3, hm3⟩ := ddp_cell (w6 := w) (s' := { s with R := putN s.R x ⟨v.f.b.take tn, v.f.s⟩ }) (v' := ⟨⟨v.f.b.take tn, v.f.s⟩, v.g, tn⟩) (j := 1) (u := .slice (adr v.g) tn tn) hp1 hA hFg hgp hrow hGk hvs hGm hmc hcm (Below.refl _ _) (by omega) (by simp [NF.cells, htk]) ((hv.first htl _).mono (fun _ => .inl) (fun _ _ => id)) rfl (file_set hr hG hGk)
  have hb3 := (hA.set_other (k * 3 + 1) (.slice (adr v.g) tn tn) hgp).c 1 rfl
  obtain ⟨g3, m3, c3, v3, hA3, -, -, hFg3, hgp3, -, hvf3, hv3, ⟨G3, hrow3, hG3, hGk3, hvs3, hGm3, hmc3, hcm3⟩, -⟩ := DD.file _ p F3 H3 _ hp3 ht2
  have hb4 := hA3.c 1 rfl
  rw [hb3] at hb4
  obtain rfl : g = g3 := by injection hb4 with hb4; injection hb4 with hb4; injection hb4 with hb4; injection hb4
  obtain ⟨F5, H5, hp5, hm5⟩ := ddp_cell (w6 := (w.setCell ⟨g, k * 3 + 1, none⟩ (.slice (adr v.g) tn tn))) (s' := { s with R := putN s.R x ⟨v.f.b.take tn, sn⟩ }) (v' := ⟨⟨v.f.b.take tn, sn⟩, v3.g, v3.c⟩) (j := 2) (u := .int .i64 (sn : Int)) hp3 hA3 hFg3 hgp3 hrow3 hGk3 hvs3 hGm3 hmc3 hcm3 (Below.refl _ _) (by omega) (by
      simp only [NF.cells, hvf3, List.set_cons_succ, List.set_cons_zero]) (by
      have h := hv3.mono (F' := F3) (H' := HN H3 (w.setCell ⟨g, k * 3 + 1, none⟩ (.slice (adr v.g) tn tn)) (w.setCell ⟨g, k * 3 + 1, none⟩ (.slice (adr v.g) tn tn))) (fun _ => .inl) (fun _ _ => id)
      obtain ⟨k1, k2, k3, k4⟩ := h
      rw [hvf3] at k1 k2 k4
      exact ⟨k1, k2, k3, k4⟩) rfl ((file_set (rise_putN hr _ _) hG3 hGk3).trans ht1)
  exact ⟨F5, H5, hp5, hm3.trans hm5⟩
theorem head_drop (ps : List Int) (k : Nat) : (ps.drop k).headD 0 = ps[k]?.getD 0 := by rw [List.headD_eq_head?_getD, List.head?_drop]
set_option maxRecDepth 100000 in
set_option maxHeartbeats 6400000 in
set_option linter.unusedVariables false in
theorem DCrash_any (w : World) (p : Nat) (F H : Nat → Prop) (s : DK) (n : Nat) (hD : DD w p F H s) (hok : s.ok n) (hn : n < 1000000) (A : Option Addr) (c : Nat) (ps : List Int) (hS : Sl w w.heap.size A (iv ps)) (hSF : ps = [] ∨ ∀ a, A = some a → ¬ F a.block) (hpl : ps.length ≤ maxLen) :
    Calls Try.prog 50 #[.pointer (some ⟨p, 0, none⟩), .slice A ps.length c] w fun e w' => e = .returned (.tuple #[]) ∧ DDP w p F H (s.crash ps) w' := by
  obtain ⟨m, hm⟩ : ∃ m, s.R.length = m := ⟨_, rfl⟩
  obtain ⟨l, hl⟩ : ∃ l, ps.length = l := ⟨_, rfl⟩
  rw [hl] at hpl ⊢
  have hSg : ∀ W, Grew F w W → Sl W W.heap.size A (iv ps) := fun W hg => by
    rcases hSF with rfl | hSF
    · exact .inl rfl
    rcases hS with hS | ⟨g, o, rfl, h1, h2, h3⟩
    · exact .inl hS
    · exact (Sl.grewN (.inr ⟨g, o, rfl, h1, h2, h3⟩ : Sl w w.heap.size _ _) hg (hSF _ rfl)).more hg.size
  have hmn : m ≤ n := by have h1 := hok.files; have h2 := hok.calls; omega
  have HH := Lib.hid (And.intro hD (And.intro hok (And.intro hSg (And.intro hm hl))))
  clear hS hD hok hSF hm hl hSg
  go_enter Try.func50, Try.ntmps50
  go_wp2_with fail
  go_loopw [4, 5] (fun x4 x5 wr => ∃ j : Nat, j ≤ m ∧ x5 = .int .i64 (j : Int) ∧ x4 = .int .i64 (cntL (s.R.take j) : Int) ∧ DDP w p F H { s with R := partR s.R ps j } wr) (fun _ x5 _ => m - (intOf x5).toNat)
  case atStart => exact ⟨0, by omega, rfl, rfl, F, H, by rw [show ({ s with R := partR s.R ps 0 } : DK) = s from by rw [part_zero]]; exact HH.out.1, Moved.refl _ _ _⟩
  case round =>
    obtain ⟨j, hj, rfl, rfl, F', H', hd, hmv⟩ := hrel
    by_cases hlt : j < m
    · obtain ⟨⟨x, f⟩, hx⟩ : ∃ q, s.R[j]? = some q := ⟨_, List.getElem?_eq_getElem (by rw [HH.out.2.2.2.1]; exact hlt)⟩
      obtain ⟨hx', hrr, hnx⟩ := part_twice (ps := ps) HH.out.2.1.rise hx
      have hfs := HH.out.2.1.sure (x, f) (List.mem_of_getElem? hx)
      have hol : f.b.length ≤ 16777216 := by
        have h1 := sumN_le DF.len (look_at HH.out.2.1.rise hx)
        have h3 := HH.out.2.1.used
        have h4 := HH.out.2.1.room
        simp only [usedR, DF.len] at h1 h3
        omega
      dsimp only at hfs
      have hcnt := cnt_le s.R j
      have hcs := cnt_succ hx
      obtain ⟨g, mm, cc, v, hA, hmm, hkm, hFg, hgp, hgl, hvf, hv, ⟨G, hrow, hG, hGk, hvs, hGm, hmc, hcm⟩, -, c1, c2⟩ := DD.file _ p F' H' _ hd hx'
      dsimp only at hmm
      rw [part_len, HH.out.2.2.2.1] at hmm
      obtain rfl : mm = m := hmm
      have b1 := hA.c 1 rfl
      have hpl2 := pick_le f (ps.drop (cntL (s.R.take j)))
      have hsl := HH.out.2.2.1 wr hmv.g
      obtain ⟨cj, hcj⟩ : ∃ cj, cntL (s.R.take j) = cj := ⟨_, rfl⟩
      obtain ⟨fl, hfl⟩ : ∃ fl, f.b.length = fl := ⟨_, rfl⟩
      obtain ⟨fs, hfs'⟩ : ∃ fs, f.s = fs := ⟨_, rfl⟩
      rw [hcj] at hcnt hcs hpl2 hnx ⊢
      rw [hfl, hfs'] at hcs hpl2
      rw [hfl] at c1 hol hfs
      rw [hfs'] at c2 hfs
      have hcap : fl ≤ v.c := by rw [← hfl, ← hvf]; exact hv.2.1
      have hx0 : (0 : Int) ≤ (j : Int) := by omega
      have hx1 : (j : Int) < (mm : Int) := by omega
      have HD := Lib.hid (And.intro hd (And.intro hA (And.intro hFg (And.intro hgp (And.intro hrow (And.intro hG (And.intro hGk (And.intro hvs (And.intro hGm (And.intro hmc (And.intro hcm hv)))))))))))
      have HE := Lib.hid (And.intro hmv (And.intro hsl (And.intro hrr (And.intro hnx (And.intro hfl (And.intro hfs' (And.intro hvf (And.intro hcs (And.intro hcj hx')))))))))
      have HP := Lib.hid hpl2
      have e1 := cellB c1
      have e2 := cellB c2
      obtain ⟨D, hDe⟩ : ∃ D : Nat, fl - fs = D := ⟨_, rfl⟩
      have hD : (fl : Int) - (fs : Int) = (D : Int) := by omega
      clear hd hA hFg hgp hrow hG hGk hvs hGm hmc hcm hv hmv hsl hrr hnx hfl hfs' hvf hcs hcj hx' hx hDe hpl2
      go_wp2_with fail
      refine bstart (by kernel_rfl) ?_
      refine btake 0 (oi := _) (v := ?_) (by simp only [List.getElem?_toArray, List.getElem?_cons_zero]; rfl) (by kernel_rfl) (by exact fun _ _ _ h => h) (by first | assumption | exact KB.refl _) (.inl ⟨by rfl, fun W hW => ?_⟩) ?_; rotate_left
      · (go_simp; first | done | with_reducible rfl)
      try simp only [Act.put, List.setIfInBounds_toArray, List.set_cons_zero, List.set_cons_succ]
      refine btake 1 (oi := _) (v := ?_) (by simp only [List.getElem?_toArray, List.getElem?_cons_succ, List.getElem?_cons_zero]; rfl) (by kernel_rfl) (by exact fun _ _ _ h => h) (by first | assumption | exact KB.refl _) (.inl ⟨by rfl, fun W hW => ?_⟩) ?_; rotate_left
      · (go_simp; first | done | with_reducible rfl)
      try simp only [Act.put, List.setIfInBounds_toArray, List.set_cons_zero, List.set_cons_succ]
      refine btake 2 (oi := _) (v := ?_) (by simp only [List.getElem?_toArray, List.getElem?_cons_succ, List.getElem?_cons_zero]; rfl) (by kernel_rfl) (by exact fun _ _ _ h => h) (by first | assumption | exact KB.refl _) (.inl ⟨by rfl, fun W hW => ?_⟩) ?_; rotate_left
      · (go_simp; first | done | with_reducible rfl)
      try simp only [Act.put, List.setIfInBounds_toArray, List.set_cons_zero, List.set_cons_succ]
      refine btake 3 (oi := _) (v := ?_) (by simp only [List.getElem?_toArray, List.getElem?_cons_succ, List.getElem?_cons_zero]; rfl) (by kernel_rfl) (by exact fun _ _ _ h => h) (by first | assumption | exact KB.refl _) (.inl ⟨by rfl, fun W hW => ?_⟩) ?_; rotate_left
      · (go_simp; first | done | with_reducible rfl)
      try simp only [Act.put, List.setIfInBounds_toArray, List.set_cons_zero, List.set_cons_succ]
      refine btake 4 (oi := _) (v := ?_) (by simp only [List.getElem?_toArray, List.getElem?_cons_succ, List.getElem?_cons_zero]; rfl) (by kernel_rfl) (by exact fun _ _ _ h => h) (by first | assumption | exact KB.refl _) (.inl ⟨by rfl, fun W hW => ?_⟩) ?_; rotate_left
      · (go_simp; first | done | with_reducible rfl)
      try simp only [Act.put, List.setIfInBounds_toArray, List.set_cons_zero, List.set_cons_succ]
      refine btake 5 (oi := _) (v := ?_) (by simp only [List.getElem?_toArray, List.getElem?_cons_succ, List.getElem?_cons_zero]; rfl) (by kernel_rfl) (by exact fun _ _ _ h => h) (by first | assumption | exact KB.refl _) (.inl ⟨by rfl, fun W hW => ?_⟩) ?_; rotate_left
      · (go_simp; first | done | with_reducible rfl)
      try simp only [Act.put, List.setIfInBounds_toArray, List.set_cons_zero, List.set_cons_succ]
      refine btake 6 (oi := _) (v := ?_) (by simp only [List.getElem?_toArray, List.getElem?_cons_succ, List.getElem?_cons_zero]; rfl) (by kernel_rfl) (by exact fun _ _ _ h => h) (by first | assumption | exact KB.refl _) (.inl ⟨by rfl, fun W hW => ?_⟩) ?_; rotate_left
      · (go_simp; first | done | with_reducible rfl)
      try simp only [Act.put, List.setIfInBounds_toArray, List.set_cons_zero, List.set_cons_succ]
      refine btake 7 (oi := _) (v := ?_) (by simp only [List.getElem?_toArray, List.getElem?_cons_succ, List.getElem?_cons_zero]; rfl) (by kernel_rfl) (by exact fun _ _ _ h => h) (by first | assumption | exact KB.refl _) (.inl ⟨by rfl, fun W hW => ?_⟩) ?_; rotate_left
      · (go_simp; first | done | with_reducible rfl)
      try simp only [Act.put, List.setIfInBounds_toArray, List.set_cons_zero, List.set_cons_succ]
      refine btake 8 (oi := _) (v := ?_) (by simp only [List.getElem?_toArray, List.getElem?_cons_succ, List.getElem?_cons_zero]; rfl) (by kernel_rfl) (by exact fun _ _ _ h => h) (by first | assumption | exact KB.refl _) (.inl ⟨by rfl, fun W hW => ?_⟩) ?_; rotate_left
      · (go_simp; first | done | with_reducible rfl)
      try simp only [Act.put, List.setIfInBounds_toArray, List.set_cons_zero, List.set_cons_succ]
      refine btake 9 (oi := _) (v := ?_) (by simp only [List.getElem?_toArray, List.getElem?_cons_succ, List.getElem?_cons_zero]; rfl) (by kernel_rfl) (by exact fun _ _ _ h => h) (by first | assumption | exact KB.refl _) (.inl ⟨by rfl, fun W hW => ?_⟩) ?_; rotate_left
      · (go_simp; first | done | with_reducible rfl)
      try simp only [Act.put, List.setIfInBounds_toArray, List.set_cons_zero, List.set_cons_succ]
      refine btake 10 (oi := _) (v := ?_) (by simp only [List.getElem?_toArray, List.getElem?_cons_succ, List.getElem?_cons_zero]; rfl) (by kernel_rfl) (by exact fun _ _ _ h => h) (by first | assumption | exact KB.refl _) (.inl ⟨by rfl, fun W hW => ?_⟩) ?_; rotate_left
      · (go_simp; first | done | with_reducible rfl)
      try simp only [Act.put, List.setIfInBounds_toArray, List.set_cons_zero, List.set_cons_succ]
      refine bdone (by kernel_rfl) ?_
      have hwD : IntKind.i64.wrap (D : Int) = (D : Int) := by rw [IntKind.wrap_i64]; omega
      rw [hwD]
      clear hwD e1 e2
      by_cases hlo : fs < fl
      · have hDp : 0 < D := by omega
        have hd0 : decide ((0 : Int) < (D : Int)) = true := by simp; omega
        by_cases hi : cj < l
        · obtain ⟨b1, o1, rfl, _, hcell⟩ : ∃ b1 o1, A = some ⟨b1, o1, none⟩ ∧ b1 < wr.heap.size ∧ wr.cell? ⟨b1, o1 + cj, none⟩ = some (.int .i64 (ps[cj]?.getD 0)) := by
            obtain ⟨b1, o1, e, h1, h2, hc⟩ := HE.out.2.1.at_ (k := cj) (by rw [iv, List.length_map, HH.out.2.2.2.2]; exact hi)
            refine ⟨b1, o1, e, h2, hc cj _ ?_⟩
            have hlt : cj < ps.length := by rw [HH.out.2.2.2.2]; exact hi
            rw [iv, List.getElem?_map, List.getElem?_eq_getElem hlt]
            rfl
          have hpk := head_drop ps cj
          obtain ⟨pv, hpv⟩ : ∃ pv, ps[cj]?.getD 0 = pv := ⟨_, rfl⟩
          rw [hpv] at hcell hpk
          have h1 := Int.lt_tmod_of_pos pv (show (0 : Int) < D + 1 by omega)
          have h2 := Int.tmod_lt_of_pos pv (show (0 : Int) < D + 1 by omega)
          have hw1 : IntKind.i64.wrap (Int.tmod pv (D + 1)) = Int.tmod pv (D + 1) := by rw [IntKind.wrap_i64]; omega
          have hw2 : IntKind.i64.wrap (Int.tmod pv (D + 1) + (D + 1)) = Int.tmod pv (D + 1) + (D + 1) := by rw [IntKind.wrap_i64]; omega
          have hz : ¬ ((D : Int) + 1 = 0) := by omega
          have h3 := place_eq pv D
          have h5 := Int.emod_nonneg pv (show ((D + 1 : Nat) : Int) ≠ 0 by omega)
          have h6 := Int.emod_lt_of_pos pv (show (0 : Int) < ((D + 1 : Nat) : Int) by omega)
          obtain ⟨pk, hpke⟩ : ∃ pk : Nat, pv % ((D + 1 : Nat) : Int) = (pk : Int) := ⟨(pv % ((D + 1 : Nat) : Int)).toNat, by omega⟩
          have hpick : pickOf f (ps.drop cj) = pk := by
            unfold pickOf
            rw [hpk, HE.out.2.2.2.2.1, HE.out.2.2.2.2.2.1, show fl - fs = D from by omega, hpke, Int.toNat_natCast]
          rw [hpke] at h3 h5 h6
          obtain ⟨nn, hnn⟩ : ∃ nn : Nat, fs + pk = nn := ⟨_, rfl⟩
          have hni : (fs : Int) + (pk : Int) = (nn : Int) := by omega
          have hnl : nn ≤ fl := by omega
          obtain ⟨t, ht⟩ : ∃ t, Int.tmod pv (D + 1) = t := ⟨_, rfl⟩
          rw [ht] at hw1 hw2 h1 h2 h3
          have HQ := Lib.hid (And.intro ht (And.intro hpick hnn))
          clear hpke hpick hpk hpv hnn h5 h6
          have hx2 : (0 : Int) ≤ (cj : Int) := by omega
          have hx3 : (cj : Int) < (l : Int) := by omega
          by_cases htn : t < 0
          · have hd : decide (t < 0) = true := by simpa using htn
            rw [if_pos htn] at h3
            rw [h3] at hw2
            have hS0 : QD wr g p (EK.dv G) (boxD (some ⟨g, 0, none⟩) mm cc s) wr.drew := ⟨HD.out.2.2.2.2.1, HD.out.2.1, Nat.le_refl _⟩
            have zc := row_c (j := 1) hS0 HD.out.2.2.2.2.2.2.1 (by omega) rfl
            have zf := row_f (j := 1) hS0 HD.out.2.2.2.2.2.2.1 (by omega) rfl
            have zf3 : wr.frozen? ⟨g, j * 3 + 2, none⟩ = false := row_f (j := 2) hS0 HD.out.2.2.2.2.2.2.1 (by omega) rfl
            have hw3 : At (wr.drew.setCell ⟨g, j * 3 + 1, none⟩ (.slice (adr v.g) nn nn)) g ((EK.dv G).set (j * 3 + 1) (.slice (adr v.g) nn nn)) := by
              refine At.set hS0.1 _ _ ?_
              have h1 := (List.getElem?_eq_some_iff.1 HD.out.2.2.2.2.2.2.1).1
              rw [EK.dv_len]
              show j * 3 + 1 < G.length * 3
              omega
            have hc1 : ((EK.dv G).set (j * 3 + 1) (.slice (adr v.g) nn nn))[j * 3 + 1]? = some (.slice (adr v.g) nn nn) := by
              rw [List.getElem?_set_self]
              have h1 := (List.getElem?_eq_some_iff.1 HD.out.2.2.2.2.2.2.1).1
              rw [EK.dv_len]
              show j * 3 + 1 < G.length * 3
              omega
            have hc2 : ((EK.dv G).set (j * 3 + 1) (.slice (adr v.g) nn nn))[j * 3 + 2]? = some (.int .i64 (v.f.s : Int)) := by
              rw [List.getElem?_set_ne (by omega)]
              exact (EK.dv_get G j 2 _ HD.out.2.2.2.2.2.2.1 (by show 2 < 3; omega)).trans rfl
            have zc1 := hw3.c _ hc1
            have zc2 := hw3.c _ hc2
            have zf2 := hw3.f _ hc2
            clear hw3 hc1 hc2 hS0
            go_wp2_with (refine opVal rfl (exec_preB (x := .tmp 64) (y := .tmp 65) (z := .tmp 66) (A := adr v.g) (m := fl) (c := v.c) (j := nn) rfl rfl rfl (by omega) _) ?_; simp only [Act.put, List.setIfInBounds_toArray, List.set_cons_zero, List.set_cons_succ])
            go_roundw
            case rel =>
              refine ⟨j + 1, hlt, by go_num, by rw [HE.out.2.2.2.2.2.2.2.1, if_pos hlo]; go_num, ?_⟩
              obtain ⟨hd, hA, hFg, hgp, hrow, hG, hGk, hvs, hGm, hmc, hcm, hv⟩ := HD.out
              obtain ⟨F5, H5, hp5, hm5⟩ := ddp_cut hd HE.out.2.2.1 hA hFg hgp hrow hG hGk hvs hGm hmc hcm hv nn nn (by rw [HE.out.2.2.2.2.2.2.1, HE.out.2.2.2.2.1]; omega)
              have h1 := HE.out.2.2.2.1
              rw [crash1_eq (by rw [HE.out.2.2.2.2.1, HE.out.2.2.2.2.2.1]; exact hlo), HE.out.2.2.2.2.2.1, HQ.out.2.1, HQ.out.2.2] at h1
              rw [h1, ← HE.out.2.2.2.2.2.2.1]
              exact ⟨F5, H5, hp5.drew, HE.out.1.trans ⟨hm5.f, hm5.h, hm5.g.drew⟩⟩
            case measure => simp [intOf]; omega
          · have hd : decide (t < 0) = false := by simpa using htn
            rw [if_neg htn] at h3
            subst h3
            have hS0 : QD wr g p (EK.dv G) (boxD (some ⟨g, 0, none⟩) mm cc s) wr.drew := ⟨HD.out.2.2.2.2.1, HD.out.2.1, Nat.le_refl _⟩
            have zc := row_c (j := 1) hS0 HD.out.2.2.2.2.2.2.1 (by omega) rfl
            have zf := row_f (j := 1) hS0 HD.out.2.2.2.2.2.2.1 (by omega) rfl
            have zf3 : wr.frozen? ⟨g, j * 3 + 2, none⟩ = false := row_f (j := 2) hS0 HD.out.2.2.2.2.2.2.1 (by omega) rfl
            have hw3 : At (wr.drew.setCell ⟨g, j * 3 + 1, none⟩ (.slice (adr v.g) nn nn)) g ((EK.dv G).set (j * 3 + 1) (.slice (adr v.g) nn nn)) := by
              refine At.set hS0.1 _ _ ?_
              have h1 := (List.getElem?_eq_some_iff.1 HD.out.2.2.2.2.2.2.1).1
              rw [EK.dv_len]
              show j * 3 + 1 < G.length * 3
              omega
            have hc1 : ((EK.dv G).set (j * 3 + 1) (.slice (adr v.g) nn nn))[j * 3 + 1]? = some (.slice (adr v.g) nn nn) := by
              rw [List.getElem?_set_self]
              have h1 := (List.getElem?_eq_some_iff.1 HD.out.2.2.2.2.2.2.1).1
              rw [EK.dv_len]
              show j * 3 + 1 < G.length * 3
              omega
            have hc2 : ((EK.dv G).set (j * 3 + 1) (.slice (adr v.g) nn nn))[j * 3 + 2]? = some (.int .i64 (v.f.s : Int)) := by
              rw [List.getElem?_set_ne (by omega)]
              exact (EK.dv_get G j 2 _ HD.out.2.2.2.2.2.2.1 (by show 2 < 3; omega)).trans rfl
            have zc1 := hw3.c _ hc1
            have zc2 := hw3.c _ hc2
            have zf2 := hw3.f _ hc2
            clear hw3 hc1 hc2 hS0
            go_wp2_with (refine opVal rfl (exec_preB (x := .tmp 64) (y := .tmp 65) (z := .tmp 66) (A := adr v.g) (m := fl) (c := v.c) (j := nn) rfl rfl rfl (by omega) _) ?_; simp only [Act.put, List.setIfInBounds_toArray, List.set_cons_zero, List.set_cons_succ])
            go_roundw
            case rel =>
              refine ⟨j + 1, hlt, by go_num, by rw [HE.out.2.2.2.2.2.2.2.1, if_pos hlo]; go_num, ?_⟩
              obtain ⟨hd, hA, hFg, hgp, hrow, hG, hGk, hvs, hGm, hmc, hcm, hv⟩ := HD.out
              obtain ⟨F5, H5, hp5, hm5⟩ := ddp_cut hd HE.out.2.2.1 hA hFg hgp hrow hG hGk hvs hGm hmc hcm hv nn nn (by rw [HE.out.2.2.2.2.2.2.1, HE.out.2.2.2.2.1]; omega)
              have h1 := HE.out.2.2.2.1
              rw [crash1_eq (by rw [HE.out.2.2.2.2.1, HE.out.2.2.2.2.2.1]; exact hlo), HE.out.2.2.2.2.2.1, HQ.out.2.1, HQ.out.2.2] at h1
              rw [h1, ← HE.out.2.2.2.2.2.2.1]
              exact ⟨F5, H5, hp5.drew, HE.out.1.trans ⟨hm5.f, hm5.h, hm5.g.drew⟩⟩
            case measure => simp [intOf]; omega
        · have hi2 : decide ((cj : Int) < (l : Int)) = false := by simp; omega
          have hpick : pickOf f (ps.drop cj) = 0 := by
            unfold pickOf
            rw [head_drop, List.getElem?_eq_none (by rw [HH.out.2.2.2.2]; omega)]
            simp
          have HQ := Lib.hid hpick
          clear hpick
          have hS0 : QD wr g p (EK.dv G) (boxD (some ⟨g, 0, none⟩) mm cc s) wr.drew := ⟨HD.out.2.2.2.2.1, HD.out.2.1, Nat.le_refl _⟩
          have zc := row_c (j := 1) hS0 HD.out.2.2.2.2.2.2.1 (by omega) rfl
          have zf := row_f (j := 1) hS0 HD.out.2.2.2.2.2.2.1 (by omega) rfl
          have zf3 : wr.frozen? ⟨g, j * 3 + 2, none⟩ = false := row_f (j := 2) hS0 HD.out.2.2.2.2.2.2.1 (by omega) rfl
          have hw3 : At (wr.drew.setCell ⟨g, j * 3 + 1, none⟩ (.slice (adr v.g) fs fs)) g ((EK.dv G).set (j * 3 + 1) (.slice (adr v.g) fs fs)) := by
            refine At.set hS0.1 _ _ ?_
            have h1 := (List.getElem?_eq_some_iff.1 HD.out.2.2.2.2.2.2.1).1
            rw [EK.dv_len]
            show j * 3 + 1 < G.length * 3
            omega
          have hc1 : ((EK.dv G).set (j * 3 + 1) (.slice (adr v.g) fs fs))[j * 3 + 1]? = some (.slice (adr v.g) fs fs) := by
            rw [List.getElem?_set_self]
            have h1 := (List.getElem?_eq_some_iff.1 HD.out.2.2.2.2.2.2.1).1
            rw [EK.dv_len]
            show j * 3 + 1 < G.length * 3
            omega
          have hc2 : ((EK.dv G).set (j * 3 + 1) (.slice (adr v.g) fs fs))[j * 3 + 2]? = some (.int .i64 (v.f.s : Int)) := by
            rw [List.getElem?_set_ne (by omega)]
            exact (EK.dv_get G j 2 _ HD.out.2.2.2.2.2.2.1 (by show 2 < 3; omega)).trans rfl
          have zc1 := hw3.c _ hc1
          have zc2 := hw3.c _ hc2
          have zf2 := hw3.f _ hc2
          clear hw3 hc1 hc2 hS0
          go_wp2_with (refine opVal rfl (exec_preB (x := .tmp 64) (y := .tmp 65) (z := .tmp 66) (A := adr v.g) (m := fl) (c := v.c) (j := fs) rfl rfl rfl (by omega) _) ?_; simp only [Act.put, List.setIfInBounds_toArray, List.set_cons_zero, List.set_cons_succ])
          go_roundw
          case rel =>
            refine ⟨j + 1, hlt, by go_num, by rw [HE.out.2.2.2.2.2.2.2.1, if_pos hlo]; go_num, ?_⟩
            obtain ⟨hd, hA, hFg, hgp, hrow, hG, hGk, hvs, hGm, hmc, hcm, hv⟩ := HD.out
            obtain ⟨F5, H5, hp5, hm5⟩ := ddp_cut hd HE.out.2.2.1 hA hFg hgp hrow hG hGk hvs hGm hmc hcm hv fs fs (by rw [HE.out.2.2.2.2.2.2.1, HE.out.2.2.2.2.1]; omega)
            have h1 := HE.out.2.2.2.1
            rw [crash1_eq (by rw [HE.out.2.2.2.2.1, HE.out.2.2.2.2.2.1]; exact hlo), HE.out.2.2.2.2.2.1, HQ.out, Nat.add_zero] at h1
            rw [h1, ← HE.out.2.2.2.2.2.2.1]
            exact ⟨F5, H5, hp5.drew, HE.out.1.trans ⟨hm5.f, hm5.h, hm5.g.drew⟩⟩
          case measure => simp [intOf]; omega
      · have hD0 : D = 0 := by omega
        subst hD0
        have hfe : fs = fl := by omega
        have hcr : crash1 f (ps.drop cj) = f := by unfold crash1; rw [if_neg (by rw [HE.out.2.2.2.2.1, HE.out.2.2.2.2.2.1]; exact hlo)]
        have hvs' : v.f.s = fl := by rw [HE.out.2.2.2.2.2.2.1, HE.out.2.2.2.2.2.1]; exact hfe
        have HC := Lib.hid (And.intro hcr hvs')
        have hS0 : QD wr g p (EK.dv G) (boxD (some ⟨g, 0, none⟩) mm cc s) wr.drew := ⟨HD.out.2.2.2.2.1, HD.out.2.1, Nat.le_refl _⟩
        have zc := row_c (j := 2) hS0 HD.out.2.2.2.2.2.2.1 (by omega) rfl
        have zf := row_f (j := 2) hS0 HD.out.2.2.2.2.2.2.1 (by omega) rfl
        clear hcr hvs' hS0 hD hfe
        go_wp2_with fail
        go_roundw
        case rel =>
          refine ⟨j + 1, hlt, by go_num, by rw [HE.out.2.2.2.2.2.2.2.1, if_neg hlo]; rfl, ?_⟩
          obtain ⟨hd, hA, hFg, hgp, hrow, hG, hGk, hvs, hGm, hmc, hcm, hv⟩ := HD.out
          have h1 := HE.out.2.2.2.1
          rw [HC.out.1, ← HE.out.2.2.2.2.2.2.1] at h1
          rw [h1]
          obtain ⟨F5, H5, hp5, hm5⟩ := ddp_cell (w6 := wr) (s' := { s with R := putN (partR s.R ps j) x v.f }) (v' := v) (j := 2) (u := .int .i64 (fl : Int)) hd hA hFg hgp hrow hGk hvs hGm hmc hcm (Below.refl _ _) (by omega) (by simp [NF.cells, HC.out.2]) (hv.mono (fun _ => .inl) (fun _ _ => id)) rfl (file_set HE.out.2.2.1 hG hGk)
          exact ⟨F5, H5, hp5.drew, HE.out.1.trans ⟨hm5.f, hm5.h, hm5.g.drew⟩⟩
        case measure => simp [intOf]; omega
    · obtain rfl : j = m := by omega
      obtain ⟨A2, c2, G2, hA, _⟩ := hd.sl
      have hGl : G2.length = j := by
        rename_i hh
        have h1 := hh.2.2.2.2.1
        rw [← mapN_len FV.f, h1]
        show (partR s.R ps j).length = j
        rw [part_len]
        exact HH.out.2.2.2.1
      rw [hGl] at hA
      have c1 := hA.c 1 rfl
      have z5 := hA.c 5 rfl
      have y5 := hA.f 5 rfl
      have z3 := hA.c 3 rfl
      have y3 := hA.f 3 rfl
      have HD := Lib.hid (And.intro hd hmv)
      clear hA hd hmv hGl
      go_wp2_with fail
      go_end0
      refine ⟨rfl, ?_⟩
      obtain ⟨h1, h2⟩ := HD.out.1.rebox (s.crash ps) (((Grew.refl _ wr).putP (o := 5) (.bool false)).putP (o := 3) (.int .i64 0)) (fun A l c hA => (hA.set 5 _ (by simp [boxD])).set 3 _ (by simp [boxD])) (by show crashR s.R ps = partR s.R ps j; rw [← part_all, HH.out.2.2.2.1])
      exact .trans HD.out.2 (.same h1 h2)
end Go.Proofs.Ythnbnhlfiehihaa
/- Disks: the laws' Texts, alike. -/
namespace Go.Proofs.Ythnbnhlfiehihaa
open Go.RowKit Go.Maps
set_option maxRecDepth 20000

theorem cellAt1 {w : World} {B : Nat} {A : Option Addr} {l : List Nm} (h : Sl w B A (l.map str)) {j : Nat} {x : Nm} (hx : l[j]? = some x) : ∃ b o, A = some ⟨b, o, none⟩ ∧ w.cell? ⟨b, o + j, none⟩ = some (.string ⟨x.toArray⟩) := by
  obtain ⟨b, o, e, _, _, hc⟩ := h.at_ (k := j) (by rw [List.length_map]; exact (List.getElem?_eq_some_iff.1 hx).1)
  exact ⟨b, o, e, hc j _ (by rw [List.getElem?_map, hx]; rfl)⟩
set_option maxHeartbeats 1600000 in
theorem Texts_any (w : World) (A1 A2 : Option Addr) (c1 c2 m : Nat) (l : List Nm) (hl : l.length = m) (hm : m < 100000000) (h1 : Sl w w.heap.size A1 (l.map str)) (h2 : Sl w w.heap.size A2 (l.map str)) :
    Calls Try.prog 26 #[.slice A1 m c1, .slice A2 m c2] w fun e w' => e = .returned (.bool true) ∧ Below w.heap.size w w' := by
  have HL := Lib.hid (And.intro hl (And.intro h1 h2))
  clear hl h1 h2
  go_enter Try.func26, Try.ntmps26
  go_wp2_with fail
  go_loopw [5] (fun x5 w2 => ∃ j : Nat, j ≤ m ∧ x5 = .int .i64 (j : Int) ∧ Below w.heap.size w w2) (fun x5 _ => m - (intOf x5).toNat)
  case atStart => exact ⟨0, by omega, rfl, Below.refl _ _⟩
  case round =>
    obtain ⟨j, hj, rfl, hbel⟩ := hrel
    by_cases hlt : j < m
    · obtain ⟨x, hx⟩ : ∃ x, l[j]? = some x := ⟨_, List.getElem?_eq_getElem (by rw [HL.out.1]; exact hlt)⟩
      obtain ⟨b1, o1, rfl, k1⟩ := cellAt1 (HL.out.2.1.below' hbel) hx
      obtain ⟨b2, o2, rfl, k2⟩ := cellAt1 (HL.out.2.2.below' hbel) hx
      have e1 := cellB k1
      have e2 := cellB k2
      have hx0 : (0 : Int) ≤ (j : Int) := by omega
      have hx1 : (j : Int) < (m : Int) := by omega
      clear hx k1 k2
      go_wp2_with fail
      refine bstart (by kernel_rfl) ?_
      refine btake 0 (oi := _) (v := ?_) (by simp only [List.getElem?_toArray, List.getElem?_cons_zero]; rfl) (by kernel_rfl) (by exact fun _ _ _ h => h) (by first | assumption | exact KB.refl _) (.inl ⟨by rfl, fun W hW => ?_⟩) ?_; rotate_left
      · (go_simp; first | done | with_reducible rfl)
      try simp only [Act.put, List.setIfInBounds_toArray, List.set_cons_zero, List.set_cons_succ]
      refine btake 1 (oi := _) (v := ?_) (by simp only [List.getElem?_toArray, List.getElem?_cons_succ, List.getElem?_cons_zero]; rfl) (by kernel_rfl) (by exact fun _ _ _ h => h) (by first | assumption | exact KB.refl _) (.inl ⟨by rfl, fun W hW => ?_⟩) ?_; rotate_left
      · (go_simp; first | done | with_reducible rfl)
      try simp only [Act.put, List.setIfInBounds_toArray, List.set_cons_zero, List.set_cons_succ]
      refine btake 2 (oi := _) (v := ?_) (by simp only [List.getElem?_toArray, List.getElem?_cons_succ, List.getElem?_cons_zero]; rfl) (by kernel_rfl) (by exact fun _ _ _ h => h) (by first | assumption | exact KB.refl _) (.inl ⟨by rfl, fun W hW => ?_⟩) ?_; rotate_left
      · (go_simp; first | done | with_reducible rfl)
      try simp only [Act.put, List.setIfInBounds_toArray, List.set_cons_zero, List.set_cons_succ]
      refine btake 3 (oi := _) (v := ?_) (by simp only [List.getElem?_toArray, List.getElem?_cons_succ, List.getElem?_cons_zero]; rfl) (by kernel_rfl) (by exact fun _ _ _ h => h) (by first | assumption | exact KB.refl _) (.inl ⟨by rfl, fun W hW => ?_⟩) ?_; rotate_left
      · (go_simp; first | done | with_reducible rfl)
      try simp only [Act.put, List.setIfInBounds_toArray, List.set_cons_zero, List.set_cons_succ]
      refine btake 4 (oi := _) (v := ?_) (by simp only [List.getElem?_toArray, List.getElem?_cons_succ, List.getElem?_cons_zero]; rfl) (by kernel_rfl) (by exact fun _ _ _ h => h) (by first | assumption | exact KB.refl _) (.inl ⟨by rfl, fun W hW => ?_⟩) ?_; rotate_left
      · (go_simp; first | done | with_reducible rfl)
      try simp only [Act.put, List.setIfInBounds_toArray, List.set_cons_zero, List.set_cons_succ]
      refine btake 5 (oi := _) (v := ?_) (by simp only [List.getElem?_toArray, List.getElem?_cons_succ, List.getElem?_cons_zero]; rfl) (by kernel_rfl) (by exact fun _ _ _ h => h) (by first | assumption | exact KB.refl _) (.inl ⟨by rfl, fun W hW => ?_⟩) ?_; rotate_left
      · (go_simp; first | done | with_reducible rfl)
      try simp only [Act.put, List.setIfInBounds_toArray, List.set_cons_zero, List.set_cons_succ]
      refine btake 6 (oi := _) (v := ?_) (by simp only [List.getElem?_toArray, List.getElem?_cons_succ, List.getElem?_cons_zero]; rfl) (by kernel_rfl) (by exact fun _ _ _ h => h) (by first | assumption | exact KB.refl _) (.inl ⟨by rfl, fun W hW => ?_⟩) ?_; rotate_left
      · (go_simp; first | done | with_reducible rfl)
      try simp only [Act.put, List.setIfInBounds_toArray, List.set_cons_zero, List.set_cons_succ]
      refine btake 7 (oi := _) (v := ?_) (by simp only [List.getElem?_toArray, List.getElem?_cons_succ, List.getElem?_cons_zero]; rfl) (by kernel_rfl) (by exact fun _ _ _ h => h) (by first | assumption | exact KB.refl _) (.inl ⟨by rfl, fun W hW => ?_⟩) ?_; rotate_left
      · (go_simp; first | done | with_reducible rfl)
      try simp only [Act.put, List.setIfInBounds_toArray, List.set_cons_zero, List.set_cons_succ]
      refine btake 8 (oi := _) (v := ?_) (by simp only [List.getElem?_toArray, List.getElem?_cons_succ, List.getElem?_cons_zero]; rfl) (by kernel_rfl) (by exact fun _ _ _ h => h) (by first | assumption | exact KB.refl _) (.inl ⟨by rfl, fun W hW => ?_⟩) ?_; rotate_left
      · (go_simp; first | done | with_reducible rfl)
      try simp only [Act.put, List.setIfInBounds_toArray, List.set_cons_zero, List.set_cons_succ]
      refine bdone (by kernel_rfl) ?_
      clear e1 e2
      go_wp2_with fail
      go_roundw
      case rel => exact ⟨j + 1, hlt, by go_num, hbel.drew⟩
      case measure => simp [intOf]; omega
    · obtain rfl : j = m := by omega
      go_wp2_with fail
      go_ret
      exact ⟨rfl, hbel⟩
set_option maxRecDepth 100000 in
set_option maxHeartbeats 6400000 in
theorem alike_any (w : World) (p d : Nat) (F H F2 H2 : Nat → Prop) (s : DK) (n : Nat) (hp : PD w p F H s) (hd : DD w d F2 H2 s) (hok : s.ok n) (hn : n < 1000000) :
    Calls Try.prog 21 #[.pointer (some ⟨p, 0, none⟩), .pointer (some ⟨d, 0, none⟩)] w fun e w' => e = .returned (.bool true) ∧ Below w.heap.size w w' := by
  have hf1 := hok.files
  have hf2 := hok.calls
  obtain ⟨m, hm⟩ : ∃ m, s.R.length = m := ⟨_, rfl⟩
  have HP := Lib.hid (And.intro hp (And.intro hd (And.intro hok hm)))
  rw [hm] at hf1
  obtain ⟨A, c, G, hA, _⟩ := hd.sl
  have e1 := hA.e 2 rfl
  have e2 := hA.e 5 rfl
  clear hA hp hd hok hm
  go_enter Try.func21, Try.ntmps21
  go_wp2_with fail
  have hS0 : KB w.heap w.drew := KB.refl _
  refine bstartS (KB w.heap) (by kernel_rfl) ?_
  refine btakeS 0 (oi := _) (v := ?_) (by simp only [List.getElem?_toArray, List.getElem?_cons_zero]; rfl) (by kernel_rfl) (by exact fun _ _ _ h => h) (by first | assumption | exact KB.refl _) (.inl ⟨by rfl, fun W hW => ?_⟩) ?_; rotate_left
  · (go_simp; first | done | with_reducible rfl)
  try simp only [Act.put, List.setIfInBounds_toArray, List.set_cons_zero, List.set_cons_succ]
  refine btakeS 2 (oi := _) (v := ?_) (by simp only [List.getElem?_toArray, List.getElem?_cons_succ, List.getElem?_cons_zero]; rfl) (by kernel_rfl) (by exact fun _ _ _ h => h) (by first | assumption | exact KB.refl _) (.inl ⟨by rfl, fun W hW => ?_⟩) ?_; rotate_left
  · (go_simp; first | done | with_reducible rfl)
  try simp only [Act.put, List.setIfInBounds_toArray, List.set_cons_zero, List.set_cons_succ]
  -- 1: (*newsreel/disk.Disk).Names
  refine bopS 1 (o := _) (by simp only [List.getElem?_toArray, List.getElem?_cons_succ, List.getElem?_cons_zero]; rfl) (by kernel_rfl) (by rfl) (fun K hK => ?_)
  go_simp
  refine (Names_lit w.drew p F H n (m := m) HP.out.2.2.2 HP.out.1.drew HP.out.2.2.1 hn).mono ?_
  rintro e w1 ⟨A1, c1, rfl, hn1, hb1⟩
  have hq1 : Below w.heap.size w w1 := (Below.refl _ w).drew.trans hb1
  have hkb := KB.of hq1
  refine hK.out _ _ hkb ?_; clear hK K
  try simp only [Act.put, List.setIfInBounds_toArray, List.set_cons_zero, List.set_cons_succ]
  -- 3: (*newsreel/newsreelref23.Disk).Names
  refine bopS 3 (o := _) (by simp only [List.getElem?_toArray, List.getElem?_cons_succ, List.getElem?_cons_zero]; rfl) (by kernel_rfl) (by rfl) (fun K hK => ?_)
  go_simp
  refine (DNames_any w1 d F2 H2 s n (HP.out.2.1.below hq1) HP.out.2.2.1 hn).mono ?_
  rintro e w2 ⟨A2, c2, rfl, hn2, hb2⟩
  have hq2 : Below w.heap.size w w2 := hq1.trans (hb2.mono hq1.size)
  have hkb := KB.of hq2
  refine hK.out _ _ hkb ?_; clear hK K
  try simp only [Act.put, List.setIfInBounds_toArray, List.set_cons_zero, List.set_cons_succ]
  -- 4: newsreel/newsreelhelp.Texts
  refine bopS 4 (o := _) (by simp only [List.getElem?_toArray, List.getElem?_cons_succ, List.getElem?_cons_zero]; rfl) (by kernel_rfl) (by rfl) (fun K hK => ?_)
  go_simp
  rw [HP.out.2.2.2]
  refine (Texts_any w2 A1 A2 c1 c2 m s.names (by rw [DK.names, List.length_map]; exact HP.out.2.2.2) (by omega) ((hn1.1.below' hb2).more hb2.size) hn2.1).mono ?_
  rintro e w3 ⟨rfl, hb3⟩
  have hq3 : Below w.heap.size w w3 := hq2.trans (hb3.mono hq2.size)
  have hkb := KB.of hq3
  refine hK.out _ _ hkb ?_; clear hK K
  try simp only [Act.put, List.setIfInBounds_toArray, List.set_cons_zero, List.set_cons_succ]
  refine btakeS 5 (oi := _) (v := ?_) (by simp only [List.getElem?_toArray, List.getElem?_cons_succ, List.getElem?_cons_zero]; rfl) (by kernel_rfl) (by exact fun _ _ _ h => h) (by first | assumption | exact KB.refl _) (.inl ⟨by rfl, fun W hW => ?_⟩) ?_; rotate_left
  · (go_simp; first | done | with_reducible rfl)
  try simp only [Act.put, List.setIfInBounds_toArray, List.set_cons_zero, List.set_cons_succ]
  refine btakeS 6 (oi := _) (v := ?_) (by simp only [List.getElem?_toArray, List.getElem?_cons_succ, List.getElem?_cons_zero]; rfl) (by kernel_rfl) (by exact fun _ _ _ h => h) (by first | assumption | exact KB.refl _) (.inl ⟨by rfl, fun W hW => ?_⟩) ?_; rotate_left
  · (go_simp; first | done | with_reducible rfl)
  try simp only [Act.put, List.setIfInBounds_toArray, List.set_cons_zero, List.set_cons_succ]
  refine btakeS 7 (oi := _) (v := ?_) (by simp only [List.getElem?_toArray, List.getElem?_cons_succ, List.getElem?_cons_zero]; rfl) (by kernel_rfl) (by exact fun _ _ _ h => h) (by first | assumption | exact KB.refl _) (.inl ⟨by rfl, fun W hW => ?_⟩) ?_; rotate_left
  · (go_simp; first | done | with_reducible rfl)
  try simp only [Act.put, List.setIfInBounds_toArray, List.set_cons_zero, List.set_cons_succ]
  refine btakeS 9 (oi := _) (v := ?_) (by simp only [List.getElem?_toArray, List.getElem?_cons_succ, List.getElem?_cons_zero]; rfl) (by kernel_rfl) (by exact fun _ _ _ h => h) (by first | assumption | exact KB.refl _) (.inl ⟨by rfl, fun W hW => ?_⟩) ?_; rotate_left
  · (go_simp; first | done | with_reducible rfl)
  try simp only [Act.put, List.setIfInBounds_toArray, List.set_cons_zero, List.set_cons_succ]
  -- 8: (*newsreel/disk.Disk).Used
  refine bopS 8 (o := _) (by simp only [List.getElem?_toArray, List.getElem?_cons_succ, List.getElem?_cons_zero]; rfl) (by kernel_rfl) (by rfl) (fun K hK => ?_)
  go_simp
  refine (Used_any w3 p F H s (HP.out.1.below hq3)).mono ?_
  rintro e wx ⟨rfl, rfl⟩
  refine hK.out _ _ hkb ?_; clear hK K
  try simp only [Act.put, List.setIfInBounds_toArray, List.set_cons_zero, List.set_cons_succ]
  -- 10: (*newsreel/newsreelref23.Disk).Used
  refine bopS 10 (o := _) (by simp only [List.getElem?_toArray, List.getElem?_cons_succ, List.getElem?_cons_zero]; rfl) (by kernel_rfl) (by rfl) (fun K hK => ?_)
  go_simp
  refine (DUsed_any _ d F2 H2 s n (HP.out.2.1.below hq3) HP.out.2.2.1 hn).mono ?_
  rintro e wx ⟨rfl, rfl⟩
  refine hK.out _ _ hkb ?_; clear hK K
  try simp only [Act.put, List.setIfInBounds_toArray, List.set_cons_zero, List.set_cons_succ]
  refine btakeS 11 (oi := _) (v := ?_) (by simp only [List.getElem?_toArray, List.getElem?_cons_succ, List.getElem?_cons_zero]; rfl) (by kernel_rfl) (by exact fun _ _ _ h => h) (by first | assumption | exact KB.refl _) (.inl ⟨by rfl, fun W hW => ?_⟩) ?_; rotate_left
  · (go_simp; first | done | with_reducible rfl)
  try simp only [Act.put, List.setIfInBounds_toArray, List.set_cons_zero, List.set_cons_succ]
  refine btakeS 12 (oi := _) (v := ?_) (by simp only [List.getElem?_toArray, List.getElem?_cons_succ, List.getElem?_cons_zero]; rfl) (by kernel_rfl) (by exact fun _ _ _ h => h) (by first | assumption | exact KB.refl _) (.inl ⟨by rfl, fun W hW => ?_⟩) ?_; rotate_left
  · (go_simp; first | done | with_reducible rfl)
  try simp only [Act.put, List.setIfInBounds_toArray, List.set_cons_zero, List.set_cons_succ]
  refine btakeS 13 (oi := _) (v := ?_) (by simp only [List.getElem?_toArray, List.getElem?_cons_succ, List.getElem?_cons_zero]; rfl) (by kernel_rfl) (by exact fun _ _ _ h => h) (by first | assumption | exact KB.refl _) (.inl ⟨by rfl, fun W hW => ?_⟩) ?_; rotate_left
  · (go_simp; first | done | with_reducible rfl)
  try simp only [Act.put, List.setIfInBounds_toArray, List.set_cons_zero, List.set_cons_succ]
  refine btakeS 14 (oi := _) (v := ?_) (by simp only [List.getElem?_toArray, List.getElem?_cons_succ, List.getElem?_cons_zero]; rfl) (by kernel_rfl) (by exact fun _ _ _ h => h) (by first | assumption | exact KB.refl _) (.inl ⟨by rfl, fun W hW => ?_⟩) ?_; rotate_left
  · (go_simp; first | done | with_reducible rfl)
  try simp only [Act.put, List.setIfInBounds_toArray, List.set_cons_zero, List.set_cons_succ]
  refine btakeS 16 (oi := _) (v := ?_) (by simp only [List.getElem?_toArray, List.getElem?_cons_succ, List.getElem?_cons_zero]; rfl) (by kernel_rfl) (by exact fun _ _ _ h => h) (by first | assumption | exact KB.refl _) (.inl ⟨by rfl, fun W hW => ?_⟩) ?_; rotate_left
  · (go_simp; first | done | with_reducible rfl)
  try simp only [Act.put, List.setIfInBounds_toArray, List.set_cons_zero, List.set_cons_succ]
  refine btakeS 17 (oi := _) (v := ?_) (by simp only [List.getElem?_toArray, List.getElem?_cons_succ, List.getElem?_cons_zero]; rfl) (by kernel_rfl) (by exact fun _ _ _ h => h) (by first | assumption | exact KB.refl _) (.inl ⟨by rfl, fun W hW => ?_⟩) ?_; rotate_left
  · (go_simp; first | done | with_reducible rfl)
  try simp only [Act.put, List.setIfInBounds_toArray, List.set_cons_zero, List.set_cons_succ]
  refine btakeS 18 (oi := _) (v := ?_) (by simp only [List.getElem?_toArray, List.getElem?_cons_succ, List.getElem?_cons_zero]; rfl) (by kernel_rfl) (by exact fun _ _ _ h => h) (by first | assumption | exact KB.refl _) (.inl ⟨by rfl, fun W hW => ?_⟩) ?_; rotate_left
  · (go_simp; first | done | with_reducible rfl)
  try simp only [Act.put, List.setIfInBounds_toArray, List.set_cons_zero, List.set_cons_succ]
  refine btakeS 19 (oi := _) (v := ?_) (by simp only [List.getElem?_toArray, List.getElem?_cons_succ, List.getElem?_cons_zero]; rfl) (by kernel_rfl) (by exact fun _ _ _ h => h) (by first | assumption | exact KB.refl _) (.inl ⟨by rfl, fun W hW => ?_⟩) ?_; rotate_left
  · (go_simp; first | done | with_reducible rfl)
  try simp only [Act.put, List.setIfInBounds_toArray, List.set_cons_zero, List.set_cons_succ]
  -- 15: (*newsreel/disk.Disk).Calls
  refine bopS 15 (o := _) (by simp only [List.getElem?_toArray, List.getElem?_cons_succ, List.getElem?_cons_zero]; rfl) (by kernel_rfl) (by rfl) (fun K hK => ?_)
  go_simp
  refine (Calls_any _ p F H s (HP.out.1.below hq3)).mono ?_
  rintro e wx ⟨rfl, rfl⟩
  refine hK.out _ _ hkb ?_; clear hK K
  try simp only [Act.put, List.setIfInBounds_toArray, List.set_cons_zero, List.set_cons_succ]
  refine btakeS 20 (oi := _) (v := ?_) (by simp only [List.getElem?_toArray, List.getElem?_cons_succ, List.getElem?_cons_zero]; rfl) (by kernel_rfl) (by exact fun _ _ _ h => h) (by first | assumption | exact KB.refl _) (.inl ⟨by rfl, fun W hW => ?_⟩) ?_; rotate_left
  · (go_simp; first | done | with_reducible rfl)
  try simp only [Act.put, List.setIfInBounds_toArray, List.set_cons_zero, List.set_cons_succ]
  refine btakeS 21 (oi := _) (v := ?_) (by simp only [List.getElem?_toArray, List.getElem?_cons_succ, List.getElem?_cons_zero]; rfl) (by kernel_rfl) (by exact fun _ _ _ h => h) (by first | assumption | exact KB.refl _) (.inl ⟨by rfl, fun W hW => ?_⟩) ?_; rotate_left
  · (go_simp; first | done | with_reducible rfl)
  try simp only [Act.put, List.setIfInBounds_toArray, List.set_cons_zero, List.set_cons_succ]
  refine btakeS 22 (oi := _) (v := ?_) (by simp only [List.getElem?_toArray, List.getElem?_cons_succ, List.getElem?_cons_zero]; rfl) (by kernel_rfl) (by exact fun _ _ _ h => h) (by first | assumption | exact KB.refl _) (.inl ⟨by rfl, fun W hW => ?_⟩) ?_; rotate_left
  · (go_simp; first | done | with_reducible rfl)
  try simp only [Act.put, List.setIfInBounds_toArray, List.set_cons_zero, List.set_cons_succ]
  refine btakeS 23 (oi := _) (v := ?_) (by simp only [List.getElem?_toArray, List.getElem?_cons_succ, List.getElem?_cons_zero]; rfl) (by kernel_rfl) (by exact fun _ _ _ h => h) (by first | assumption | exact KB.refl _) (.inl ⟨by rfl, fun W hW => ?_⟩) ?_; rotate_left
  · (go_simp; first | done | with_reducible rfl)
  try simp only [Act.put, List.setIfInBounds_toArray, List.set_cons_zero, List.set_cons_succ]
  refine btakeS 25 (oi := _) (v := ?_) (by simp only [List.getElem?_toArray, List.getElem?_cons_succ, List.getElem?_cons_zero]; rfl) (by kernel_rfl) (by exact fun _ _ _ h => h) (by first | assumption | exact KB.refl _) (.inl ⟨by rfl, fun W hW => ?_⟩) ?_; rotate_left
  · (go_simp; first | done | with_reducible rfl)
  try simp only [Act.put, List.setIfInBounds_toArray, List.set_cons_zero, List.set_cons_succ]
  refine btakeS 26 (oi := _) (v := ?_) (by simp only [List.getElem?_toArray, List.getElem?_cons_succ, List.getElem?_cons_zero]; rfl) (by kernel_rfl) (by exact fun _ _ _ h => h) (by first | assumption | exact KB.refl _) (.inl ⟨by rfl, fun W hW => ?_⟩) ?_; rotate_left
  · (go_simp; first | done | with_reducible rfl)
  try simp only [Act.put, List.setIfInBounds_toArray, List.set_cons_zero, List.set_cons_succ]
  refine btakeS 27 (oi := _) (v := ?_) (by simp only [List.getElem?_toArray, List.getElem?_cons_succ, List.getElem?_cons_zero]; rfl) (by kernel_rfl) (by exact fun _ _ _ h => h) (by first | assumption | exact KB.refl _) (.inl ⟨by rfl, fun W hW => ?_⟩) ?_; rotate_left
  · (go_simp; first | done | with_reducible rfl)
  try simp only [Act.put, List.setIfInBounds_toArray, List.set_cons_zero, List.set_cons_succ]
  refine btakeS 28 (oi := _) (v := ?_) (by simp only [List.getElem?_toArray, List.getElem?_cons_succ, List.getElem?_cons_zero]; rfl) (by kernel_rfl) (by exact fun _ _ _ h => h) (by first | assumption | exact KB.refl _) (.inl ⟨by rfl, fun W hW => ?_⟩) ?_; rotate_left
  · (go_simp; first | done | with_reducible rfl)
  try simp only [Act.put, List.setIfInBounds_toArray, List.set_cons_zero, List.set_cons_succ]
  -- 24: (*newsreel/disk.Disk).Down
  refine bopS 24 (o := _) (by simp only [List.getElem?_toArray, List.getElem?_cons_succ, List.getElem?_cons_zero]; rfl) (by kernel_rfl) (by rfl) (fun K hK => ?_)
  go_simp
  refine (Down_any _ p F H s (HP.out.1.below hq3)).mono ?_
  rintro e wx ⟨rfl, rfl⟩
  refine hK.out _ _ hkb ?_; clear hK K
  try simp only [Act.put, List.setIfInBounds_toArray, List.set_cons_zero, List.set_cons_succ]
  refine btakeS 29 (oi := _) (v := ?_) (by simp only [List.getElem?_toArray, List.getElem?_cons_succ, List.getElem?_cons_zero]; rfl) (by kernel_rfl) (by exact fun _ _ _ h => h) (by first | assumption | exact KB.refl _) (.inl ⟨by rfl, fun W hW => ?_⟩) ?_; rotate_left
  · (go_simp; first | done | with_reducible rfl)
  try simp only [Act.put, List.setIfInBounds_toArray, List.set_cons_zero, List.set_cons_succ]
  refine btakeS 30 (oi := _) (v := ?_) (by simp only [List.getElem?_toArray, List.getElem?_cons_succ, List.getElem?_cons_zero]; rfl) (by kernel_rfl) (by exact fun _ _ _ h => h) (by first | assumption | exact KB.refl _) (.inl ⟨by rfl, fun W hW => ?_⟩) ?_; rotate_left
  · (go_simp; first | done | with_reducible rfl)
  try simp only [Act.put, List.setIfInBounds_toArray, List.set_cons_zero, List.set_cons_succ]
  refine bdoneS (by kernel_rfl) ?_
  clear hS0 e1 e2 hb1 hb2 hb3 hn1 hn2 hq1 hq2
  go_wp2_with fail
  go_loopw [5] (fun x5 wr => ∃ j : Nat, j ≤ 5 ∧ x5 = .int .u8 (j : Int) ∧ Below w.heap.size w wr) (fun x5 _ => 5 - (intOf x5).toNat)
  case atStart => exact ⟨0, by omega, rfl, hq3⟩
  case round =>
    obtain ⟨j, hj, rfl, hbel⟩ := hrel
    have HB := Lib.hid hbel
    clear hbel
    by_cases hlt : j < 5
    · go_wp2_with fail
      refine (name_any _ j (by omega)).mono ?_
      rintro e w4 ⟨rfl, hb4⟩
      have hq4 := HB.out.trans (hb4.mono HB.out.size)
      go_wp2_with fail
      refine (Read_any w4 p F H s n (HP.out.1.below hq4) HP.out.2.2.1 (nameOf j) (by have := nameOf_len j; simp only [maxLen]; omega)).mono ?_
      rintro e w5 ⟨A5, c5, rfl, hs5, _, hb5⟩
      have hq5 := hq4.trans (hb5.mono hq4.size)
      go_wp2_with fail
      refine (name_any _ j (by omega)).mono ?_
      rintro e w6 ⟨rfl, hb6⟩
      have hq6 := hq5.trans (hb6.mono hq5.size)
      have hs6 := (hs5.below' hb6).more hb6.size
      go_wp2_with fail
      refine (DRead_any w6 d F2 H2 s n (HP.out.2.1.below hq6) HP.out.2.2.1 hn (nameOf j)).mono ?_
      rintro e w7 ⟨A7, c7, rfl, hs7, _, hb7⟩
      have hq7 := hq6.trans (hb7.mono hq6.size)
      have hs8 := (hs6.below' hb7).more hb7.size
      obtain ⟨⟨rb, ro⟩, hr⟩ : ∃ r, s.read (nameOf j) = r := ⟨_, rfl⟩
      rw [hr] at hs7 hs8 ⊢
      obtain ⟨L, hL⟩ : ∃ L, rb.length = L := ⟨_, rfl⟩
      have cv1 := conv hs8 L c5 hL.symm
      have cv2 := conv hs7 L c7 hL.symm
      dsimp only
      rw [hL]
      have HQ := Lib.hid hq7
      clear hq4 hq5 hq6 hq7 hb4 hb5 hb6 hb7 hs5 hs6 hs7 hs8 hL hr
      go_wp2_with fail
      clear cv1 cv2
      refine (name_any _ j (by omega)).mono ?_
      rintro e w8 ⟨rfl, hb8⟩
      have hq8 := HQ.out.trans (hb8.mono HQ.out.size)
      go_wp2_with fail
      refine (Sure_any w8 p F H s (HP.out.1.below hq8) (nameOf j) (by have := nameOf_len j; simp only [maxLen]; omega)).mono ?_
      rintro e w9 ⟨rfl, rfl⟩
      go_wp2_with fail
      refine (name_any _ j (by omega)).mono ?_
      rintro e wa ⟨rfl, hba⟩
      have hqa := hq8.trans (hba.mono hq8.size)
      go_wp2_with fail
      refine (DSure_any wa d F2 H2 s n (HP.out.2.1.below hqa) HP.out.2.2.1 hn (nameOf j)).mono ?_
      rintro e wb ⟨rfl, rfl⟩
      go_wp2_with fail
      go_roundw
      case rel => exact ⟨j + 1, hlt, by go_num, hqa⟩
      case measure => simp [intOf]; omega
    · obtain rfl : j = 5 := by omega
      go_wp2_with fail
      go_ret
      exact ⟨rfl, HB.out⟩
end Go.Proofs.Ythnbnhlfiehihaa
/- Disks: the calls, disks side by side. -/
namespace Go.Proofs.Ythnbnhlfiehihaa
open Go.RowKit Go.Maps
set_option maxRecDepth 20000

abbrev Ob.P (p : Nat) (s : DK) : Ob := ⟨false, p, s, none⟩
abbrev Ob.D (p : Nat) (s : DK) : Ob := ⟨true, p, s, none⟩
theorem at_P {p : Nat} {s : DK} {W : World} {F H : Nat → Prop} : (Ob.P p s).at W F H ↔ PD W p F H s := by simp [Ob.at]
theorem at_D {p : Nat} {s : DK} {W : World} {F H : Nat → Prop} : (Ob.D p s).at W F H ↔ DD W p F H s := by simp [Ob.at]
section
variable {w0 W : World} {L : List Ob} {i p : Nat} {s : DK} {n : Nat}
theorem Pool.slB (hP : Pool w0 L W) {A : Option Addr} {xs : List Value} (h : Sl w0 w0.heap.size A xs) : Sl W W.heap.size A xs := (h.below hP.wb).more hP.wb.size
theorem Pool.free {F : Nat → Prop} (hF : ∀ k, F k → w0.heap.size ≤ k) {A : Option Addr} {xs : List Value} (h : Sl w0 w0.heap.size A xs) : xs = [] ∨ ∀ a, A = some a → ¬ F a.block := by
  rcases h with h | ⟨g, o, rfl, h1, _⟩
  · exact .inl h
  · exact .inr fun a e hk => by cases e; exact absurd (hF g hk) (by omega)
theorem Pool.usePD (hP : Pool w0 L W) (hi : L[i]? = some (Ob.P p s)) : ∃ F H : Nat → Prop, PD W p F H s ∧ (∀ k, F k → w0.heap.size ≤ k) ∧
    ∀ (W' : World) (F' H' : Nat → Prop) (s' : DK), PD W' p F' H' s' → Moved F H F' H' W W' → Pool w0 (L.set i (Ob.P p s')) W' := by
  obtain ⟨F, H, ho, hF, hu⟩ := hP.use hi
  exact ⟨F, H, at_P.1 ho, hF, fun W' F' H' s' h hm => hu W' F' H' s' (at_P.2 h) hm⟩
theorem Pool.useDD (hP : Pool w0 L W) (hi : L[i]? = some (Ob.D p s)) : ∃ F H : Nat → Prop, DD W p F H s ∧ (∀ k, F k → w0.heap.size ≤ k) ∧
    ∀ (W' : World) (F' H' : Nat → Prop) (s' : DK), DD W' p F' H' s' → Moved F H F' H' W W' → Pool w0 (L.set i (Ob.D p s')) W' := by
  obtain ⟨F, H, ho, hF, hu⟩ := hP.use hi
  exact ⟨F, H, at_D.1 ho, hF, fun W' F' H' s' h hm => hu W' F' H' s' (at_D.2 h) hm⟩
theorem Pool.PCreate (hP : Pool w0 L W) (hi : L[i]? = some (Ob.P p s)) (hok : s.ok n) (hn : n < 1000000) (x : Nm) (hx : x.length ≤ 100) :
    Calls Try.prog 9 #[.pointer (some ⟨p, 0, none⟩), str x] W fun e W' => e = .returned (.int .i64 ((s.create x).1 : Int)) ∧ Pool w0 (L.set i (Ob.P p (s.create x).2)) W' := by
  obtain ⟨F, H, ho, hF, hu⟩ := hP.usePD hi
  exact (Create_any W p F H s n ho hok hn x (by have := hx; simp only [maxLen]; omega)).mono fun e W' ⟨h1, h2, h3⟩ => ⟨h1, hu W' F H _ h2 (Moved.same h3)⟩
theorem Pool.DCreate (hP : Pool w0 L W) (hi : L[i]? = some (Ob.D p s)) (hok : s.ok n) (hn : n < 1000000) (x : Nm) :
    Calls Try.prog 40 #[.pointer (some ⟨p, 0, none⟩), str x] W fun e W' => e = .returned (.int .i64 ((s.create x).1 : Int)) ∧ Pool w0 (L.set i (Ob.D p (s.create x).2)) W' := by
  obtain ⟨F, H, ho, hF, hu⟩ := hP.useDD hi
  exact (DCreate_any W p F H s n ho hok hn x).mono fun e W' ⟨h1, F', H', h2, h3⟩ => ⟨h1, hu W' F' H' _ h2 h3⟩
theorem Pool.PSync (hP : Pool w0 L W) (hi : L[i]? = some (Ob.P p s)) (hok : s.ok n) (hn : n < 1000000) (x : Nm) (hx : x.length ≤ 100) :
    Calls Try.prog 12 #[.pointer (some ⟨p, 0, none⟩), str x] W fun e W' => e = .returned (.int .i64 ((s.sync x).1 : Int)) ∧ Pool w0 (L.set i (Ob.P p (s.sync x).2)) W' := by
  obtain ⟨F, H, ho, hF, hu⟩ := hP.usePD hi
  exact (Sync_any W p F H s n ho hok hn x (by have := hx; simp only [maxLen]; omega)).mono fun e W' ⟨h1, h2, h3⟩ => ⟨h1, hu W' F H _ h2 (Moved.same h3)⟩
theorem Pool.DSync (hP : Pool w0 L W) (hi : L[i]? = some (Ob.D p s)) (hok : s.ok n) (hn : n < 1000000) (x : Nm) :
    Calls Try.prog 42 #[.pointer (some ⟨p, 0, none⟩), str x] W fun e W' => e = .returned (.int .i64 ((s.sync x).1 : Int)) ∧ Pool w0 (L.set i (Ob.D p (s.sync x).2)) W' := by
  obtain ⟨F, H, ho, hF, hu⟩ := hP.useDD hi
  exact (DSync_any W p F H s n ho hok hn x).mono fun e W' ⟨h1, F', H', h2, h3⟩ => ⟨h1, hu W' F' H' _ h2 h3⟩
theorem Pool.PRemove (hP : Pool w0 L W) (hi : L[i]? = some (Ob.P p s)) (hok : s.ok n) (hn : n < 1000000) (x : Nm) (hx : x.length ≤ 100) :
    Calls Try.prog 47 #[.pointer (some ⟨p, 0, none⟩), str x] W fun e W' => e = .returned (.int .i64 ((s.remove x).1 : Int)) ∧ Pool w0 (L.set i (Ob.P p (s.remove x).2)) W' := by
  obtain ⟨F, H, ho, hF, hu⟩ := hP.usePD hi
  exact (Remove_any W p F H s n ho hok hn x (by have := hx; simp only [maxLen]; omega)).mono fun e W' ⟨h1, h2, h3⟩ => ⟨h1, hu W' F H _ h2 (Moved.same h3)⟩
theorem Pool.DRemove (hP : Pool w0 L W) (hi : L[i]? = some (Ob.D p s)) (hok : s.ok n) (hn : n < 1000000) (x : Nm) :
    Calls Try.prog 48 #[.pointer (some ⟨p, 0, none⟩), str x] W fun e W' => e = .returned (.int .i64 ((s.remove x).1 : Int)) ∧ Pool w0 (L.set i (Ob.D p (s.remove x).2)) W' := by
  obtain ⟨F, H, ho, hF, hu⟩ := hP.useDD hi
  exact (DRemove_any W p F H s n ho hok hn x).mono fun e W' ⟨h1, F', H', h2, h3⟩ => ⟨h1, hu W' F' H' _ h2 h3⟩
theorem Pool.PRename (hP : Pool w0 L W) (hi : L[i]? = some (Ob.P p s)) (hok : s.ok n) (hn : n < 1000000) (x y : Nm) (hx : x.length ≤ 100) (hy : y.length ≤ 100) :
    Calls Try.prog 45 #[.pointer (some ⟨p, 0, none⟩), str x, str y] W fun e W' => e = .returned (.int .i64 ((s.rename x y).1 : Int)) ∧ Pool w0 (L.set i (Ob.P p (s.rename x y).2)) W' := by
  obtain ⟨F, H, ho, hF, hu⟩ := hP.usePD hi
  exact (Rename_any W p F H s n ho hok hn x y (by have := hx; simp only [maxLen]; omega) (by have := hy; simp only [maxLen]; omega)).mono fun e W' ⟨h1, h2, h3⟩ => ⟨h1, hu W' F H _ h2 (Moved.same h3)⟩
theorem Pool.DRename (hP : Pool w0 L W) (hi : L[i]? = some (Ob.D p s)) (hok : s.ok n) (hn : n < 1000000) (x y : Nm) :
    Calls Try.prog 46 #[.pointer (some ⟨p, 0, none⟩), str x, str y] W fun e W' => e = .returned (.int .i64 ((s.rename x y).1 : Int)) ∧ Pool w0 (L.set i (Ob.D p (s.rename x y).2)) W' := by
  obtain ⟨F, H, ho, hF, hu⟩ := hP.useDD hi
  exact (DRename_any W p F H s n ho hok hn x y).mono fun e W' ⟨h1, F', H', h2, h3⟩ => ⟨h1, hu W' F' H' _ h2 h3⟩
theorem Pool.PTruncate (hP : Pool w0 L W) (hi : L[i]? = some (Ob.P p s)) (hok : s.ok n) (hn : n < 1000000) (x : Nm) (hx : x.length ≤ 100) (k : Int) (h0 : -9223372036854775808 ≤ k) (h1 : k ≤ 9223372036854775807) :
    Calls Try.prog 43 #[.pointer (some ⟨p, 0, none⟩), str x, .int .i64 k] W fun e W' => e = .returned (.int .i64 ((s.truncate x k).1 : Int)) ∧ Pool w0 (L.set i (Ob.P p (s.truncate x k).2)) W' := by
  obtain ⟨F, H, ho, hF, hu⟩ := hP.usePD hi
  exact (Truncate_any W p F H s n ho hok hn x (by have := hx; simp only [maxLen]; omega) k h0 h1).mono fun e W' ⟨h1, H', h2, h3, h4⟩ => ⟨h1, hu W' F H' _ h2 ⟨fun _ => .inl, h3, h4⟩⟩
theorem Pool.DTruncate (hP : Pool w0 L W) (hi : L[i]? = some (Ob.D p s)) (hok : s.ok n) (hn : n < 1000000) (x : Nm) (k : Int) (h0 : -9223372036854775808 ≤ k) (h1 : k ≤ 9223372036854775807) :
    Calls Try.prog 44 #[.pointer (some ⟨p, 0, none⟩), str x, .int .i64 k] W fun e W' => e = .returned (.int .i64 ((s.truncate x k).1 : Int)) ∧ Pool w0 (L.set i (Ob.D p (s.truncate x k).2)) W' := by
  obtain ⟨F, H, ho, hF, hu⟩ := hP.useDD hi
  exact (DTruncate_any W p F H s n ho hok hn x k h0 h1).mono fun e W' ⟨h1, F', H', h2, h3⟩ => ⟨h1, hu W' F' H' _ h2 h3⟩
theorem Pool.PAppend (hP : Pool w0 L W) (hi : L[i]? = some (Ob.P p s)) (hok : s.ok n) (hn : n < 1000000) (x : Nm) (hx : x.length ≤ 100) (A : Option Addr) (c l : Nat) (b : List UInt8) (hl : b.length = l) (hm : l ≤ 16777216) (hc : l ≤ c) (hS : Sl w0 w0.heap.size A (bv b)) :
    Calls Try.prog 10 #[.pointer (some ⟨p, 0, none⟩), str x, .slice A l c] W fun e W' => e = .returned (.int .i64 ((s.append x b).1 : Int)) ∧ Pool w0 (L.set i (Ob.P p (s.append x b).2)) W' := by
  obtain ⟨F, H, ho, hF, hu⟩ := hP.usePD hi
  exact (Append_any W p F H s n ho hok hn x (by have := hx; simp only [maxLen]; omega) A c l b hl hm hc (hP.slB hS) ((Pool.free hF hS).imp (fun h => by simpa [bv] using h) id)).mono fun e W' ⟨h1, H', h2, h3, h4⟩ => ⟨h1, hu W' F H' _ h2 ⟨fun _ => .inl, h3, h4⟩⟩
theorem Pool.DAppend (hP : Pool w0 L W) (hi : L[i]? = some (Ob.D p s)) (hok : s.ok n) (hn : n < 1000000) (x : Nm) (A : Option Addr) (c l : Nat) (b : List UInt8) (hl : b.length = l) (hm : l ≤ 16777216) (hc : l ≤ c) (hS : Sl w0 w0.heap.size A (bv b)) :
    Calls Try.prog 41 #[.pointer (some ⟨p, 0, none⟩), str x, .slice A l c] W fun e W' => e = .returned (.int .i64 ((s.append x b).1 : Int)) ∧ Pool w0 (L.set i (Ob.D p (s.append x b).2)) W' := by
  obtain ⟨F, H, ho, hF, hu⟩ := hP.useDD hi
  exact (DAppend_any W p F H s n ho hok hn x A c l b hl hm hc (hP.slB hS) ((Pool.free hF hS).imp (fun h => by simpa [bv] using h) id)).mono fun e W' ⟨h1, F', H', h2, h3⟩ => ⟨h1, hu W' F' H' _ h2 h3⟩
theorem Pool.PArm (hP : Pool w0 L W) (hi : L[i]? = some (Ob.P p s)) (_hok : s.ok n) (_hn : n < 1000000) (a k : Int) (h0 : -9223372036854775808 ≤ a) (h1 : a ≤ 9223372036854775807) :
    Calls Try.prog 11 #[.pointer (some ⟨p, 0, none⟩), .int .i64 a, .int .i64 k] W fun e W' => e = .returned (.tuple #[]) ∧ Pool w0 (L.set i (Ob.P p (s.armed a k))) W' := by
  obtain ⟨F, H, ho, hF, hu⟩ := hP.usePD hi
  exact (Arm_any W p F H s ho a k h0 h1).mono fun e W' ⟨h1, h2, h3⟩ => ⟨h1, hu W' F H _ h2 (Moved.same h3)⟩
theorem Pool.DArm (hP : Pool w0 L W) (hi : L[i]? = some (Ob.D p s)) (_hok : s.ok n) (_hn : n < 1000000) (a k : Int) (h0 : -9223372036854775808 ≤ a) (h1 : a ≤ 9223372036854775807) :
    Calls Try.prog 49 #[.pointer (some ⟨p, 0, none⟩), .int .i64 a, .int .i64 k] W fun e W' => e = .returned (.tuple #[]) ∧ Pool w0 (L.set i (Ob.D p (s.armed a k))) W' := by
  obtain ⟨F, H, ho, hF, hu⟩ := hP.useDD hi
  exact (DArm_any W p F H s ho a k h0 h1).mono fun e W' ⟨h1, h2, h3⟩ => ⟨h1, hu W' F H _ h2 (Moved.same h3)⟩
theorem Pool.PCrash (hP : Pool w0 L W) (hi : L[i]? = some (Ob.P p s)) (hok : s.ok n) (hn : n < 1000000) (A : Option Addr) (c l : Nat) (ps : List Int) (hl : ps.length = l) (hm : l ≤ maxLen) (hS : Sl w0 w0.heap.size A (iv ps)) :
    Calls Try.prog 18 #[.pointer (some ⟨p, 0, none⟩), .slice A l c] W fun e W' => e = .returned (.tuple #[]) ∧ Pool w0 (L.set i (Ob.P p (s.crash ps))) W' := by
  subst hl
  obtain ⟨F, H, ho, hF, hu⟩ := hP.usePD hi
  exact (Crash_any W p F H s n ho hok hn A c ps (hP.slB hS) ((Pool.free hF hS).imp (fun h => by simpa [iv] using h) id) hm).mono fun e W' ⟨h1, H', h2, h3, h4⟩ => ⟨h1, hu W' F H' _ h2 ⟨fun _ => .inl, h3, h4⟩⟩
theorem Pool.DCrash (hP : Pool w0 L W) (hi : L[i]? = some (Ob.D p s)) (hok : s.ok n) (hn : n < 1000000) (A : Option Addr) (c l : Nat) (ps : List Int) (hl : ps.length = l) (hm : l ≤ maxLen) (hS : Sl w0 w0.heap.size A (iv ps)) :
    Calls Try.prog 50 #[.pointer (some ⟨p, 0, none⟩), .slice A l c] W fun e W' => e = .returned (.tuple #[]) ∧ Pool w0 (L.set i (Ob.D p (s.crash ps))) W' := by
  subst hl
  obtain ⟨F, H, ho, hF, hu⟩ := hP.useDD hi
  exact (DCrash_any W p F H s n ho hok hn A c ps (hP.slB hS) ((Pool.free hF hS).imp (fun h => by simpa [iv] using h) id) hm).mono fun e W' ⟨h1, F', H', h2, h3⟩ => ⟨h1, hu W' F' H' _ h2 h3⟩
end
end Go.Proofs.Ythnbnhlfiehihaa
