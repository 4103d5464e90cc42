/- Disks: copies, where disks stand side by side. -/
import Derived.Test.YthnbnhlfiehihaaM05
import Derived.Test.YthnbnhlfiehihaaM14
namespace Go.Proofs.Ythnbnhlfiehihaa
open Go.RowKit Go.Maps
set_option maxRecDepth 20000

end Go.Proofs.Ythnbnhlfiehihaa
/- 'DiskSure': the walk of the law. -/
namespace Go.Proofs.Ythnbnhlfiehihaa
open Go.RowKit Go.Maps
set_option maxRecDepth 20000

theorem Read_some (w : World) (p : Nat) (F H : Nat → Prop) (s : DK) (n : Nat) (h : PD w p F H s) (hok : s.ok n) (x : Nm) (hx : x.length ≤ maxLen) {f : DF} (hlk : look s.R x = some f) (ho : s.off = false) :
    Calls Try.prog 15 #[.pointer (some ⟨p, 0, none⟩), str x] w fun e w' => ∃ A c, e = .returned (.tuple #[.slice A f.b.length c, .bool true]) ∧ Sl w' w'.heap.size A (bv f.b) ∧ f.b.length ≤ c ∧ Below w.heap.size w w' := by
  obtain ⟨mb, hA, _⟩ := h.box
  have c6 := hA.c 6 rfl
  clear hA
  have hol := old_le hok x
  have hU := hok.used
  have hR := hok.room
  rw [ho] at c6
  have hH := has_any w p F H s h x hx
  have hb : s.has x = true := by simp [DK.has, hlk]
  rw [hb] at hH
  have hfo : s.fileOf x = f := by simp [DK.fileOf, hlk]
  rw [hfo] at hol
  obtain ⟨ol, hole⟩ : ∃ ol, f.b.length = ol := ⟨_, rfl⟩
  rw [hole] at hol ⊢
  have hfd := fld0
  go_enter Try.func15, Try.ntmps15
  go_wp2_with (first
    | (go_at_call 28; refine hH.mono ?_; rintro e w1 ⟨rfl, hb1⟩; obtain ⟨mb, g, c, hA, hlk, _, hfv⟩ := (h.below hb1).tell x hx; replace hlk := hlk w1 (KB.refl _); have c0 := hA.c 0 rfl; clear hA; rw [hfo, hole] at hlk; rw [hfo] at hfv)
    | (go_at_call 32; refine (Clone_any w1 w1.heap.size (adr g) ol c f.b hfv.1 hole.symm (by omega)).mono ?_; rintro e w2 ⟨A2, c2, rfl, hown, hb2⟩))
  go_ret2
  refine ⟨A2, c2, rfl, (OwnB.sl hown).1, ?_, hb1.trans (hb2.mono hb1.size)⟩
  obtain ⟨A', c', e', h1, _⟩ := hown.form
  injection e' with _ _ e3
  subst e3
  omega
/-- a name's file, before and after a crash that keeps nothing -/
theorem sure_facts {s : DK} {n : Nat} (hok : s.ok n) {i : Nat} {x : Nm} {f : DF} (hx : s.R[i]? = some (x, f)) : look s.R x = some f ∧ look (s.crash []).R x = some ⟨f.b.take f.s, f.s⟩ ∧ s.sureOf x = f.s ∧ (s.crash []).sureOf x = f.s ∧ f.s ≤ f.b.length ∧ s.names[i]? = some x := by
  have h1 := look_at hok.rise hx
  have h2 : look (s.crash []).R x = some ⟨f.b.take f.s, f.s⟩ := by
    show look (crashR s.R []) x = _
    rw [crash_nil s.R hok.sure, mapN_look, h1]
    rfl
  refine ⟨h1, h2, by simp [DK.sureOf, h1], by simp [DK.sureOf, h2], hok.sure _ (List.mem_of_getElem? hx), ?_⟩
  rw [DK.names, List.getElem?_map, hx]
  rfl
theorem crash_again {s : DK} {n : Nat} (hok : s.ok n) (ps : List Int) : (s.crash []).crash ps = s.crash [] := by
  have h : crashR (s.crash []).R ps = (s.crash []).R := crash_all_sure _ ps (crash_sure s.R [] hok.sure)
  show ({ s.crash [] with arm := 0, off := false, R := crashR (s.crash []).R ps } : DK) = s.crash []
  rw [h]
  rfl
theorem actK_plain {s : DK} {a : AK} (h : s.arm = 0 ∧ s.off = false) (ha : a.wh % 16 < 13) : (actK s a).2.arm = 0 ∧ (actK s a).2.off = false := by
  obtain ⟨h1, h2⟩ := h
  have hp : s.power = s := by unfold DK.power; rw [h2, h1]; simp
  unfold actK
  split
  · unfold DK.create; rw [hp, h2]; simp only [Bool.false_eq_true, if_false]; (repeat' split) <;> simp [DK.lay, h1, h2]
  split
  · unfold DK.append; rw [hp, h2]; simp only [Bool.false_eq_true, if_false]; (repeat' split) <;> simp [DK.lay, h1, h2]
  split
  · unfold DK.sync; rw [hp, h2]; simp only [Bool.false_eq_true, if_false]; (repeat' split) <;> simp [DK.lay, h1, h2]
  split
  · unfold DK.truncate; rw [hp, h2]; simp only [Bool.false_eq_true, if_false]; (repeat' split) <;> simp [DK.lay, h1, h2]
  split
  · unfold DK.truncate; rw [hp, h2]; simp only [Bool.false_eq_true, if_false]; (repeat' split) <;> simp [DK.lay, h1, h2]
  split
  · unfold DK.rename; rw [hp, h2]; simp only [Bool.false_eq_true, if_false]; (repeat' split) <;> simp [DK.lay, h1, h2]
  split
  · unfold DK.remove; rw [hp, h2]; simp only [Bool.false_eq_true, if_false]; (repeat' split) <;> simp [DK.lay, h1, h2]
  all_goals (exfalso; repeat' split at *) <;> omega
set_option maxRecDepth 100000 in
set_option maxHeartbeats 16000000 in
theorem DiskSure_walk (w : World) (A : Option Addr) (c : Nat) (l : List AK) (hS : Sl w w.heap.size A (ak l)) (hlc : l.length ≤ c) (hok : ∀ a ∈ l, a.ok w) (room : Nat) (hr : room < 256) :
    Calls Try.prog 6 #[.slice A l.length c, .int .u8 (room : Int)] w fun e w' => e = .returned (.bool true) ∧ Below w.heap.size w w' := by
  have hK := known_any w
  obtain ⟨m, hm⟩ : ∃ m, l.length = m := ⟨_, rfl⟩
  rw [hm] at hlc ⊢
  have HL := Lib.hid (And.intro hS (And.intro hok hm))
  clear hS hok hm
  by_cases hbig : 60 < m
  · have hd1 : decide ((60 : Int) < (m : Int)) = true := by simp; omega
    go_enter Try.func6, Try.ntmps6
    go_wp2_with (go_at_call 7; refine hK.mono ?_; rintro e w1 ⟨rfl, hb1⟩)
    go_ret
    exact ⟨rfl, hb1⟩
  have hd1 : decide ((60 : Int) < (m : Int)) = false := by simp; omega
  go_enter Try.func6, Try.ntmps6
  go_wp2_with (go_at_call 7; refine hK.mono ?_; rintro e w1 ⟨rfl, hb1⟩)
  refine (New_any w1 (room : Int)).mono ?_
  rintro e w2 ⟨p, F0, H0, rfl, hp2, hH2, hb2⟩
  go_wp2_with fail
  refine (NewDisk_any w2 (room : Int)).mono ?_
  rintro e w3 ⟨d, F2, H2', rfl, hd3, hH3, hb3⟩
  have hq3 := Pool.start hb1 (hp2) hH2 hb2 hd3 hH3 hb3
  clear hp2 hH2 hb2 hd3 hH3 hb3
  have hok0 := DK.ok.new (room : Int)
  have HS := Lib.hid (And.intro hq3 (And.intro hok0 (show (DK.new (room : Int)).arm = 0 ∧ (DK.new (room : Int)).off = false from ⟨rfl, rfl⟩)))
  obtain ⟨s0, hs0⟩ : ∃ s0, DK.new (room : Int) = s0 := ⟨_, rfl⟩
  rw [hs0] at HS
  clear hs0 hok0 hq3 hK hb1 hd1
  go_wp2_with fail
  go_loopw [7] (fun x7 wr => ∃ (j : Nat) (s : DK), j ≤ m ∧ x7 = .int .i64 (j : Int) ∧ s.ok j ∧ (s.arm = 0 ∧ s.off = false) ∧ Pool w [Ob.P p s, Ob.D d s] wr) (fun x7 _ => m - (intOf x7).toNat)
  case atStart => exact ⟨0, s0, by omega, rfl, HS.out.2.1, HS.out.2.2, HS.out.1⟩
  case round =>
    obtain ⟨j, s, hj, rfl, hok, hao, hq⟩ := hrel
    have HQ := Lib.hid (And.intro hq (And.intro hok hao))
    clear hao
    by_cases hlt : j < m
    · obtain ⟨a, ha⟩ : ∃ a, l[j]? = some a := ⟨_, List.getElem?_eq_getElem (by rw [HL.out.2.2]; exact hlt)⟩
      have hao := HL.out.2.1 a (List.mem_of_getElem? ha)
      obtain ⟨b, o, rfl, c0, c1, c2, c3, c4, c5⟩ := hq.act HL.out.1 ha
      have hx0 : (0 : Int) ≤ (j : Int) := by omega
      have hx1 : (j : Int) < (m : Int) := by omega
      have HO := Lib.hid hao
      have hwb := hao.wh
      have hat := At.new wr 43 a.cells.toArray
      have t0 := hat.c 0 (v := .int .u8 (a.wh : Int)) rfl
      have t1 := hat.c 1 (v := .int .u8 (a.na : Int)) rfl
      have t2 := hat.c 2 (v := .int .u8 (a.to : Int)) rfl
      have t3 := hat.c 3 (v := .int .i64 a.n) rfl
      have t4 := hat.c 4 (v := .slice a.bA a.b.length a.bc) rfl
      have t5 := hat.c 5 (v := .slice a.pA a.ps.length a.pc) rfl
      have hbl := (Below.refl wr.heap.size wr).alloc (Nat.le_refl _) (.cells a.cells.toArray 43)
      have hqb := hq.below hbl
      unfold AK.cells at t0 t1 t2 t3 t4 t5
      have HB := Lib.hid hqb
      clear hok hq ha hao hat hbl hqb
      by_cases hpk : a.wh % 16 < 13
      · have hd4 : decide ((a.wh : Int) % 16 < 13) = true := by simp; omega
        go_wp2_with fail
        refine (play_any w _ _ 0 1 p d s j HB.out rfl rfl (by omega) HQ.out.2.1 (by omega) a HO.out).mono ?_
        rintro e w5 ⟨rfl, hq5⟩
        have hok5 := actK_ok (a := a) HQ.out.2.1 HO.out.n0 HO.out.n1
        have hpl5 := actK_plain (s := s) (a := a) HQ.out.2.2 hpk
        clear c0 c1 c2 c3 c4 c5 t0 t1 t2 t3 t4 t5 hd4
        go_wp2_with fail
        go_roundw
        case rel => exact ⟨j + 1, _, hlt, by go_num, hok5, hpl5, hq5⟩
        case measure => simp [intOf]; omega
      · have hd4 : decide ((a.wh : Int) % 16 < 13) = false := by simp; omega
        go_wp2_with fail
        go_roundw
        case rel => exact ⟨j + 1, s, hlt, by go_num, HQ.out.2.1.more (by omega), HQ.out.2.2, HB.out⟩
        case measure => simp [intOf]; omega
    · obtain rfl : j = m := by omega
      clear hok hq hlt hj
      go_wp2_with fail
      obtain ⟨F, H, hp, hF, _⟩ := HQ.out.1.usePD (i := 0) rfl
      obtain ⟨hok, harm, hoff⟩ := HQ.out.2
      have hwr := HQ.out.1.wb
      have hFl : ∀ k, F k → k < wr.heap.size := fun k hk => hp.lt k (hp.fh hk)
      refine (Names_any wr p F H s j hp hok (by omega)).mono ?_
      rintro e wN ⟨An, cn, rfl, hna, hbn⟩
      go_wp2_with fail
      refine (Copy_any wN p F H s (hp.below hbn)).mono ?_
      rintro e wC ⟨q, F', H', rfl, hpq, hF', hH', hbc⟩
      go_wp2_with fail
      refine (Crash_any wC p F H s j ((hp.below hbn).below hbc) hok (by omega) none 0 [] (.inl rfl) (.inl rfl) (by simp)).mono ?_
      rintro e wX ⟨rfl, Hx, hpx, hHx, hgx⟩
      have hpq2 := hpq.grew hgx (fun k hk hFk => by
        have h1 := hFl k hFk
        have h2 := hbn.size
        rcases hH' k hk with h | h
        · exact h.2 hFk
        · omega)
      have hns := ((hna.1.below' hbc).more hbc.size).grewF hgx (fun a ha hk => by have h1 := (hna.2.2.2.2 a ha).1; have h2 := hFl _ hk; omega)
      have hbX : Below w.heap.size w wX := hgx.belowB ((hwr.trans (hbn.mono hwr.size)).trans (hbc.mono (hwr.trans (hbn.mono hwr.size)).size)) (Nat.le_refl _) hF
      have hokx := hok.crash []
      have hnm : (s.crash []).names = s.names := crash_names s.R []
      have hRl : (s.crash []).R.length = s.R.length := crash_len s.R []
      go_wp2_with fail
      refine (Names_any wX p F Hx (s.crash []) j hpx hokx (by omega)).mono ?_
      rintro e wY ⟨A2, c2, rfl, hnb, hby⟩
      rw [hnm] at hnb
      rw [hRl]
      obtain ⟨nl, hnl⟩ : ∃ nl, s.R.length = nl := ⟨_, rfl⟩
      have hnlj : nl ≤ j := by have h1 := hok.files; have h2 := hok.calls; omega
      rw [hnl]
      go_wp2_with fail
      refine (Texts_any wY A2 An c2 cn nl s.names (by rw [DK.names, List.length_map]; exact hnl) (by omega) hnb.1 ((hns.below' hby).more hby.size)).mono ?_
      rintro e wT ⟨rfl, hbt⟩
      have hbYT := hby.trans (hbt.mono hby.size)
      have HV := Lib.hid (And.intro (hpx.below hbYT) (And.intro (hpq2.below hbYT) (And.intro ((hns.below' hbYT).more hbYT.size) (And.intro (hbX.trans (hbYT.mono hbX.size)) (And.intro hok (And.intro hokx (And.intro harm (And.intro hoff hnl))))))))
      have HF := Lib.hid (And.intro hF (fun k hk => Nat.le_trans (Nat.le_trans hwr.size hbn.size) (hF' k hk)))
      clear HQ hp hF hok harm hoff hwr hFl hna hbn hpq hF' hH' hbc hpx hHx hgx hpq2 hns hbX hokx hnm hRl hnb hby hbt hbYT hnl HS
      go_wp2_with fail
      go_loopw [11] (fun x11 wv => ∃ i : Nat, i ≤ nl ∧ x11 = .int .i64 (i : Int) ∧ Below wT.heap.size wT wv) (fun x11 _ => nl - (intOf x11).toNat)
      case atStart => exact ⟨0, by omega, rfl, Below.refl _ _⟩
      case round =>
        obtain ⟨i, hi, rfl, hbv⟩ := hrel
        by_cases hlt : i < nl
        · obtain ⟨⟨x, f⟩, hx⟩ : ∃ q, s.R[i]? = some q := ⟨_, List.getElem?_eq_getElem (by rw [HV.out.2.2.2.2.2.2.2.2]; exact hlt)⟩
          obtain ⟨hk1, hk2, hu1, hu2, hfs, hxn⟩ := sure_facts HV.out.2.2.2.2.1 hx
          have hxl := HV.out.2.1.nm (x, f) (List.mem_of_getElem? hx)
          obtain ⟨b1, o1, rfl, hcx⟩ : ∃ b1 o1, An = some ⟨b1, o1, none⟩ ∧ ∀ W, Below wT.heap.size wT W → W.cell? ⟨b1, o1 + i, none⟩ = some (.string ⟨x.toArray⟩) := by
            obtain ⟨b1, o1, e, _⟩ := cellAt1 HV.out.2.2.1 hxn
            refine ⟨b1, o1, e, fun W hW => ?_⟩
            obtain ⟨b2, o2, e2, h⟩ := cellAt1 (HV.out.2.2.1.below' hW) hxn
            rw [e] at e2
            cases e2
            exact h
          have hx0 : (0 : Int) ≤ (i : Int) := by omega
          have hx1 : (i : Int) < (nl : Int) := by omega
          have cx := hcx wr hbv
          have HK := Lib.hid (And.intro hk1 (And.intro hk2 (And.intro hu1 (And.intro hu2 (And.intro hcx (And.intro hxl hbv))))))
          clear hk1 hk2 hu1 hu2 hcx hxl hxn hx
          go_wp2_with fail
          refine (Read_some wr q F' H' s j (HV.out.2.1.below hbv) HV.out.2.2.2.2.1 x HK.out.2.2.2.2.2.1 HK.out.1 HV.out.2.2.2.2.2.2.2.1).mono ?_
          rintro e wa ⟨Aa, ca, rfl, hsa, hca, hba⟩
          have hbva := hbv.trans (hba.mono hbv.size)
          have cx1 := HK.out.2.2.2.2.1 wa hbva
          clear cx
          go_wp2_with fail
          refine (Read_some wa p F Hx (s.crash []) j (HV.out.1.below hbva) HV.out.2.2.2.2.2.1 x HK.out.2.2.2.2.2.1 HK.out.2.1 rfl).mono ?_
          rintro e wb ⟨Ab, cb, rfl, hsb, hcb, hbb⟩
          have hbvb := hbva.trans (hbb.mono hbva.size)
          have cx2 := HK.out.2.2.2.2.1 wb hbvb
          clear cx1
          go_wp2_with fail
          refine (Sure_any wb q F' H' s (HV.out.2.1.below hbvb) x HK.out.2.2.2.2.2.1).mono ?_
          rintro e wc ⟨rfl, rfl⟩
          rw [HK.out.2.2.1]
          have hsa2 := (hsa.below' hbb).more hbb.size
          have hlt2 : (f.b.take f.s).length = f.s := by rw [List.length_take]; exact Nat.min_eq_left hfs
          try dsimp only at hcb
          try dsimp only
          rw [hlt2] at hcb
          try rw [hlt2]
          have cv1 := convB hsb f.s cb hlt2.symm
          have cv2 := convB (l := f.b.take f.s) (show Sl wc wc.heap.size Aa (bv (f.b.take f.s)) by rw [← bv_take]; exact hsa2.tk _) f.s ca hlt2.symm
          have e1 := cellB cx2
          obtain ⟨fl, hfl⟩ : ∃ fl, f.b.length = fl := ⟨_, rfl⟩
          obtain ⟨fs, hfse⟩ : ∃ fs, f.s = fs := ⟨_, rfl⟩
          rw [hfl] at hca hfs ⊢
          rw [hfse] at hfs hcb ⊢
          rw [hfse] at cv1 cv2
          have hd5 : decide (fl < fs) = false := by simp; omega
          have HG := Lib.hid (And.intro hbvb hfse)
          have hcs : fs ≤ ca := Nat.le_trans hfs hca
          clear hsa hsb hsa2 hlt2 hbva hbvb hba hbb cx2 hbv hfl hfse
          have hS0 : KB wc.heap wc.drew := KB.refl _
          go_wp2_with fail
          refine bstartS (KB wc.heap) (by kernel_rfl) ?_
          refine btakeS 0 (oi := _) (v := ?_) (by simp only [List.getElem?_toArray, List.getElem?_cons_zero]; rfl) (by kernel_rfl) (by exact fun _ _ _ h => h) (by first | assumption | exact KB.refl _) (.inl ⟨by rfl, fun W hW => ?_⟩) ?_; rotate_left
          · (go_simp; first | done | with_reducible rfl)
          try simp only [Act.put, List.setIfInBounds_toArray, List.set_cons_zero, List.set_cons_succ]
          refine btakeS 1 (oi := _) (v := ?_) (by simp only [List.getElem?_toArray, List.getElem?_cons_succ, List.getElem?_cons_zero]; rfl) (by kernel_rfl) (by exact fun _ _ _ h => h) (by first | assumption | exact KB.refl _) (.inl ⟨by rfl, fun W hW => ?_⟩) ?_; rotate_left
          · (go_simp; first | done | with_reducible rfl)
          try simp only [Act.put, List.setIfInBounds_toArray, List.set_cons_zero, List.set_cons_succ]
          refine btakeS 2 (oi := _) (v := ?_) (by simp only [List.getElem?_toArray, List.getElem?_cons_succ, List.getElem?_cons_zero]; rfl) (by kernel_rfl) (by exact fun _ _ _ h => h) (by first | assumption | exact KB.refl _) (.inl ⟨by rfl, fun W hW => ?_⟩) ?_; rotate_left
          · (go_simp; first | done | with_reducible rfl)
          try simp only [Act.put, List.setIfInBounds_toArray, List.set_cons_zero, List.set_cons_succ]
          refine btakeS 3 (oi := _) (v := ?_) (by simp only [List.getElem?_toArray, List.getElem?_cons_succ, List.getElem?_cons_zero]; rfl) (by kernel_rfl) (by exact fun _ _ _ h => h) (by first | assumption | exact KB.refl _) (.inl ⟨by rfl, fun W hW => ?_⟩) ?_; rotate_left
          · (go_simp; first | done | with_reducible rfl)
          try simp only [Act.put, List.setIfInBounds_toArray, List.set_cons_zero, List.set_cons_succ]
          refine btakeS 4 (oi := _) (v := ?_) (by simp only [List.getElem?_toArray, List.getElem?_cons_succ, List.getElem?_cons_zero]; rfl) (by kernel_rfl) (by exact fun _ _ _ h => h) (by first | assumption | exact KB.refl _) (.inl ⟨by rfl, fun W hW => ?_⟩) ?_; rotate_left
          · (go_simp; first | done | with_reducible rfl)
          try simp only [Act.put, List.setIfInBounds_toArray, List.set_cons_zero, List.set_cons_succ]
          refine btakeS 5 (oi := _) (v := ?_) (by simp only [List.getElem?_toArray, List.getElem?_cons_succ, List.getElem?_cons_zero]; rfl) (by kernel_rfl) (by exact fun _ _ _ h => h) (by first | assumption | exact KB.refl _) (.inl ⟨by rfl, fun W hW => ?_⟩) ?_; rotate_left
          · (go_simp; first | done | with_reducible rfl)
          try simp only [Act.put, List.setIfInBounds_toArray, List.set_cons_zero, List.set_cons_succ]
          refine btakeS 6 (oi := _) (v := ?_) (by simp only [List.getElem?_toArray, List.getElem?_cons_succ, List.getElem?_cons_zero]; rfl) (by kernel_rfl) (by exact fun _ _ _ h => h) (by first | assumption | exact KB.refl _) (.inl ⟨by rfl, fun W hW => ?_⟩) ?_; rotate_left
          · (go_simp; first | done | with_reducible rfl)
          try simp only [Act.put, List.setIfInBounds_toArray, List.set_cons_zero, List.set_cons_succ]
          refine btakeS 7 (oi := _) (v := ?_) (by simp only [List.getElem?_toArray, List.getElem?_cons_succ, List.getElem?_cons_zero]; rfl) (by kernel_rfl) (by exact fun _ _ _ h => h) (by first | assumption | exact KB.refl _) (.inl ⟨by rfl, fun W hW => ?_⟩) ?_; rotate_left
          · (go_simp; first | done | with_reducible rfl)
          try simp only [Act.put, List.setIfInBounds_toArray, List.set_cons_zero, List.set_cons_succ]
          refine btakeS 8 (oi := _) (v := ?_) (by simp only [List.getElem?_toArray, List.getElem?_cons_succ, List.getElem?_cons_zero]; rfl) (by kernel_rfl) (by exact fun _ _ _ h => h) (by first | assumption | exact KB.refl _) (.inl ⟨by rfl, fun W hW => ?_⟩) ?_; rotate_left
          · (go_simp; first | done | with_reducible rfl)
          try simp only [Act.put, List.setIfInBounds_toArray, List.set_cons_zero, List.set_cons_succ]
          refine btakeS 9 (oi := _) (v := ?_) (by simp only [List.getElem?_toArray, List.getElem?_cons_succ, List.getElem?_cons_zero]; rfl) (by kernel_rfl) (by exact fun _ _ _ h => h) (by first | assumption | exact KB.refl _) (.inl ⟨by rfl, fun W hW => ?_⟩) ?_; rotate_left
          · (go_simp; first | done | with_reducible rfl)
          try simp only [Act.put, List.setIfInBounds_toArray, List.set_cons_zero, List.set_cons_succ]
          refine btakeS 10 (oi := _) (v := ?_) (by simp only [List.getElem?_toArray, List.getElem?_cons_succ, List.getElem?_cons_zero]; rfl) (by kernel_rfl) (by exact fun _ _ _ h => h) (by first | assumption | exact KB.refl _) (.inl ⟨by rfl, fun W hW => ?_⟩) ?_; rotate_left
          · (go_simp; first | done | with_reducible rfl)
          try simp only [Act.put, List.setIfInBounds_toArray, List.set_cons_zero, List.set_cons_succ]
          refine btakeS 11 (oi := _) (v := ?_) (by simp only [List.getElem?_toArray, List.getElem?_cons_succ, List.getElem?_cons_zero]; rfl) (by kernel_rfl) (by exact fun _ _ _ h => h) (by first | assumption | exact KB.refl _) (.inl ⟨by rfl, fun W hW => ?_⟩) ?_; rotate_left
          · (go_simp; first | done | with_reducible rfl)
          try simp only [Act.put, List.setIfInBounds_toArray, List.set_cons_zero, List.set_cons_succ]
          refine btakeS 12 (oi := _) (v := ?_) (by simp only [List.getElem?_toArray, List.getElem?_cons_succ, List.getElem?_cons_zero]; rfl) (by kernel_rfl) (by exact fun _ _ _ h => h) (by first | assumption | exact KB.refl _) (.inl ⟨by rfl, fun W hW => ?_⟩) ?_; rotate_left
          · (go_simp; first | done | with_reducible rfl)
          try simp only [Act.put, List.setIfInBounds_toArray, List.set_cons_zero, List.set_cons_succ]
          refine btakeS 13 (oi := _) (v := ?_) (by simp only [List.getElem?_toArray, List.getElem?_cons_succ, List.getElem?_cons_zero]; rfl) (by kernel_rfl) (by exact fun _ _ _ h => h) (by first | assumption | exact KB.refl _) (.inl ⟨by rfl, fun W hW => ?_⟩) ?_; rotate_left
          · refine Eq.trans (exec_pre1B (x := .tmp 111) (y := .tmp 112) (A := Aa) (m := fl) (c := ca) (j := fs) ?_ ?_ ?_ hcs _) ?_ <;> first | rfl | with_reducible rfl
          try simp only [Act.put, List.setIfInBounds_toArray, List.set_cons_zero, List.set_cons_succ]
          refine btakeS 14 (oi := _) (v := ?_) (by simp only [List.getElem?_toArray, List.getElem?_cons_succ, List.getElem?_cons_zero]; rfl) (by kernel_rfl) (by exact fun _ _ _ h => h) (by first | assumption | exact KB.refl _) (.inl ⟨by rfl, fun W hW => ?_⟩) ?_; rotate_left
          · (go_simp; first | done | with_reducible rfl)
          try simp only [Act.put, List.setIfInBounds_toArray, List.set_cons_zero, List.set_cons_succ]
          refine btakeS 15 (oi := _) (v := ?_) (by simp only [List.getElem?_toArray, List.getElem?_cons_succ, List.getElem?_cons_zero]; rfl) (by kernel_rfl) (by exact fun _ _ _ h => h) (by first | assumption | exact KB.refl _) (.inl ⟨by rfl, fun W hW => ?_⟩) ?_; rotate_left
          · (go_simp; first | done | with_reducible rfl)
          try simp only [Act.put, List.setIfInBounds_toArray, List.set_cons_zero, List.set_cons_succ]
          refine btakeS 16 (oi := _) (v := ?_) (by simp only [List.getElem?_toArray, List.getElem?_cons_succ, List.getElem?_cons_zero]; rfl) (by kernel_rfl) (by exact fun _ _ _ h => h) (by first | assumption | exact KB.refl _) (.inl ⟨by rfl, fun W hW => ?_⟩) ?_; rotate_left
          · (go_simp; first | done | with_reducible rfl)
          try simp only [Act.put, List.setIfInBounds_toArray, List.set_cons_zero, List.set_cons_succ]
          refine btakeS 17 (oi := _) (v := ?_) (by simp only [List.getElem?_toArray, List.getElem?_cons_succ, List.getElem?_cons_zero]; rfl) (by kernel_rfl) (by exact fun _ _ _ h => h) (by first | assumption | exact KB.refl _) (.inl ⟨by rfl, fun W hW => ?_⟩) ?_; rotate_left
          · (go_simp; first | done | with_reducible rfl)
          try simp only [Act.put, List.setIfInBounds_toArray, List.set_cons_zero, List.set_cons_succ]
          refine btakeS 18 (oi := _) (v := ?_) (by simp only [List.getElem?_toArray, List.getElem?_cons_succ, List.getElem?_cons_zero]; rfl) (by kernel_rfl) (by exact fun _ _ _ h => h) (by first | assumption | exact KB.refl _) (.inl ⟨by rfl, fun W hW => ?_⟩) ?_; rotate_left
          · (go_simp; first | done | with_reducible rfl)
          try simp only [Act.put, List.setIfInBounds_toArray, List.set_cons_zero, List.set_cons_succ]
          refine btakeS 19 (oi := _) (v := ?_) (by simp only [List.getElem?_toArray, List.getElem?_cons_succ, List.getElem?_cons_zero]; rfl) (by kernel_rfl) (by exact fun _ _ _ h => h) (by first | assumption | exact KB.refl _) (.inl ⟨by rfl, fun W hW => ?_⟩) ?_; rotate_left
          · (go_simp; first | done | with_reducible rfl)
          try simp only [Act.put, List.setIfInBounds_toArray, List.set_cons_zero, List.set_cons_succ]
          refine btakeS 20 (oi := _) (v := ?_) (by simp only [List.getElem?_toArray, List.getElem?_cons_succ, List.getElem?_cons_zero]; rfl) (by kernel_rfl) (by exact fun _ _ _ h => h) (by first | assumption | exact KB.refl _) (.inl ⟨by rfl, fun W hW => ?_⟩) ?_; rotate_left
          · (go_simp; first | done | with_reducible rfl)
          try simp only [Act.put, List.setIfInBounds_toArray, List.set_cons_zero, List.set_cons_succ]
          refine btakeS 21 (oi := _) (v := ?_) (by simp only [List.getElem?_toArray, List.getElem?_cons_succ, List.getElem?_cons_zero]; rfl) (by kernel_rfl) (by exact fun _ _ _ h => h) (by first | assumption | exact KB.refl _) (.inl ⟨by rfl, fun W hW => ?_⟩) ?_; rotate_left
          · (go_simp; first | done | with_reducible rfl)
          try simp only [Act.put, List.setIfInBounds_toArray, List.set_cons_zero, List.set_cons_succ]
          refine btakeS 22 (oi := _) (v := ?_) (by simp only [List.getElem?_toArray, List.getElem?_cons_succ, List.getElem?_cons_zero]; rfl) (by kernel_rfl) (by exact fun _ _ _ h => h) (by first | assumption | exact KB.refl _) (.inl ⟨by rfl, fun W hW => ?_⟩) ?_; rotate_left
          · (go_simp; first | done | with_reducible rfl)
          try simp only [Act.put, List.setIfInBounds_toArray, List.set_cons_zero, List.set_cons_succ]
          refine btakeS 24 (oi := _) (v := ?_) (by simp only [List.getElem?_toArray, List.getElem?_cons_succ, List.getElem?_cons_zero]; rfl) (by kernel_rfl) (by exact fun _ _ _ h => h) (by first | assumption | exact KB.refl _) (.inl ⟨by rfl, fun W hW => ?_⟩) ?_; rotate_left
          · (go_simp; first | done | with_reducible rfl)
          try simp only [Act.put, List.setIfInBounds_toArray, List.set_cons_zero, List.set_cons_succ]
          -- 23: (*newsreel/disk.Disk).Sure
          refine bopS 23 (o := _) (by simp only [List.getElem?_toArray, List.getElem?_cons_succ, List.getElem?_cons_zero]; rfl) (by kernel_rfl) (by rfl) (fun K hK => ?_)
          go_simp
          refine (Sure_any wc.drew p F Hx (s.crash []) (HV.out.1.below HG.out.1).drew x HK.out.2.2.2.2.2.1).mono ?_
          rintro e wd ⟨rfl, rfl⟩
          rw [HK.out.2.2.2.1, HG.out.2]
          have hkb := hS0
          refine hK.out _ _ hkb ?_; clear hK K
          try simp only [Act.put, List.setIfInBounds_toArray, List.set_cons_zero, List.set_cons_succ]
          refine btakeS 25 (oi := _) (v := ?_) (by simp only [List.getElem?_toArray, List.getElem?_cons_succ, List.getElem?_cons_zero]; rfl) (by kernel_rfl) (by exact fun _ _ _ h => h) (by first | assumption | exact KB.refl _) (.inl ⟨by rfl, fun W hW => ?_⟩) ?_; rotate_left
          · (go_simp; first | done | with_reducible rfl)
          try simp only [Act.put, List.setIfInBounds_toArray, List.set_cons_zero, List.set_cons_succ]
          refine btakeS 26 (oi := _) (v := ?_) (by simp only [List.getElem?_toArray, List.getElem?_cons_succ, List.getElem?_cons_zero]; rfl) (by kernel_rfl) (by exact fun _ _ _ h => h) (by first | assumption | exact KB.refl _) (.inl ⟨by rfl, fun W hW => ?_⟩) ?_; rotate_left
          · (go_simp; first | done | with_reducible rfl)
          try simp only [Act.put, List.setIfInBounds_toArray, List.set_cons_zero, List.set_cons_succ]
          refine bdoneS (by kernel_rfl) ?_
          go_wp2_with fail
          go_roundw
          case rel => exact ⟨i + 1, hlt, by go_num, HG.out.1.drew⟩
          case measure => simp [intOf]; omega
        · obtain rfl : i = nl := by omega
          have HW := Lib.hid hbv
          clear hbv hlt hi
          have hpr := HV.out.1.below HW.out
          go_wp2_with fail
          refine (Copy_any wr p F Hx (s.crash []) hpr).mono ?_
          rintro e wz ⟨q2, F3, H3, rfl, hpz, hF3, hH3, hbz⟩
          have hpr2 := hpr.below hbz
          have hnz := ((HV.out.2.2.1.below' HW.out).below' hbz)
          have HZ := Lib.hid (And.intro hpz (And.intro hF3 (And.intro hbz (And.intro hpr2 (And.intro hnz hpr)))))
          clear hpz hF3 hH3 hbz hpr2 hnz hpr
          go_wp2_with fail
          have nbz := Sl.ints wz 3 [3, 5] (0, 0)
          refine (Crash_any _ q2 F3 H3 (s.crash []) j (HZ.out.1.al _) HV.out.2.2.2.2.2.1 (by omega) (some ⟨wz.heap.size, 0, none⟩) 2 [3, 5] nbz (.inr HZ.out.1.newNF) (by simp [maxLen])).mono ?_
          rintro e wq ⟨rfl, Hq, hpq3, hHq, hgq⟩
          rw [crash_again HV.out.2.2.2.2.1] at hpq3
          have hba := (Below.refl wz.heap.size wz).alloc (Nat.le_refl _) (.cells #[Value.int .i64 3, .int .i64 5] 3)
          have hF3 := HZ.out.2.1
          have hbz := HZ.out.2.2.1
          have hpd := (HZ.out.2.2.2.1.below hba).grew hgq (fun k hk hk2 => by have h1 := HZ.out.2.2.2.2.2.lt k hk; have h2 := hF3 k hk2; omega)
          have hna := ((HZ.out.2.2.2.2.1.more (Nat.le_trans HW.out.size hbz.size)).below' hba)
          have hnq : Sl wq wq.heap.size An (s.names.map str) := by
            rcases HV.out.2.2.1 with h | ⟨g1, o1, e, h3, _⟩
            · exact .inl h
            · refine Sl.grewF (F := F3) (hna.more hba.size) hgq (fun a ha hk2 => ?_)
              have h2 := hF3 _ hk2
              have h1 := HW.out.size
              rw [e] at ha
              cases ha
              dsimp only at h2
              omega
          have hbw : Below w.heap.size w wq := by
            have h1 := HV.out.2.2.2.1.trans (HW.out.mono HV.out.2.2.2.1.size)
            have h2 := h1.trans (hbz.mono h1.size)
            have h3 := h2.trans (hba.mono h2.size)
            exact hgq.belowB h3 (Nat.le_refl _) (fun k hk => Nat.le_trans h1.size (hF3 k hk))
          have HY := Lib.hid (And.intro hpq3 (And.intro hpd (And.intro hnq hbw)))
          clear nbz hpq3 hHq hgq hba hF3 hbz hpd hna hnq hbw
          go_wp2_with fail
          go_loopw [18] (fun x18 wv => ∃ k : Nat, k ≤ i ∧ x18 = .int .i64 (k : Int) ∧ Below wq.heap.size wq wv) (fun x18 _ => i - (intOf x18).toNat)
          case atStart => exact ⟨0, by omega, rfl, Below.refl _ _⟩
          case round =>
            obtain ⟨k, hk, rfl, hbv⟩ := hrel
            by_cases hlt : k < i
            · obtain ⟨⟨x, f⟩, hx⟩ : ∃ q, s.R[k]? = some q := ⟨_, List.getElem?_eq_getElem (by rw [HV.out.2.2.2.2.2.2.2.2]; exact hlt)⟩
              obtain ⟨hk1, hk2, hu1, hu2, hfs, hxn⟩ := sure_facts HV.out.2.2.2.2.1 hx
              have hxl := HV.out.2.1.nm (x, f) (List.mem_of_getElem? hx)
              obtain ⟨b1, o1, rfl, hcx⟩ : ∃ b1 o1, An = some ⟨b1, o1, none⟩ ∧ ∀ W, Below wq.heap.size wq W → W.cell? ⟨b1, o1 + k, none⟩ = some (.string ⟨x.toArray⟩) := by
                obtain ⟨b1, o1, e, _⟩ := cellAt1 HY.out.2.2.1 hxn
                refine ⟨b1, o1, e, fun W hW => ?_⟩
                obtain ⟨b2, o2, e2, h⟩ := cellAt1 (HY.out.2.2.1.below' hW) hxn
                rw [e] at e2
                cases e2
                exact h
              have hx0 : (0 : Int) ≤ (k : Int) := by omega
              have hx1 : (k : Int) < (i : Int) := by omega
              have cx := hcx _ hbv
              have HK := Lib.hid (And.intro hk2 (And.intro hcx (And.intro hxl hbv)))
              clear hk1 hk2 hu1 hu2 hcx hxl hxn hx hfs
              obtain ⟨fl, hfl⟩ : ∃ fl, (f.b.take f.s).length = fl := ⟨_, rfl⟩
              obtain ⟨tb, htb⟩ : ∃ tb, f.b.take f.s = tb := ⟨_, rfl⟩
              rw [htb] at HK hfl
              have HFl := Lib.hid hfl
              clear hfl htb
              go_wp2_with fail
              refine (Read_some _ p F Hx (s.crash []) j (HY.out.2.1.below HK.out.2.2.2) HV.out.2.2.2.2.2.1 x HK.out.2.2.1 HK.out.1 rfl).mono ?_
              rintro e wa ⟨Aa, ca, rfl, hsa, hca, hba⟩
              have hbva := hbv.trans (hba.mono hbv.size)
              have cx1 := HK.out.2.1 wa hbva
              clear cx
              dsimp only
              rw [HFl.out]
              go_wp2_with fail
              refine (Read_some wa q2 F3 Hq (s.crash []) j (HY.out.1.below hbva) HV.out.2.2.2.2.2.1 x HK.out.2.2.1 HK.out.1 rfl).mono ?_
              rintro e wb ⟨Ab, cb, rfl, hsb, hcb, hbb⟩
              have hbvb := hbva.trans (hbb.mono hbva.size)
              have hsa2 := (hsa.below' hbb).more hbb.size
              have cv1 := conv hsb fl cb HFl.out.symm
              have cv2 := conv hsa2 fl ca HFl.out.symm
              dsimp only
              rw [HFl.out]
              have HG := Lib.hid hbvb
              clear hsa hsb hsa2 hca hcb hba hbb hbva hbvb cx1 hbv
              go_wp2_with fail
              go_roundw
              case rel => exact ⟨k + 1, hlt, by go_num, HG.out⟩
              case measure => simp [intOf]; omega
            · obtain rfl : k = i := by omega
              go_wp2_with fail
              refine (Used_any _ p F Hx (s.crash []) (HY.out.2.1.below hbv)).mono ?_
              rintro e wa ⟨rfl, rfl⟩
              go_wp2_with fail
              refine (Used_any _ q2 F3 Hq (s.crash []) (HY.out.1.below hbv)).mono ?_
              rintro e wb ⟨rfl, rfl⟩
              go_wp2_with fail
              go_ret
              exact ⟨rfl, HY.out.2.2.2.trans (hbv.mono HY.out.2.2.2.size)⟩
end Go.Proofs.Ythnbnhlfiehihaa
/- 'DiskSure': whatever comes in, the law returns true and leaves it as it was. No condition. -/
namespace Go.Proofs.Ythnbnhlfiehihaa.diskSure
open Go.RowKit

theorem walk {H : Type} {enc : TypeId × Value → H} (W : World) (args : Array Value) (ds : List (DataW H)) (p : List MemPlace) (h : Args enc Try.f6 W args ds p) :
    Calls Try.prog 6 args W fun e W' => e = .returned (.bool true) ∧ Below W.heap.size W W' := by
  obtain ⟨base, vs, rfl, m0⟩ := h.many (ts := [37, 5]) (by rw [Try.params6])
  obtain ⟨v0, vs1, d0, ds1, p0, q0, rfl, rfl, o0, m1⟩ := m0.cons
  obtain ⟨v1, vs2, d1, ds2, p1, q1, rfl, rfl, o1, m2⟩ := m1.cons
  obtain ⟨rfl, rfl⟩ := m2.nil
  obtain ⟨A0, c0, l0, rfl, h0a, h0b, h0c, h0e⟩ := o0.aks
  obtain ⟨n1, rfl, h1a⟩ := o1.u8 Try.underlying5
  exact DiskSure_walk W A0 c0 l0 h0a h0b h0e n1 h1a

theorem types : ∀ t ∈ Try.f6.params.toList, Try.prog.readableRec t = true ∧ t < Try.prog.types.size := by
  rw [Try.params6]
  intro t ht
  simp only [List.mem_cons, List.not_mem_nil, or_false] at ht
  rcases ht with rfl | rfl
  all_goals exact ⟨by kernel_rfl, of_decide_eq_true (by kernel_rfl)⟩
theorem fits (H : Type) (ds : List (DataW H)) (hl : ds.length = Try.f6.params.toList.length) : Rows.diskSureSpec.fn H (ds ++ []) = { results := [.lit (.bool true)], args := ds } := by
  rw [Try.params6] at hl
  match ds, hl with
  | [d0, d1], _ => rfl

set_option maxRecDepth 100000 in
theorem over : Rows.diskSureRow.holds Try.pinned (OpenSpec.ofChange Rows.diskSureSpec) :=
  OpenClaim.holds_of_wide 6 Try.f6 rfl rfl rfl rfl rfl rfl rfl ⟨rfl, rfl, rfl, rfl, rfl⟩ rfl rfl rfl rfl rfl (by kernel_rfl) Try.func6 (by kernel_rfl)
    (of_decide_eq_true (by kernel_rfl)) (by unfold Func.isWrapper; first | (rw [if_pos (by decide +kernel)]; kernel_rfl) | (rw [if_neg (by decide +kernel)]; exact ⟨rfl, rfl⟩))
    (fun os started H enc _ => lifted 6 Try.f6 Rows.diskSureSpec Try.func6 (by kernel_rfl) rfl rfl types fits os started H enc
      (ChangeSpec.witness6 (enc := enc) (C := Try.checked) false ⟨#[], #[.slice none 0 0, .int .u8 0], []⟩ 8 (by kernel_rfl) (by kernel_rfl) (by kernel_rfl) (by kernel_rfl))
      (fun W args ds p h => walk W args ds p h))

theorem proved : Rows.DiskSureSaid := over
end Go.Proofs.Ythnbnhlfiehihaa.diskSure
