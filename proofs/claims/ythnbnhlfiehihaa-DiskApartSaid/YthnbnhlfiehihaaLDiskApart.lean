/- Disks: copies, where disks stand side by side. -/
import Derived.Test.YthnbnhlfiehihaaM05
import Derived.Test.YthnbnhlfiehihaaM14
namespace Go.Proofs.Ythnbnhlfiehihaa
open Go.RowKit Go.Maps
set_option maxRecDepth 20000

theorem Pool.PCopy {w0 W : World} {L : List Ob} {i p : Nat} {s : DK} (hP : Pool w0 L W) (hi : L[i]? = some (Ob.P p s)) :
    Calls Try.prog 23 #[.pointer (some ⟨p, 0, none⟩)] W fun e w' => ∃ q, e = .returned (.pointer (some ⟨q, 0, none⟩)) ∧ Pool w0 (L ++ [Ob.P q s]) w' := by
  obtain ⟨F, H, ho, hF, hu⟩ := hP.copy hi
  exact (Copy_any W p F H s (at_P.1 ho)).mono fun e w' ⟨q, F', H', h1, h2, h3, h4, h5⟩ => ⟨q, h1, hu w' F' H' (Ob.P q s) (at_P.2 h2) h5 h3 h4⟩
theorem Pool.DCopy {w0 W : World} {L : List Ob} {i p n : Nat} {s : DK} (hP : Pool w0 L W) (hi : L[i]? = some (Ob.D p s)) (hok : s.ok n) (hn : n < 1000000) :
    Calls Try.prog 24 #[.pointer (some ⟨p, 0, none⟩)] W fun e w' => ∃ q, e = .returned (.pointer (some ⟨q, 0, none⟩)) ∧ Pool w0 (L ++ [Ob.D q s]) w' := by
  obtain ⟨F, H, ho, hF, hu⟩ := hP.copy hi
  exact (DCopy_any W p F H s n (at_D.1 ho) hok hn).mono fun e w' ⟨q, F', H', h1, h2, h3, h4, h5⟩ => ⟨q, h1, hu w' F' H' (Ob.D q s) (at_D.2 h2) h5 h3 h4⟩
end Go.Proofs.Ythnbnhlfiehihaa
/- 'DiskApart': the walk of the law. -/
namespace Go.Proofs.Ythnbnhlfiehihaa
open Go.RowKit Go.Maps
set_option maxRecDepth 20000

set_option maxRecDepth 100000 in
set_option maxHeartbeats 16000000 in
theorem DiskApart_walk (w : World) (A1 : Option Addr) (c1 : Nat) (l1 : List AK) (hS1 : Sl w w.heap.size A1 (ak l1)) (hc1 : l1.length ≤ c1) (hok1 : ∀ a ∈ l1, a.ok w) (A2 : Option Addr) (c2 : Nat) (l2 : List AK) (hS2 : Sl w w.heap.size A2 (ak l2)) (hc2 : l2.length ≤ c2) (hok2 : ∀ a ∈ l2, a.ok w) (A3 : Option Addr) (c3 : Nat) (l3 : List AK) (hS3 : Sl w w.heap.size A3 (ak l3)) (hc3 : l3.length ≤ c3) (hok3 : ∀ a ∈ l3, a.ok w) (room : Nat) (hr : room < 256) :
    Calls Try.prog 5 #[.slice A1 l1.length c1, .slice A2 l2.length c2, .slice A3 l3.length c3, .int .u8 (room : Int)] w fun e w' => e = .returned (.bool true) ∧ Below w.heap.size w w' := by
  have hK := known_any w
  obtain ⟨k, hk⟩ : ∃ m, l1.length = m := ⟨_, rfl⟩
  obtain ⟨m, hm⟩ : ∃ m, l2.length = m := ⟨_, rfl⟩
  obtain ⟨n, hn⟩ : ∃ m, l3.length = m := ⟨_, rfl⟩
  rw [hk] at hc1 ⊢
  rw [hm] at hc2 ⊢
  rw [hn] at hc3 ⊢
  have Hl := Lib.hid (And.intro hS1 (And.intro hok1 hk))
  have Hm := Lib.hid (And.intro hS2 (And.intro hok2 hm))
  have Hn := Lib.hid (And.intro hS3 (And.intro hok3 hn))
  clear hS1 hS2 hS3 hok1 hok2 hok3 hk hm hn
  by_cases hbig : 40 < k ∨ 40 < m ∨ 40 < n
  · skip
    go_enter Try.func5, Try.ntmps5
    by_cases h1 : 40 < k
    · have hd1 : decide ((40 : Int) < (k : Int)) = true := by simp; omega
      go_wp2_with (go_at_call 7; refine hK.mono ?_; rintro e w1 ⟨rfl, hb1⟩)
      go_ret
      exact ⟨rfl, hb1⟩
    · have hd1 : decide ((40 : Int) < (k : Int)) = false := by simp; omega
      by_cases h2 : 40 < m
      · have hd2 : decide ((40 : Int) < (m : Int)) = true := by simp; omega
        go_wp2_with (go_at_call 7; refine hK.mono ?_; rintro e w1 ⟨rfl, hb1⟩)
        go_ret
        exact ⟨rfl, hb1⟩
      · have hd2 : decide ((40 : Int) < (m : Int)) = false := by simp; omega
        have hd3 : decide ((40 : Int) < (n : Int)) = true := by simp; omega
        go_wp2_with (go_at_call 7; refine hK.mono ?_; rintro e w1 ⟨rfl, hb1⟩)
        go_ret
        exact ⟨rfl, hb1⟩
  have hk40 : k ≤ 40 := by omega
  have hd1 : decide ((40 : Int) < (k : Int)) = false := by simp; omega
  have hd2 : decide ((40 : Int) < (m : Int)) = false := by simp; omega
  have hd3 : decide ((40 : Int) < (n : Int)) = false := by simp; omega
  go_enter Try.func5, Try.ntmps5
  go_wp2_with (go_at_call 7; refine hK.mono ?_; rintro e w1 ⟨rfl, hb1⟩)
  refine (New_any w1 (room : Int)).mono ?_
  rintro e w2 ⟨p, F, H, rfl, hp2, hH2, hb2⟩
  go_wp2_with fail
  refine (NewDisk_any w2 (room : Int)).mono ?_
  rintro e w3 ⟨d, F2, H2', rfl, hd3, hH3, hb3⟩
  have hq3 := Pool.start hb1 (hp2) hH2 hb2 hd3 hH3 hb3
  clear hp2 hH2 hb2 hd3 hH3 hb3
  have hok0 := DK.ok.new (room : Int)
  have HS := Lib.hid (And.intro hq3 hok0)
  obtain ⟨s0, hs0⟩ : ∃ s0, DK.new (room : Int) = s0 := ⟨_, rfl⟩
  rw [hs0] at HS
  clear hs0 hok0 hq3 hK hb1 hd1 hd2 hd3
  go_wp2_with fail
  go_loopw [11] (fun x11 wr => ∃ (j : Nat) (s : DK), j ≤ k ∧ x11 = .int .i64 (j : Int) ∧ s.ok j ∧ Pool w [Ob.P p s, Ob.D d s] wr) (fun x11 _ => k - (intOf x11).toNat)
  case atStart => exact ⟨0, s0, by omega, rfl, HS.out.2, HS.out.1⟩
  case round =>
    obtain ⟨j, s, hj, rfl, hok, hq⟩ := hrel
    have HQ := Lib.hid (And.intro hq hok)
    by_cases hlt : j < k
    · obtain ⟨a, ha⟩ : ∃ a, l1[j]? = some a := ⟨_, List.getElem?_eq_getElem (by rw [Hl.out.2.2]; exact hlt)⟩
      have hao := Hl.out.2.1 a (List.mem_of_getElem? ha)
      obtain ⟨b, o, rfl, c0, c1, c2, c3, c4, c5⟩ := hq.act Hl.out.1 ha
      have hx0 : (0 : Int) ≤ (j : Int) := by omega
      have hx1 : (j : Int) < (k : Int) := by omega
      have HO := Lib.hid hao
      clear hok hq ha hao
      by_cases hpk : 10 < a.ps.length
      · have hd4 : decide ((10 : Int) < (a.ps.length : Int)) = true := by simp; omega
        go_wp2_with fail
        go_ret
        exact ⟨rfl, HQ.out.1.wb⟩
      · have hd4 : decide ((10 : Int) < (a.ps.length : Int)) = false := by simp; omega
        go_wp2_with fail
        refine (play_any w wr _ 0 1 p d s j HQ.out.1 rfl rfl (by omega) HQ.out.2 (by omega) a HO.out).mono ?_
        rintro e w5 ⟨rfl, hq5⟩
        have hok5 := actK_ok HQ.out.2 HO.out.n0 HO.out.n1
        clear c0 c1 c2 c3 c4 c5 hd4
        go_wp2_with fail
        go_roundw
        case rel => exact ⟨j + 1, _, hlt, by go_num, hok5, hq5⟩
        case measure => simp [intOf]; omega
    · obtain rfl : j = k := by omega
      clear hok hq
      go_wp2_with fail
      refine (HQ.out.1.PCopy (i := 0) rfl).mono ?_
      rintro e w5 ⟨c, rfl, hq5⟩
      go_wp2_with fail
      refine (hq5.DCopy (i := 1) rfl HQ.out.2 (by omega)).mono ?_
      rintro e w6 ⟨x, rfl, hq6⟩
      go_wp2_with fail
      refine (hq6.alike (i := 2) (j := 3) rfl rfl HQ.out.2 (by omega)).mono ?_
      rintro e w7 ⟨rfl, hq7⟩
      have hok7 := HQ.out.2.more (m := 40) (by omega)
      have HT := Lib.hid (And.intro (show Pool w [Ob.P p s, Ob.D d s, Ob.P c s, Ob.D x s] w7 from hq7) hok7)
      clear hq5 hq6 hq7 hok7 HQ HS hlt hj hk40
      obtain ⟨mx, hmx, hmx'⟩ : ∃ mx : Nat, max (m : Int) (n : Int) = (mx : Int) ∧ mx = max m n := ⟨max m n, by omega, rfl⟩
      go_wp2_with fail
      go_loopw [14] (fun x14 wr => ∃ (j : Nat) (s1 s2 : DK), j ≤ mx ∧ x14 = .int .i64 (j : Int) ∧ s1.ok (j + 40) ∧ s2.ok (j + 40) ∧ Pool w [Ob.P p s1, Ob.D d s1, Ob.P c s2, Ob.D x s2] wr) (fun x14 _ => mx - (intOf x14).toNat)
      case atStart => exact ⟨0, s, s, by omega, rfl, HT.out.2, HT.out.2, HT.out.1⟩
      case round =>
        obtain ⟨j, s1, s2, hj, rfl, hok1, hok2, hq⟩ := hrel
        have HQ := Lib.hid (And.intro hq (And.intro hok1 hok2))
        have hx0 : (0 : Int) ≤ (j : Int) := by omega
        clear hq hok1 hok2 HT
        by_cases hlt : j < mx
        · have hdx : decide ((j : Int) < (mx : Int)) = true := by simp; omega
          clear hmx'
          by_cases hm : j < m
          · obtain ⟨am, ham⟩ : ∃ a, l2[j]? = some a := ⟨_, List.getElem?_eq_getElem (by rw [Hm.out.2.2]; exact hm)⟩
            have haom := Lib.hid (Hm.out.2.1 am (List.mem_of_getElem? ham))
            obtain ⟨bm, om, rfl, c0m, c1m, c2m, c3m, c4m, c5m⟩ := HQ.out.1.act Hm.out.1 ham
            have ym : (j : Int) < (m : Int) := by omega
            clear ham
            by_cases hkm : am.ps.length ≤ 10
            · have hdm : decide ((am.ps.length : Int) ≤ 10) = true := by simp; omega
              go_wp2_with fail
              refine (play_any w _ _ 0 1 p d _ (j + 40) HQ.out.1 rfl rfl (by omega) HQ.out.2.1 (by omega) am haom.out).mono ?_
              rintro e wm ⟨rfl, hqm⟩
              have hokm := actK_ok (a := am) HQ.out.2.1 haom.out.n0 haom.out.n1
              clear c0m c1m c2m c3m c4m c5m
              go_wp2_with fail
              refine (hqm.alike (i := 2) (j := 3) rfl rfl HQ.out.2.2 (by omega)).mono ?_
              rintro e vm ⟨rfl, hrm⟩
              have HR := Lib.hid (And.intro hrm (And.intro hokm HQ.out.2.2))
              clear hrm hqm hokm
              by_cases hn : j < n
              · obtain ⟨an, han⟩ : ∃ a, l3[j]? = some a := ⟨_, List.getElem?_eq_getElem (by rw [Hn.out.2.2]; exact hn)⟩
                have haon := Lib.hid (Hn.out.2.1 an (List.mem_of_getElem? han))
                obtain ⟨bn, on, rfl, c0n, c1n, c2n, c3n, c4n, c5n⟩ := HR.out.1.act Hn.out.1 han
                have yn : (j : Int) < (n : Int) := by omega
                clear han
                by_cases hkn : an.ps.length ≤ 10
                · have hdn : decide ((an.ps.length : Int) ≤ 10) = true := by simp; omega
                  go_wp2_with fail
                  refine (play_any w _ _ 2 3 c x _ (j + 40) HR.out.1 rfl rfl (by omega) HR.out.2.2 (by omega) an haon.out).mono ?_
                  rintro e wn ⟨rfl, hqn⟩
                  have hokn := actK_ok (a := an) HR.out.2.2 haon.out.n0 haon.out.n1
                  clear c0n c1n c2n c3n c4n c5n
                  go_wp2_with fail
                  refine (hqn.alike (i := 0) (j := 1) rfl rfl HR.out.2.1 (by omega)).mono ?_
                  rintro e vn ⟨rfl, hrn⟩
                  go_wp2_with fail
                  go_roundw
                  case rel => exact ⟨j + 1, _, _, by omega, by go_num, (HR.out.2.1.more (by omega)), (hokn.more (by omega)), hrn⟩
                  case measure => simp [intOf]; omega
                · have hdn : decide ((an.ps.length : Int) ≤ 10) = false := by simp; omega
                  go_wp2_with fail
                  refine (HR.out.1.alike (i := 0) (j := 1) rfl rfl HR.out.2.1 (by omega)).mono ?_
                  rintro e vn ⟨rfl, hrn⟩
                  clear c0n c1n c2n c3n c4n c5n
                  go_wp2_with fail
                  go_roundw
                  case rel => exact ⟨j + 1, _, _, by omega, by go_num, (HR.out.2.1.more (by omega)), (HR.out.2.2.more (by omega)), hrn⟩
                  case measure => simp [intOf]; omega
              · have hdn : decide ((j : Int) < (n : Int)) = false := by simp; omega
                go_wp2_with fail
                go_roundw
                case rel => exact ⟨j + 1, _, _, by omega, by go_num, (HR.out.2.1.more (by omega)), (HR.out.2.2.more (by omega)), HR.out.1⟩
                case measure => simp [intOf]; omega
            · have hdm : decide ((am.ps.length : Int) ≤ 10) = false := by simp; omega
              go_wp2_with fail
              refine (HQ.out.1.alike (i := 2) (j := 3) rfl rfl HQ.out.2.2 (by omega)).mono ?_
              rintro e vm ⟨rfl, hrm⟩
              clear c0m c1m c2m c3m c4m c5m
              have HR := Lib.hid (And.intro hrm (And.intro HQ.out.2.1 HQ.out.2.2))
              clear hrm
              by_cases hn : j < n
              · obtain ⟨an, han⟩ : ∃ a, l3[j]? = some a := ⟨_, List.getElem?_eq_getElem (by rw [Hn.out.2.2]; exact hn)⟩
                have haon := Lib.hid (Hn.out.2.1 an (List.mem_of_getElem? han))
                obtain ⟨bn, on, rfl, c0n, c1n, c2n, c3n, c4n, c5n⟩ := HR.out.1.act Hn.out.1 han
                have yn : (j : Int) < (n : Int) := by omega
                clear han
                by_cases hkn : an.ps.length ≤ 10
                · have hdn : decide ((an.ps.length : Int) ≤ 10) = true := by simp; omega
                  go_wp2_with fail
                  refine (play_any w _ _ 2 3 c x _ (j + 40) HR.out.1 rfl rfl (by omega) HR.out.2.2 (by omega) an haon.out).mono ?_
                  rintro e wn ⟨rfl, hqn⟩
                  have hokn := actK_ok (a := an) HR.out.2.2 haon.out.n0 haon.out.n1
                  clear c0n c1n c2n c3n c4n c5n
                  go_wp2_with fail
                  refine (hqn.alike (i := 0) (j := 1) rfl rfl HR.out.2.1 (by omega)).mono ?_
                  rintro e vn ⟨rfl, hrn⟩
                  go_wp2_with fail
                  go_roundw
                  case rel => exact ⟨j + 1, _, _, by omega, by go_num, (HR.out.2.1.more (by omega)), (hokn.more (by omega)), hrn⟩
                  case measure => simp [intOf]; omega
                · have hdn : decide ((an.ps.length : Int) ≤ 10) = false := by simp; omega
                  go_wp2_with fail
                  refine (HR.out.1.alike (i := 0) (j := 1) rfl rfl HR.out.2.1 (by omega)).mono ?_
                  rintro e vn ⟨rfl, hrn⟩
                  clear c0n c1n c2n c3n c4n c5n
                  go_wp2_with fail
                  go_roundw
                  case rel => exact ⟨j + 1, _, _, by omega, by go_num, (HR.out.2.1.more (by omega)), (HR.out.2.2.more (by omega)), hrn⟩
                  case measure => simp [intOf]; omega
              · have hdn : decide ((j : Int) < (n : Int)) = false := by simp; omega
                go_wp2_with fail
                go_roundw
                case rel => exact ⟨j + 1, _, _, by omega, by go_num, (HR.out.2.1.more (by omega)), (HR.out.2.2.more (by omega)), HR.out.1⟩
                case measure => simp [intOf]; omega
          · have hdm : decide ((j : Int) < (m : Int)) = false := by simp; omega
            have HR := Lib.hid HQ.out
            by_cases hn : j < n
            · obtain ⟨an, han⟩ : ∃ a, l3[j]? = some a := ⟨_, List.getElem?_eq_getElem (by rw [Hn.out.2.2]; exact hn)⟩
              have haon := Lib.hid (Hn.out.2.1 an (List.mem_of_getElem? han))
              obtain ⟨bn, on, rfl, c0n, c1n, c2n, c3n, c4n, c5n⟩ := HR.out.1.act Hn.out.1 han
              have yn : (j : Int) < (n : Int) := by omega
              clear han
              by_cases hkn : an.ps.length ≤ 10
              · have hdn : decide ((an.ps.length : Int) ≤ 10) = true := by simp; omega
                go_wp2_with fail
                refine (play_any w _ _ 2 3 c x _ (j + 40) HR.out.1 rfl rfl (by omega) HR.out.2.2 (by omega) an haon.out).mono ?_
                rintro e wn ⟨rfl, hqn⟩
                have hokn := actK_ok (a := an) HR.out.2.2 haon.out.n0 haon.out.n1
                clear c0n c1n c2n c3n c4n c5n
                go_wp2_with fail
                refine (hqn.alike (i := 0) (j := 1) rfl rfl HR.out.2.1 (by omega)).mono ?_
                rintro e vn ⟨rfl, hrn⟩
                go_wp2_with fail
                go_roundw
                case rel => exact ⟨j + 1, _, _, by omega, by go_num, (HR.out.2.1.more (by omega)), (hokn.more (by omega)), hrn⟩
                case measure => simp [intOf]; omega
              · have hdn : decide ((an.ps.length : Int) ≤ 10) = false := by simp; omega
                go_wp2_with fail
                refine (HR.out.1.alike (i := 0) (j := 1) rfl rfl HR.out.2.1 (by omega)).mono ?_
                rintro e vn ⟨rfl, hrn⟩
                clear c0n c1n c2n c3n c4n c5n
                go_wp2_with fail
                go_roundw
                case rel => exact ⟨j + 1, _, _, by omega, by go_num, (HR.out.2.1.more (by omega)), (HR.out.2.2.more (by omega)), hrn⟩
                case measure => simp [intOf]; omega
            · have hdn : decide ((j : Int) < (n : Int)) = false := by simp; omega
              go_wp2_with fail
              go_roundw
              case rel => exact ⟨j + 1, _, _, by omega, by go_num, (HR.out.2.1.more (by omega)), (HR.out.2.2.more (by omega)), HR.out.1⟩
              case measure => simp [intOf]; omega
        · obtain rfl : j = mx := by omega
          go_wp2_with fail
          go_ret
          exact ⟨rfl, HQ.out.1.wb⟩
end Go.Proofs.Ythnbnhlfiehihaa
/- 'DiskApart': whatever comes in, the law returns true and leaves it as it was. No condition. -/
namespace Go.Proofs.Ythnbnhlfiehihaa.diskApart
open Go.RowKit

theorem walk {H : Type} {enc : TypeId × Value → H} (W : World) (args : Array Value) (ds : List (DataW H)) (p : List MemPlace) (h : Args enc Try.f5 W args ds p) :
    Calls Try.prog 5 args W fun e W' => e = .returned (.bool true) ∧ Below W.heap.size W W' := by
  obtain ⟨base, vs, rfl, m0⟩ := h.many (ts := [37, 37, 37, 5]) (by rw [Try.params5])
  obtain ⟨v0, vs1, d0, ds1, p0, q0, rfl, rfl, o0, m1⟩ := m0.cons
  obtain ⟨v1, vs2, d1, ds2, p1, q1, rfl, rfl, o1, m2⟩ := m1.cons
  obtain ⟨v2, vs3, d2, ds3, p2, q2, rfl, rfl, o2, m3⟩ := m2.cons
  obtain ⟨v3, vs4, d3, ds4, p3, q3, rfl, rfl, o3, m4⟩ := m3.cons
  obtain ⟨rfl, rfl⟩ := m4.nil
  obtain ⟨A0, c0, l0, rfl, h0a, h0b, h0c, h0e⟩ := o0.aks
  obtain ⟨A1, c1, l1, rfl, h1a, h1b, h1c, h1e⟩ := o1.aks
  obtain ⟨A2, c2, l2, rfl, h2a, h2b, h2c, h2e⟩ := o2.aks
  obtain ⟨n3, rfl, h3a⟩ := o3.u8 Try.underlying5
  exact DiskApart_walk W A0 c0 l0 h0a h0b h0e A1 c1 l1 h1a h1b h1e A2 c2 l2 h2a h2b h2e n3 h3a

theorem types : ∀ t ∈ Try.f5.params.toList, Try.prog.readableRec t = true ∧ t < Try.prog.types.size := by
  rw [Try.params5]
  intro t ht
  simp only [List.mem_cons, List.not_mem_nil, or_false] at ht
  rcases ht with rfl | rfl | rfl | rfl
  all_goals exact ⟨by kernel_rfl, of_decide_eq_true (by kernel_rfl)⟩
theorem fits (H : Type) (ds : List (DataW H)) (hl : ds.length = Try.f5.params.toList.length) : Rows.diskApartSpec.fn H (ds ++ []) = { results := [.lit (.bool true)], args := ds } := by
  rw [Try.params5] at hl
  match ds, hl with
  | [d0, d1, d2, d3], _ => rfl

set_option maxRecDepth 100000 in
theorem over : Rows.diskApartRow.holds Try.pinned (OpenSpec.ofChange Rows.diskApartSpec) :=
  OpenClaim.holds_of_wide 5 Try.f5 rfl rfl rfl rfl rfl rfl rfl ⟨rfl, rfl, rfl, rfl, rfl⟩ rfl rfl rfl rfl rfl (by kernel_rfl) Try.func5 (by kernel_rfl)
    (of_decide_eq_true (by kernel_rfl)) (by unfold Func.isWrapper; first | (rw [if_pos (by decide +kernel)]; kernel_rfl) | (rw [if_neg (by decide +kernel)]; exact ⟨rfl, rfl⟩))
    (fun os started H enc _ => lifted 5 Try.f5 Rows.diskApartSpec Try.func5 (by kernel_rfl) rfl rfl types fits os started H enc
      (ChangeSpec.witness6 (enc := enc) (C := Try.checked) false ⟨#[], #[.slice none 0 0, .slice none 0 0, .slice none 0 0, .int .u8 0], []⟩ 8 (by kernel_rfl) (by kernel_rfl) (by kernel_rfl) (by kernel_rfl))
      (fun W args ds p h => walk W args ds p h))

theorem proved : Rows.DiskApartSaid := over
end Go.Proofs.Ythnbnhlfiehihaa.diskApart
