/- 'DiskPlays': the walk of the law. -/
import Derived.Test.YthnbnhlfiehihaaM14
namespace Go.Proofs.Ythnbnhlfiehihaa
open Go.RowKit Go.Maps
set_option maxRecDepth 20000

set_option maxRecDepth 100000 in
set_option maxHeartbeats 6400000 in
theorem DiskPlays_walk (w : World) (room : Int) (_hr : -9223372036854775808 ≤ room ∧ room ≤ 9223372036854775807) (A : Option Addr) (c : Nat) (l : List AK) (hS : Sl w w.heap.size A (ak l)) (hlc : l.length ≤ c) (hok : ∀ a ∈ l, a.ok w) (small : Bool) :
    Calls Try.prog 4 #[.int .i64 room, .slice A l.length c, .bool small] w fun e w' => e = .returned (.bool true) ∧ Below w.heap.size w w' := by
  have hK := known_any w
  obtain ⟨m, hm⟩ : ∃ m, l.length = m := ⟨_, rfl⟩
  rw [hm] at hlc ⊢
  have HL := Lib.hid (And.intro hS (And.intro hok hm))
  clear hS hok hm
  by_cases hbig : 100 < m
  · have hd : decide ((100 : Int) < (m : Int)) = true := by simp; omega
    go_enter Try.func4, Try.ntmps4
    go_wp2_with (go_at_call 7; refine hK.mono ?_; rintro e w1 ⟨rfl, hb1⟩)
    go_ret
    exact ⟨rfl, hb1⟩
  have hd : decide ((100 : Int) < (m : Int)) = false := by simp; omega
  have hPl := fun W => Place90 W room
  cases small with
  | false =>
    go_enter Try.func4, Try.ntmps4
    go_wp2_with (go_at_call 7; refine hK.mono ?_; rintro e w1 ⟨rfl, hb1⟩)
    obtain ⟨rm, rfl⟩ : ∃ rm, rm = room := ⟨_, rfl⟩
    refine (New_any w1 rm).mono ?_
    rintro e w2 ⟨p, F, H, rfl, hp2, hH2, hb2⟩
    go_wp2_with fail
    refine (NewDisk_any w2 rm).mono ?_
    rintro e w3 ⟨d, F2, H2', rfl, hd3, hH3, hb3⟩
    have hq3 := Pool.start hb1 (hp2) hH2 hb2 hd3 hH3 hb3
    clear hp2 hH2 hb2 hd3 hH3 hb3
    have hok0 := DK.ok.new rm
    have HS := Lib.hid (And.intro hq3 hok0)
    obtain ⟨s0, hs0⟩ : ∃ s0, DK.new rm = s0 := ⟨_, rfl⟩
    rw [hs0] at HS
    clear hs0 hok0 hq3 hK hPl
    go_wp2_with (go_at_call 21; refine (HS.out.1.alike (i := 0) (j := 1) rfl rfl HS.out.2 (by omega)).mono ?_; rintro e w4 ⟨rfl, hq4⟩)
    go_loopw [9] (fun x9 wr => ∃ (j : Nat) (s : DK), j ≤ m ∧ x9 = .int .i64 (j : Int) ∧ s.ok j ∧ Pool w [Ob.P p s, Ob.D d s] wr) (fun x9 _ => m - (intOf x9).toNat)
    case atStart => exact ⟨0, s0, by omega, rfl, HS.out.2, hq4⟩
    case round =>
      obtain ⟨j, s, hj, rfl, hok, hq⟩ := hrel
      have HQ := Lib.hid (And.intro hq hok)
      by_cases hlt : j < m
      · obtain ⟨a, ha⟩ : ∃ a, l[j]? = some a := ⟨_, List.getElem?_eq_getElem (by rw [HL.out.2.2]; exact hlt)⟩
        have hao := HL.out.2.1 a (List.mem_of_getElem? ha)
        obtain ⟨b, o, rfl, c0, c1, c2, c3, c4, c5⟩ := hq.act HL.out.1 ha
        have hx0 : (0 : Int) ≤ (j : Int) := by omega
        have hx1 : (j : Int) < (m : Int) := by omega
        have HO := Lib.hid hao
        clear hok hq ha hao
        by_cases hpk : 10 < a.ps.length
        · have hd2 : decide ((10 : Int) < (a.ps.length : Int)) = true := by simp; omega
          go_wp2_with fail
          go_ret
          exact ⟨rfl, HQ.out.1.wb⟩
        · have hd2 : decide ((10 : Int) < (a.ps.length : Int)) = false := by simp; omega
          go_wp2_with fail
          refine (play_any w wr _ 0 1 p d s j HQ.out.1 rfl rfl (by omega) HQ.out.2 (by omega) a HO.out).mono ?_
          rintro e w5 ⟨rfl, hq5⟩
          have hok5 := actK_ok HQ.out.2 HO.out.n0 HO.out.n1
          clear c0 c1 c2 c3 c4 c5 hd2
          go_wp2_with fail
          go_roundw
          case rel => exact ⟨j + 1, _, hlt, by go_num, hok5, hq5⟩
          case measure => simp [intOf]; omega
      · obtain rfl : j = m := by omega
        go_wp2_with fail
        go_ret
        exact ⟨rfl, HQ.out.1.wb⟩
  | true =>
    obtain ⟨rm, hrm⟩ : ∃ rm, room % 90 = rm := ⟨_, rfl⟩
    rw [hrm] at hPl
    clear hrm
    go_enter Try.func4, Try.ntmps4
    go_wp2_with (go_at_call 7; refine hK.mono ?_; rintro e w1 ⟨rfl, hb1⟩)
    refine (hPl _).mono ?_
    rintro e w1 ⟨rfl, rfl⟩
    go_wp2_with fail
    refine (New_any w1 rm).mono ?_
    rintro e w2 ⟨p, F, H, rfl, hp2, hH2, hb2⟩
    go_wp2_with fail
    refine (NewDisk_any w2 rm).mono ?_
    rintro e w3 ⟨d, F2, H2', rfl, hd3, hH3, hb3⟩
    have hq3 := Pool.start hb1 (hp2) hH2 hb2 hd3 hH3 hb3
    clear hp2 hH2 hb2 hd3 hH3 hb3
    have hok0 := DK.ok.new rm
    have HS := Lib.hid (And.intro hq3 hok0)
    obtain ⟨s0, hs0⟩ : ∃ s0, DK.new rm = s0 := ⟨_, rfl⟩
    rw [hs0] at HS
    clear hs0 hok0 hq3 hK hPl
    go_wp2_with (go_at_call 21; refine (HS.out.1.alike (i := 0) (j := 1) rfl rfl HS.out.2 (by omega)).mono ?_; rintro e w4 ⟨rfl, hq4⟩)
    go_loopw [9] (fun x9 wr => ∃ (j : Nat) (s : DK), j ≤ m ∧ x9 = .int .i64 (j : Int) ∧ s.ok j ∧ Pool w [Ob.P p s, Ob.D d s] wr) (fun x9 _ => m - (intOf x9).toNat)
    case atStart => exact ⟨0, s0, by omega, rfl, HS.out.2, hq4⟩
    case round =>
      obtain ⟨j, s, hj, rfl, hok, hq⟩ := hrel
      have HQ := Lib.hid (And.intro hq hok)
      by_cases hlt : j < m
      · obtain ⟨a, ha⟩ : ∃ a, l[j]? = some a := ⟨_, List.getElem?_eq_getElem (by rw [HL.out.2.2]; exact hlt)⟩
        have hao := HL.out.2.1 a (List.mem_of_getElem? ha)
        obtain ⟨b, o, rfl, c0, c1, c2, c3, c4, c5⟩ := hq.act HL.out.1 ha
        have hx0 : (0 : Int) ≤ (j : Int) := by omega
        have hx1 : (j : Int) < (m : Int) := by omega
        have HO := Lib.hid hao
        clear hok hq ha hao
        by_cases hpk : 10 < a.ps.length
        · have hd2 : decide ((10 : Int) < (a.ps.length : Int)) = true := by simp; omega
          go_wp2_with fail
          go_ret
          exact ⟨rfl, HQ.out.1.wb⟩
        · have hd2 : decide ((10 : Int) < (a.ps.length : Int)) = false := by simp; omega
          go_wp2_with fail
          refine (play_any w wr _ 0 1 p d s j HQ.out.1 rfl rfl (by omega) HQ.out.2 (by omega) a HO.out).mono ?_
          rintro e w5 ⟨rfl, hq5⟩
          have hok5 := actK_ok HQ.out.2 HO.out.n0 HO.out.n1
          clear c0 c1 c2 c3 c4 c5 hd2
          go_wp2_with fail
          go_roundw
          case rel => exact ⟨j + 1, _, hlt, by go_num, hok5, hq5⟩
          case measure => simp [intOf]; omega
      · obtain rfl : j = m := by omega
        go_wp2_with fail
        go_ret
        exact ⟨rfl, HQ.out.1.wb⟩
end Go.Proofs.Ythnbnhlfiehihaa
/- 'DiskPlays': whatever comes in, the law returns true and leaves it as it was. No condition. -/
namespace Go.Proofs.Ythnbnhlfiehihaa.diskPlays
open Go.RowKit

theorem walk {H : Type} {enc : TypeId × Value → H} (W : World) (args : Array Value) (ds : List (DataW H)) (p : List MemPlace) (h : Args enc Try.f4 W args ds p) :
    Calls Try.prog 4 args W fun e W' => e = .returned (.bool true) ∧ Below W.heap.size W W' := by
  obtain ⟨base, vs, rfl, m0⟩ := h.many (ts := [3, 37, 4]) (by rw [Try.params4])
  obtain ⟨v0, vs1, d0, ds1, p0, q0, rfl, rfl, o0, m1⟩ := m0.cons
  obtain ⟨v1, vs2, d1, ds2, p1, q1, rfl, rfl, o1, m2⟩ := m1.cons
  obtain ⟨v2, vs3, d2, ds3, p2, q2, rfl, rfl, o2, m3⟩ := m2.cons
  obtain ⟨rfl, rfl⟩ := m3.nil
  obtain ⟨n0, rfl, h0a⟩ := o0.i64 Try.underlying3
  obtain ⟨A1, c1, l1, rfl, h1a, h1b, h1c, h1e⟩ := o1.aks
  obtain ⟨n2, rfl⟩ := o2.bool Try.underlying4
  exact DiskPlays_walk W n0 h0a A1 c1 l1 h1a h1b h1e n2

theorem types : ∀ t ∈ Try.f4.params.toList, Try.prog.readableRec t = true ∧ t < Try.prog.types.size := by
  rw [Try.params4]
  intro t ht
  simp only [List.mem_cons, List.not_mem_nil, or_false] at ht
  rcases ht with rfl | rfl | rfl
  all_goals exact ⟨by kernel_rfl, of_decide_eq_true (by kernel_rfl)⟩
theorem fits (H : Type) (ds : List (DataW H)) (hl : ds.length = Try.f4.params.toList.length) : Rows.diskPlaysSpec.fn H (ds ++ []) = { results := [.lit (.bool true)], args := ds } := by
  rw [Try.params4] at hl
  match ds, hl with
  | [d0, d1, d2], _ => rfl

set_option maxRecDepth 100000 in
theorem over : Rows.diskPlaysRow.holds Try.pinned (OpenSpec.ofChange Rows.diskPlaysSpec) :=
  OpenClaim.holds_of_wide 4 Try.f4 rfl rfl rfl rfl rfl rfl rfl ⟨rfl, rfl, rfl, rfl, rfl⟩ rfl rfl rfl rfl rfl (by kernel_rfl) Try.func4 (by kernel_rfl)
    (of_decide_eq_true (by kernel_rfl)) (by unfold Func.isWrapper; first | (rw [if_pos (by decide +kernel)]; kernel_rfl) | (rw [if_neg (by decide +kernel)]; exact ⟨rfl, rfl⟩))
    (fun os started H enc _ => lifted 4 Try.f4 Rows.diskPlaysSpec Try.func4 (by kernel_rfl) rfl rfl types fits os started H enc
      (ChangeSpec.witness6 (enc := enc) (C := Try.checked) false ⟨#[], #[.int .i64 0, .slice none 0 0, .bool false], []⟩ 8 (by kernel_rfl) (by kernel_rfl) (by kernel_rfl) (by kernel_rfl))
      (fun W args ds p h => walk W args ds p h))

theorem proved : Rows.DiskPlaysSaid := over
end Go.Proofs.Ythnbnhlfiehihaa.diskPlays
