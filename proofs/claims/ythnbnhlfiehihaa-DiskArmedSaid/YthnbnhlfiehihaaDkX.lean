/- Disks: the program's Crash. -/
import Derived.Test.YthnbnhlfiehihaaDkN
import Derived.Test.YthnbnhlfiehihaaPDk4
namespace Go.Proofs.Ythnbnhlfiehihaa
open Go.RowKit Go.Maps
set_option maxRecDepth 20000

theorem left_any (w : World) (n : Int) (m : Nat) (hm : m ≤ 16777216) :
    Calls Try.prog 33 #[.int .i64 n, .int .i64 ((m : Int) + 1)] w fun e w' => e = .returned (.int .i64 (n % ((m + 1 : Nat) : Int))) ∧ w' = w := by
  have h1 := Int.lt_tmod_of_pos n (show (0 : Int) < m + 1 by omega)
  have h2 := Int.tmod_lt_of_pos n (show (0 : Int) < m + 1 by omega)
  have hw1 : IntKind.i64.wrap (Int.tmod n (m + 1)) = Int.tmod n (m + 1) := by rw [IntKind.wrap_i64]; omega
  have hw2 : IntKind.i64.wrap (Int.tmod n (m + 1) + (m + 1)) = Int.tmod n (m + 1) + (m + 1) := by rw [IntKind.wrap_i64]; omega
  have h3 := left_eq n m
  have h4 := Int.emod_lt_of_pos n (show (0 : Int) < ((m + 1 : Nat) : Int) by omega)
  have h5 := Int.emod_nonneg n (show ((m + 1 : Nat) : Int) ≠ 0 by omega)
  have hw3 : IntKind.i64.wrap (n % ((m + 1 : Nat) : Int)) = n % ((m + 1 : Nat) : Int) := by rw [IntKind.wrap_i64]; omega
  have hz : ¬ ((m : Int) + 1 = 0) := by omega
  go_enter Try.func33, Try.ntmps33
  go_wp2
  go_ret
  exact ⟨rfl, rfl⟩
theorem crash1_eq {f : DF} (h : f.s < f.b.length) (ps : List Int) : crash1 f ps = ⟨f.b.take (f.s + pickOf f ps), f.s + pickOf f ps⟩ := by
  have := pick_le f ps
  unfold crash1
  rw [if_pos h]
  simp only [DF.first, DF.sync, List.length_take, DF.mk.injEq, true_and]
  omega
theorem Sl.grewF {F : Nat → Prop} {w w' : World} {A : Option Addr} {xs : List Value} (h : Sl w w.heap.size A xs) (hg : Grew F w w') (hn : ∀ a, A = some a → ¬ F a.block) : Sl w' w'.heap.size A xs := by
  rcases h with h | ⟨g, o, rfl, h1, h2, h3⟩
  · exact .inl h
  · exact (Sl.grewN (.inr ⟨g, o, rfl, h1, h2, h3⟩ : Sl w w.heap.size _ _) hg (hn _ rfl)).more hg.size
def iv (l : List Int) : List Value := l.map (Value.int .i64)
theorem PD.nm {W : World} {p : Nat} {F H : Nat → Prop} {s : DK} (h : PD W p F H s) : ∀ q ∈ s.R, q.1.length ≤ maxLen := by
  obtain ⟨mb, G, h1, ⟨hk, _⟩, h3, _⟩ := h
  intro q hq
  rw [← h3] at hq
  obtain ⟨q', hq', rfl⟩ := List.mem_map.1 hq
  exact hk (q'.1, q'.2.raw) (List.mem_map.2 ⟨q', hq', rfl⟩)
/-- what holds when j files are crashed -/
structure CrashAt (w : World) (p : Nat) (F H : Nat → Prop) (s : DK) (ps : List Int) (j : Nat) (W : World) (H' : Nat → Prop) : Prop where
  pd : PD W p F H' { s with R := partR s.R ps j }
  h : ∀ k, H' k → H k ∨ w.heap.size ≤ k
  g : Grew F w W
set_option maxRecDepth 100000 in
set_option maxHeartbeats 6400000 in
theorem Crash_any (w : World) (p : Nat) (F H : Nat → Prop) (s : DK) (n : Nat) (h : PD w p F H s) (hok : s.ok n) (hn : n < 1000000) (A : Option Addr) (c : Nat) (ps : List Int) (hS : Sl w w.heap.size A (iv ps)) (hSF : ps = [] ∨ ∀ a, A = some a → ¬ F a.block) (hpl : ps.length ≤ maxLen) :
    Calls Try.prog 18 #[.pointer (some ⟨p, 0, none⟩), .slice A ps.length c] w fun e w' => e = .returned (.tuple #[]) ∧ ∃ H' : Nat → Prop, PD w' p F H' (s.crash ps) ∧ (∀ k, H' k → H k ∨ w.heap.size ≤ k) ∧ Grew F w w' := by
  have hN := Names_any w p F H s n h hok hn
  obtain ⟨m, hm⟩ : ∃ m, s.R.length = m := ⟨_, rfl⟩
  obtain ⟨l, hl⟩ : ∃ l, ps.length = l := ⟨_, rfl⟩
  rw [hm] at hN
  rw [hl] at hpl ⊢
  have hFH : ∀ k, F k → k < w.heap.size := fun k hk => h.lt k (h.fh hk)
  have hmn : m ≤ n := by have h1 := hok.files; have h2 := hok.calls; omega
  have HH := Lib.hid (And.intro h (And.intro hok (And.intro hS (And.intro hSF (And.intro hm hl)))))
  clear hS h hok hSF hm hl
  go_enter Try.func18, Try.ntmps18
  go_wp2_with (go_at_call 25; refine hN.mono ?_; rintro e w1 ⟨A1, c1, rfl, hna, hb1⟩)
  have HA := Lib.hid (And.intro hna hb1)
  clear hna hb1 hN
  go_loopw [4, 13] (fun x4 x13 wr => ∃ (j : Nat) (H' : Nat → Prop), j ≤ m ∧ x13 = .int .i64 (j : Int) ∧ x4 = .int .i64 (cntL (s.R.take j) : Int) ∧ CrashAt w1 p F H s ps j wr H') (fun _ x13 _ => m - (intOf x13).toNat)
  case atStart => exact ⟨0, H, by omega, rfl, rfl, by rw [show ({ s with R := partR s.R ps 0 } : DK) = s from by rw [part_zero]]; exact HH.out.1.below HA.out.2, fun _ => .inl, Grew.refl _ _⟩
  case round =>
    obtain ⟨j, H', hj, rfl, rfl, hca⟩ := hrel
    have HCA := Lib.hid hca
    have hsz := hca.g.size
    by_cases hlt : j < m
    · obtain ⟨⟨x, f⟩, hx⟩ : ∃ q, s.R[j]? = some q := ⟨_, List.getElem?_eq_getElem (by rw [HH.out.2.2.2.2.1]; exact hlt)⟩
      have hxl := HH.out.1.nm (x, f) (List.mem_of_getElem? hx)
      have hsn : Sl wr wr.heap.size A1 (s.names.map str) := HA.out.1.1.grewF hca.g (fun a ha hk => by have := (HA.out.1.2.2.2.2 a ha).1; have := hFH _ hk; omega)
      obtain ⟨b1, o1, rfl, _, _, hcell⟩ := hsn.at_ (k := j) (by rw [List.length_map, DK.names, List.length_map, HH.out.2.2.2.2.1]; exact hlt)
      have cn : wr.cell? ⟨b1, o1 + j, none⟩ = some (str x) := hcell j _ (by rw [List.getElem?_map, DK.names, List.getElem?_map, hx]; rfl)
      have hfo : DK.fileOf { s with R := partR s.R ps j } x = f := by unfold DK.fileOf; dsimp only; rw [part_look HH.out.2.1.rise hx]; rfl
      obtain ⟨mb, g, cf, hbx, hlk, _, hfv⟩ := hca.pd.tell x hxl
      replace hlk := hlk wr (KB.refl _)
      rw [hfo] at hlk hfv
      have c0 := hbx.c 0 rfl
      have hfs := HH.out.2.1.sure (x, f) (List.mem_of_getElem? hx)
      have hol : f.b.length ≤ 16777216 := by
        have h1 := old_le (HH.out.2.1.part ps j) x
        rw [hfo] at h1
        have h2 := part_used s.R ps j
        have h3 := HH.out.2.1.used
        have h4 := HH.out.2.1.room
        dsimp only at h1
        omega
      dsimp only at hfs
      have hcnt := cnt_le s.R j
      have hcs := cnt_succ hx
      have HX := Lib.hid (And.intro hx (And.intro hfv hcs))
      obtain ⟨cj, hcj⟩ : ∃ cj, cntL (s.R.take j) = cj := ⟨_, rfl⟩
      rw [hcj] at hcnt ⊢
      clear hcell hsn hbx hca hx hfv hcs
      by_cases hlo : f.s < f.b.length
      · obtain ⟨fl, hfl⟩ : ∃ fl, f.b.length = fl := ⟨_, rfl⟩
        obtain ⟨fs, hfs'⟩ : ∃ fs, f.s = fs := ⟨_, rfl⟩
        obtain ⟨pk, hpk⟩ : ∃ pk, pickOf f (ps.drop cj) = pk := ⟨_, rfl⟩
        have hpl2 := pick_le f (ps.drop cj)
        rw [hpk, hfl, hfs'] at hpl2
        have HF := Lib.hid (And.intro hlo (And.intro hfl (And.intro hfs' hpk)))
        rw [hfl, hfs'] at hlk hlo
        rw [hfl] at hol
        obtain ⟨D, hD⟩ : ∃ D : Nat, fl - fs = D := ⟨_, rfl⟩
        have hDi : (fl : Int) - (fs : Int) = (D : Int) := by omega
        have hd0 : ((D : Int) == 0) = false := by simp; omega
        have hc1 : HH.out.2.1.calls = HH.out.2.1.calls := rfl
        clear hfs hfo hD hc1 hfl hfs' hpk
        have FIRST := Lib.hid (fun (pk' : Nat) (hpk' : pk' = pk) => by
          have h1 := first_any (wr.alloc (.cells #[.slice (adr g) fl cf, .int .i64 (fs : Int)] 59)) (adr g) cf fs (fs + pk') fl f.b HF.out.2.1 (((HX.out.2.1.1).below' ((Below.refl _ wr).alloc (Nat.le_refl _) _)).more (by simp)) (by omega) hol
          rw [Nat.min_eq_left (Nat.le_add_right fs pk')] at h1
          exact h1)
        by_cases hin : cj < l
        · obtain ⟨v, hv⟩ : ∃ v, ps[cj]? = some v := ⟨_, List.getElem?_eq_getElem (by rw [HH.out.2.2.2.2.2]; exact hin)⟩
          have hpv : v % ((D + 1 : Nat) : Int) = (pk : Int) := by
            have h1 := HF.out.2.2.2
            unfold pickOf at h1
            have h2 : (ps.drop cj).headD 0 = v := by rw [List.headD_eq_head?_getD, List.head?_drop, hv]; rfl
            have h3 : f.b.length - f.s + 1 = D + 1 := by rw [HF.out.2.1, HF.out.2.2.1]; omega
            rw [h2, h3] at h1
            have h4 := Int.emod_nonneg v (show ((D + 1 : Nat) : Int) ≠ 0 by omega)
            omega
          have LEFT := fun W => left_any W v D (by omega)
          rw [hpv] at LEFT
          obtain ⟨a, o, hA, _, _, hac⟩ := (HH.out.2.2.1.grewF ((Grew.below (S := F) HA.out.2).trans HCA.out.g (fun _ _ => id)) (HH.out.2.2.2.1.resolve_left (fun e => by have := HH.out.2.2.2.2.2; rw [e] at this; simp at this; omega))).at_ (k := cj) (by rw [iv, List.length_map, HH.out.2.2.2.2.2]; exact hin)
          have cv : wr.cell? ⟨a, o + cj, none⟩ = some (.int .i64 v) := hac cj _ (by rw [iv, List.getElem?_map, hv]; rfl)
          subst hA
          have hd1 : decide ((cj : Int) < (l : Int)) = true := by simp; omega
          clear hac hv
          go_wp2_with (first
            | (go_at_call 33; refine (LEFT _).mono ?_; rintro e w4 ⟨rfl, rfl⟩)
            | (go_at_call 34; refine (FIRST.out pk rfl).mono ?_; rintro e w5 ⟨g3, rfl, hfr, hb5⟩; have hbx5 := (At.new wr 59 #[.slice (adr g) fl cf, .int .i64 (fs : Int)]).below hb5; have z0 := hbx5.c 0 rfl; have z1 := hbx5.c 1 rfl; have f0 := hbx5.f 0 rfl; have f1 := hbx5.f 1 rfl; have y1 := (show At (((w5.setCell ⟨wr.heap.size, 0, none⟩ (.slice (adr g3) (fs + pk) (fs + pk))).setCell ⟨wr.heap.size, 1, none⟩ (.int .i64 (fs : Int))).setCell ⟨wr.heap.size, 1, none⟩ (.int .i64 ((fs : Int) + (pk : Int)))) wr.heap.size [.slice (adr g3) (fs + pk) (fs + pk), .int .i64 ((fs : Int) + (pk : Int))] from ((hbx5.set 0 _ (by simp)).set 1 _ (by simp)).set 1 _ (by simp)); have HY := Lib.hid y1; replace y1 := y1.c 1 rfl; clear hbx5))
          have hb4 : Below wr.heap.size wr (wr.alloc (.cells #[.slice (adr g) fl cf, .int .i64 (fs : Int)] 59)) := (Below.refl _ wr).alloc (Nat.le_refl _) _
          have hb6 : Below wr.heap.size wr (((w5.setCell ⟨wr.heap.size, 0, none⟩ (.slice (adr g3) (fs + pk) (fs + pk))).setCell ⟨wr.heap.size, 1, none⟩ (.int .i64 (fs : Int))).setCell ⟨wr.heap.size, 1, none⟩ (.int .i64 ((fs : Int) + (pk : Int)))) := (((hb4.trans (hb5.mono hb4.size)).setCell (Nat.le_refl _) _).setCell (Nat.le_refl _) _).setCell (Nat.le_refl _) _
          have hg6 : Grew (fun k => k = wr.heap.size) w5 (((w5.setCell ⟨wr.heap.size, 0, none⟩ (.slice (adr g3) (fs + pk) (fs + pk))).setCell ⟨wr.heap.size, 1, none⟩ (.int .i64 (fs : Int))).setCell ⟨wr.heap.size, 1, none⟩ (.int .i64 ((fs : Int) + (pk : Int)))) := (((Grew.refl _ w5).putP _).putP _).putP _
          have hfr6 := (hfr.grew hg6 (fun k hk => by simp; omega)).from (w0 := wr) (by simp)
          clear y1 z0 z1 f0 f1 hb5 hg6 hfr hb4 HY
          generalize ((w5.setCell ⟨wr.heap.size, 0, none⟩ (.slice (adr g3) (fs + pk) (fs + pk))).setCell ⟨wr.heap.size, 1, none⟩ (.int .i64 (fs : Int))).setCell ⟨wr.heap.size, 1, none⟩ (.int .i64 ((fs : Int) + (pk : Int))) = w6 at *
          have hp6 := pdNew (w := wr) (HCA.out.pd.below hb6) hb6.size
          have hv6 := hfr6.fv (F := F) (H := H') (fun k hk => HCA.out.pd.lt k (HCA.out.pd.fh hk))
          have hv6' : FVat w6 F (HN H' wr w6) ⟨⟨f.b.take (fs + pk), (fs + pk)⟩, g3, (fs + pk)⟩ := hv6
          refine (set_at w6 p F (HN H' wr w6) n ⟨⟨f.b.take (fs + pk), (fs + pk)⟩, g3, (fs + pk)⟩ rfl (by simp only [List.length_take, HF.out.2.1]; omega) rfl rfl hp6 (HH.out.2.1.part ps j) hn hxl hv6' (by omega)).mono ?_
          rintro e w7 ⟨rfl, hp7, hg7⟩
          obtain ⟨mb7, hA7, _⟩ := hp7.box
          have c3 : w7.cell? ⟨p, 3, none⟩ = some (.int .i64 (s.calls + 1)) := hA7.c 3 rfl
          have f3 := hA7.f 3 rfl
          have hc1 := HH.out.2.1.calls
          have hc2 := HH.out.2.1.files
          have hc3 : 0 ≤ s.calls := by omega
          have hc4 : s.calls < 1000000 := by omega
          have hwr : IntKind.i64.wrap (s.calls + 1 - 1) = s.calls := by rw [IntKind.wrap_i64]; omega
          clear hA7
          go_wp2_with fail
          go_roundw
          case rel =>
            have hpe : partR s.R ps (j + 1) = putN (partR s.R ps j) x ⟨f.b.take (fs + pk), (fs + pk)⟩ := by
              rw [part_put HH.out.2.1.rise HX.out.1, hcj, crash1_eq HF.out.1, HF.out.2.2.1, HF.out.2.2.2]
            obtain ⟨hp8, hg8⟩ := hp7.rebox { s with R := putN (partR s.R ps j) x ⟨f.b.take (fs + pk), (fs + pk)⟩ } ((Grew.refl _ w7).putP _) (fun mb hA => hA.set 3 (.int .i64 s.calls) (by simp [boxP])) rfl
            rw [← hpe] at hp8
            exact ⟨j + 1, HN H' wr w6, hlt, by go_num, by rw [HX.out.2.2, hcj, if_pos HF.out.1]; go_num, ⟨hp8, fun k hk => hk.elim (HCA.out.h k) (fun h => .inr (Nat.le_trans hsz h.1)), (((HCA.out.g.trans (Grew.below hb6) (fun _ _ h => h)).trans hg7 (fun _ _ => id)).trans hg8 (fun _ _ => id))⟩⟩
          case measure => simp [intOf]; omega
        · have hpk0 : pk = 0 := by
            rw [← HF.out.2.2.2]
            unfold pickOf
            rw [List.drop_of_length_le (by rw [HH.out.2.2.2.2.2]; omega)]
            simp
          have hd1 : decide ((cj : Int) < (l : Int)) = false := by simp; omega
          subst hpk0
          go_wp2_with (go_at_call 34; refine (FIRST.out 0 rfl).mono ?_; rintro e w5 ⟨g3, rfl, hfr, hb5⟩; have hbx5 := (At.new wr 59 #[.slice (adr g) fl cf, .int .i64 (fs : Int)]).below hb5; have z0 := hbx5.c 0 rfl; have z1 := hbx5.c 1 rfl; have f0 := hbx5.f 0 rfl; have f1 := hbx5.f 1 rfl; have y1 := (show At (((w5.setCell ⟨wr.heap.size, 0, none⟩ (.slice (adr g3) fs fs)).setCell ⟨wr.heap.size, 1, none⟩ (.int .i64 (fs : Int))).setCell ⟨wr.heap.size, 1, none⟩ (.int .i64 (fs : Int))) wr.heap.size [.slice (adr g3) fs fs, .int .i64 (fs : Int)] from ((hbx5.set 0 _ (by simp)).set 1 _ (by simp)).set 1 _ (by simp)); have HY := Lib.hid y1; replace y1 := y1.c 1 rfl; clear hbx5)
          have hb4 : Below wr.heap.size wr (wr.alloc (.cells #[.slice (adr g) fl cf, .int .i64 (fs : Int)] 59)) := (Below.refl _ wr).alloc (Nat.le_refl _) _
          have hb6 : Below wr.heap.size wr (((w5.setCell ⟨wr.heap.size, 0, none⟩ (.slice (adr g3) fs fs)).setCell ⟨wr.heap.size, 1, none⟩ (.int .i64 (fs : Int))).setCell ⟨wr.heap.size, 1, none⟩ (.int .i64 (fs : Int))) := (((hb4.trans (hb5.mono hb4.size)).setCell (Nat.le_refl _) _).setCell (Nat.le_refl _) _).setCell (Nat.le_refl _) _
          have hg6 : Grew (fun k => k = wr.heap.size) w5 (((w5.setCell ⟨wr.heap.size, 0, none⟩ (.slice (adr g3) fs fs)).setCell ⟨wr.heap.size, 1, none⟩ (.int .i64 (fs : Int))).setCell ⟨wr.heap.size, 1, none⟩ (.int .i64 (fs : Int))) := (((Grew.refl _ w5).putP _).putP _).putP _
          have hfr6 := (hfr.grew hg6 (fun k hk => by simp; omega)).from (w0 := wr) (by simp)
          clear y1 z0 z1 f0 f1 hb5 hg6 hfr hb4 HY
          generalize ((w5.setCell ⟨wr.heap.size, 0, none⟩ (.slice (adr g3) fs fs)).setCell ⟨wr.heap.size, 1, none⟩ (.int .i64 (fs : Int))).setCell ⟨wr.heap.size, 1, none⟩ (.int .i64 (fs : Int)) = w6 at *
          have hp6 := pdNew (w := wr) (HCA.out.pd.below hb6) hb6.size
          have hv6 := hfr6.fv (F := F) (H := H') (fun k hk => HCA.out.pd.lt k (HCA.out.pd.fh hk))
          have hv6' : FVat w6 F (HN H' wr w6) ⟨⟨f.b.take fs, fs⟩, g3, fs⟩ := hv6
          refine (set_at w6 p F (HN H' wr w6) n ⟨⟨f.b.take fs, fs⟩, g3, fs⟩ rfl (by simp only [List.length_take, HF.out.2.1]; omega) rfl rfl hp6 (HH.out.2.1.part ps j) hn hxl hv6' (by omega)).mono ?_
          rintro e w7 ⟨rfl, hp7, hg7⟩
          obtain ⟨mb7, hA7, _⟩ := hp7.box
          have c3 : w7.cell? ⟨p, 3, none⟩ = some (.int .i64 (s.calls + 1)) := hA7.c 3 rfl
          have f3 := hA7.f 3 rfl
          have hc1 := HH.out.2.1.calls
          have hc2 := HH.out.2.1.files
          have hc3 : 0 ≤ s.calls := by omega
          have hc4 : s.calls < 1000000 := by omega
          have hwr : IntKind.i64.wrap (s.calls + 1 - 1) = s.calls := by rw [IntKind.wrap_i64]; omega
          clear hA7
          go_wp2_with fail
          go_roundw
          case rel =>
            have hpe : partR s.R ps (j + 1) = putN (partR s.R ps j) x ⟨f.b.take fs, fs⟩ := by
              rw [part_put HH.out.2.1.rise HX.out.1, hcj, crash1_eq HF.out.1, HF.out.2.2.1, HF.out.2.2.2]; rfl
            obtain ⟨hp8, hg8⟩ := hp7.rebox { s with R := putN (partR s.R ps j) x ⟨f.b.take fs, fs⟩ } ((Grew.refl _ w7).putP _) (fun mb hA => hA.set 3 (.int .i64 s.calls) (by simp [boxP])) rfl
            rw [← hpe] at hp8
            exact ⟨j + 1, HN H' wr w6, hlt, by go_num, by rw [HX.out.2.2, hcj, if_pos HF.out.1]; go_num, ⟨hp8, fun k hk => hk.elim (HCA.out.h k) (fun h => .inr (Nat.le_trans hsz h.1)), (((HCA.out.g.trans (Grew.below hb6) (fun _ _ h => h)).trans hg7 (fun _ _ => id)).trans hg8 (fun _ _ => id))⟩⟩
          case measure => simp [intOf]; omega
      · have hz : f.s = f.b.length := by omega
        rw [hz] at hlk
        go_wp2_with fail
        go_roundw
        case rel => exact ⟨j + 1, H', hlt, by go_num, by rw [HX.out.2.2, hcj, if_neg hlo]; rfl, (part_keep HH.out.2.1.rise HX.out.1 hlo) ▸ HCA.out.pd.below ((Below.refl _ wr).alloc (Nat.le_refl _) _), HCA.out.h, HCA.out.g.trans (Grew.below ((Below.refl _ wr).alloc (Nat.le_refl _) _)) (fun _ _ h => h)⟩
        case measure => simp [intOf]; omega
    · have hjm : j = m := by omega
      subst hjm
      obtain ⟨mb, hbx, _⟩ := hca.pd.box
      have f4 := hbx.f 4 rfl
      have f6 := hbx.f 6 rfl
      have c4 := hbx.c 4 rfl
      have c6 := hbx.c 6 rfl
      clear hbx hca
      go_wp2
      go_end0
      have hall : partR s.R ps j = crashR s.R ps := by rw [← HH.out.2.2.2.2.1, part_all]
      have hpd := HCA.out.pd
      rw [hall] at hpd
      obtain ⟨hp2, hg2⟩ := hpd.rebox (s.crash ps) (((Grew.refl _ wr).putP _).putP _) (fun mb hA => (hA.set 6 (.bool false) (by simp [boxP])).set 4 (.int .i64 0) (by simp [boxP])) rfl
      exact ⟨rfl, H', hp2, fun k hk => (HCA.out.h k hk).imp id (fun h => Nat.le_trans HA.out.2.size h), ((Grew.below (S := F) HA.out.2).trans HCA.out.g (fun _ _ => id)).trans hg2 (fun _ _ => id)⟩
end Go.Proofs.Ythnbnhlfiehihaa

