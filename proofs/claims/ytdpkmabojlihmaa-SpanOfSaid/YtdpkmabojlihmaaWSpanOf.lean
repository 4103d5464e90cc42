/- 'SpanOf', walked. -/
import Derived.Test.YtdpkmabojlihmaaRgW
import Derived.Test.YtdpkmabojlihmaaRgK2
import Derived.Test.YtdpkmabojlihmaaRgE
namespace Go.Proofs.Ytdpkmabojlihmaa
open Go.RowKit Go.Proofs.Ytdpkmabojlihmaa.Pl Go.Proofs.Ytdpkmabojlihmaa.Sp

theorem u8At {w : World} {B : Nat} {A : Option Addr} {l : List UInt8} (h : Sl w B A (bv l)) {k : Nat} (hk : k < l.length) :
    ∃ b o, A = some ⟨b, o, none⟩ ∧ b < B ∧ b < w.heap.size ∧ w.cell? ⟨b, o + k, none⟩ = some (.int .u8 ((l[k]?.getD 0).toNat : Int)) := by
  obtain ⟨b, o, e, h1, h2, hc⟩ := h.at_ (k := k) (by simpa using hk)
  exact ⟨b, o, e, h1, h2, hc k _ (bv_get l k hk)⟩
set_option maxRecDepth 100000 in
set_option maxHeartbeats 12800000 in
theorem SpanOf_walk (w : World) (A : Option Addr) (c : Nat) (l : List Int) (hl : Sl w w.heap.size A (zv l)) (hlc : l.length ≤ c) (hcm : c ≤ maxLen)
    (A1 : Option Addr) (c1 : Nat) (x : List UInt8) (hx : Sl w w.heap.size A1 (bv x)) (hxc : x.length ≤ c1) (hxm : c1 ≤ 140737488351232) (k : Nat) (hk : k < 256) :
    Calls Try.prog 4 #[.slice A l.length c, .slice A1 x.length c1, .int .u8 (k : Int)] w fun e w' => e = .returned (.bool true) ∧ Below w.heap.size w w' := by
  obtain ⟨n, hn⟩ : ∃ n, n = l.length := ⟨_, rfl⟩
  obtain ⟨n1, hn1⟩ : ∃ n, n = x.length := ⟨_, rfl⟩
  rw [← hn, ← hn1]
  have HN := Lib.hid (And.intro hn hn1)
  clear hn hn1 hlc hxc hcm hxm
  go_enter Try.func4, Try.ntmps4
  go_wp2_with fail
  refine (rknown_any w).mono ?_
  rintro e w0 ⟨rfl, hb0⟩
  by_cases hl1 : n ≤ 100
  · have d1 : decide ((100 : Int) < (n : Int)) = false := by rw [decide_eq_false_iff_not]; omega
    by_cases hl2 : n1 ≤ 100
    · have d2 : decide ((100 : Int) < (n1 : Int)) = false := by rw [decide_eq_false_iff_not]; omega
      have hl0 := hl.below hb0
      go_wp2_with (at_builtin; refine appZ rfl rfl (OwnZ.nil w0 w0.heap.size) hl0 HN.out.1 rfl rfl (by have := HN.out.1; simp; omega) (Nat.le_refl _) ?_; intro v3 w3 hown3 hg3 hat3)
      rw [List.nil_append] at hown3
      have hb3 := hb0.trans ((below_of_grown hg3 (by simp [Value.ownBlock]) (Nat.le_refl _)).mono hb0.size)
      replace hown3 : OwnZ w3 w.heap.size v3 (exL l x 0) := by
        have e0 : exL l x 0 = l := by simp [exL]
        rw [e0]
        refine ⟨hown3.1, ?_⟩
        rcases hown3.2 with h' | ⟨g, cap, cur, e, hg, h'⟩
        · exact .inl h'
        · exact .inr ⟨g, cap, cur, e, Nat.le_trans hb0.size hg, h'⟩
      clear hg3 hat3 hb0 hl0 d1 d2
      go_loopw [7, 8] (fun x7 x8 wr => ∃ (i : Nat) (v : Value), i ≤ n1 ∧ x8 = .int .i64 (i : Int) ∧ v = x7 ∧ OwnZ wr w.heap.size v (exL l x i) ∧ Below w.heap.size w wr) (fun _ x8 _ => n1 - (intOf x8).toNat)
      case atStart => exact ⟨0, _, by omega, rfl, rfl, hown3, hb3⟩
      case round =>
        clear hown3 hb3
        obtain ⟨i, v, hi, rfl, rfl, hown, hbel⟩ := hrel
        by_cases hlt : i < n1
        · have hix : i < x.length := by have := HN.out.2; omega
          obtain ⟨b, o, rfl, _, hbW, d0⟩ := u8At hx hix
          have hstep := exL_succ l hix
          have hlen := exL_len l x i
          rw [two] at hstep
          have hy := UInt8.toNat_lt (x[i]?.getD 0)
          generalize (x[i]?.getD 0).toNat = y at *
          have HS := Lib.hid hstep
          have hL : (exL l x i).length + 2 ≤ 1000000000 := by have := HN.out.1; omega
          generalize exL l x i = q at *
          have HL := Lib.hid hL
          clear hstep hlen hL
          have hdi : decide ((i : Int) < (n1 : Int)) = true := by rw [decide_eq_true_eq]; omega
          have hi0 : (0 : Int) ≤ (i : Int) := by omega
          have hi1 : (i : Int) < (n1 : Int) := by omega
          have e0 := cellB d0
          have hw1 : IntKind.i64.wrap (1099511627775 - (y : Int) / 40) = 1099511627775 - (y : Int) / 40 := by rw [IntKind.wrap_i64]; omega
          have k1 : (y : Int).tmod 40 = (y : Int) % 40 := Int.tmod_eq_emod_of_nonneg (by omega)
          have k2 : (y : Int).tdiv 40 = (y : Int) / 40 := Int.tdiv_eq_ediv_of_nonneg (by omega)
          have kw1 : IntKind.u8.wrap ((y : Int) % 40) = (y : Int) % 40 := by rw [IntKind.wrap_u8]; omega
          have kw2 : IntKind.u8.wrap ((y : Int) / 40) = (y : Int) / 40 := by rw [IntKind.wrap_u8]; omega
          have kw3 : IntKind.i64.wrap ((y : Int) % 40) = (y : Int) % 40 := by rw [IntKind.wrap_i64]; omega
          have kw4 : IntKind.i64.wrap ((y : Int) / 40) = (y : Int) / 40 := by rw [IntKind.wrap_i64]; omega
          go_wp2_with fail
          have hS0 : KB w.heap wr.drew := KB.of hbel.drew
          have how1 := hown.below ((Below.refl wr.heap.size wr).drew.alloc (Nat.le_refl _) (.cells #[.int .i64 ((y : Int) % 40), .int .i64 (1099511627775 - (y : Int) / 40)] 2))
          have hbx := hbel.drew.alloc hbel.size (.cells #[.int .i64 ((y : Int) % 40), .int .i64 (1099511627775 - (y : Int) / 40)] 2)
          have hsl : Sl (wr.drew.alloc (.cells #[.int .i64 ((y : Int) % 40), .int .i64 (1099511627775 - (y : Int) / 40)] 2)) (wr.heap.size + 1) (some ⟨wr.heap.size, 0, none⟩) (zv [(y : Int) % 40, 1099511627775 - (y : Int) / 40]) := Sl.new wr.drew 2 #[.int .i64 ((y : Int) % 40), .int .i64 (1099511627775 - (y : Int) / 40)] (0, 0)
          refine bstartH (w.heap) (by kernel_rfl) ?_
          refine btake 0 (oi := _) (v := ?_) (by simp only [List.getElem?_toArray, List.getElem?_cons_zero]; rfl) (by kernel_rfl) (by exact fun _ _ _ h => h) (by first | assumption | exact KB.refl _) (.inl ⟨by rfl, fun W hW => ?_⟩) ?_; rotate_left
          · (go_simp; first | done | with_reducible rfl)
          try simp only [Act.put, List.setIfInBounds_toArray, List.set_cons_zero, List.set_cons_succ]
          refine btake 1 (oi := _) (v := ?_) (by simp only [List.getElem?_toArray, List.getElem?_cons_succ, List.getElem?_cons_zero]; rfl) (by kernel_rfl) (by exact fun _ _ _ h => h) (by first | assumption | exact KB.refl _) (.inl ⟨by rfl, fun W hW => ?_⟩) ?_; rotate_left
          · (go_simp; first | done | with_reducible rfl)
          try simp only [Act.put, List.setIfInBounds_toArray, List.set_cons_zero, List.set_cons_succ]
          refine btake 2 (oi := _) (v := ?_) (by simp only [List.getElem?_toArray, List.getElem?_cons_succ, List.getElem?_cons_zero]; rfl) (by kernel_rfl) (by exact fun _ _ _ h => h) (by first | assumption | exact KB.refl _) (.inl ⟨by rfl, fun W hW => ?_⟩) ?_; rotate_left
          · (go_simp; first | done | with_reducible rfl)
          try simp only [Act.put, List.setIfInBounds_toArray, List.set_cons_zero, List.set_cons_succ]
          refine btake 3 (oi := _) (v := ?_) (by simp only [List.getElem?_toArray, List.getElem?_cons_succ, List.getElem?_cons_zero]; rfl) (by kernel_rfl) (by exact fun _ _ _ h => h) (by first | assumption | exact KB.refl _) (.inl ⟨by rfl, fun W hW => ?_⟩) ?_; rotate_left
          · (go_simp; first | done | with_reducible rfl)
          try simp only [Act.put, List.setIfInBounds_toArray, List.set_cons_zero, List.set_cons_succ]
          refine btake 4 (oi := _) (v := ?_) (by simp only [List.getElem?_toArray, List.getElem?_cons_succ, List.getElem?_cons_zero]; rfl) (by kernel_rfl) (by exact fun _ _ _ h => h) (by first | assumption | exact KB.refl _) (.inl ⟨by rfl, fun W hW => ?_⟩) ?_; rotate_left
          · (go_simp; first | done | with_reducible rfl)
          try simp only [Act.put, List.setIfInBounds_toArray, List.set_cons_zero, List.set_cons_succ]
          refine btake 5 (oi := _) (v := ?_) (by simp only [List.getElem?_toArray, List.getElem?_cons_succ, List.getElem?_cons_zero]; rfl) (by kernel_rfl) (by exact fun _ _ _ h => h) (by first | assumption | exact KB.refl _) (.inl ⟨by rfl, fun W hW => ?_⟩) ?_; rotate_left
          · (go_simp; first | done | with_reducible rfl)
          try simp only [Act.put, List.setIfInBounds_toArray, List.set_cons_zero, List.set_cons_succ]
          refine btake 6 (oi := _) (v := ?_) (by simp only [List.getElem?_toArray, List.getElem?_cons_succ, List.getElem?_cons_zero]; rfl) (by kernel_rfl) (by exact fun _ _ _ h => h) (by first | assumption | exact KB.refl _) (.inl ⟨by rfl, fun W hW => ?_⟩) ?_; rotate_left
          · (go_simp; first | done | with_reducible rfl)
          try simp only [Act.put, List.setIfInBounds_toArray, List.set_cons_zero, List.set_cons_succ]
          refine btake 7 (oi := _) (v := ?_) (by simp only [List.getElem?_toArray, List.getElem?_cons_succ, List.getElem?_cons_zero]; rfl) (by kernel_rfl) (by exact fun _ _ _ h => h) (by first | assumption | exact KB.refl _) (.inl ⟨by rfl, fun W hW => ?_⟩) ?_; rotate_left
          · (go_simp; first | done | with_reducible rfl)
          try simp only [Act.put, List.setIfInBounds_toArray, List.set_cons_zero, List.set_cons_succ]
          refine btake 8 (oi := _) (v := ?_) (by simp only [List.getElem?_toArray, List.getElem?_cons_succ, List.getElem?_cons_zero]; rfl) (by kernel_rfl) (by exact fun _ _ _ h => h) (by first | assumption | exact KB.refl _) (.inl ⟨by rfl, fun W hW => ?_⟩) ?_; rotate_left
          · (go_simp; first | done | with_reducible rfl)
          try simp only [Act.put, List.setIfInBounds_toArray, List.set_cons_zero, List.set_cons_succ]
          refine btake 9 (oi := _) (v := ?_) (by simp only [List.getElem?_toArray, List.getElem?_cons_succ, List.getElem?_cons_zero]; rfl) (by kernel_rfl) (by exact fun _ _ _ h => h) (by first | assumption | exact KB.refl _) (.inl ⟨by rfl, fun W hW => ?_⟩) ?_; rotate_left
          · (go_simp; first | done | with_reducible rfl)
          try simp only [Act.put, List.setIfInBounds_toArray, List.set_cons_zero, List.set_cons_succ]
          refine btake 10 (oi := _) (v := ?_) (by simp only [List.getElem?_toArray, List.getElem?_cons_succ, List.getElem?_cons_zero]; rfl) (by kernel_rfl) (by exact fun _ _ _ h => h) (by first | assumption | exact KB.refl _) (.inl ⟨by rfl, fun W hW => ?_⟩) ?_; rotate_left
          · (go_simp; first | done | with_reducible rfl)
          try simp only [Act.put, List.setIfInBounds_toArray, List.set_cons_zero, List.set_cons_succ]
          refine btake 11 (oi := _) (v := ?_) (by simp only [List.getElem?_toArray, List.getElem?_cons_succ, List.getElem?_cons_zero]; rfl) (by kernel_rfl) (by exact fun _ _ _ h => h) (by first | assumption | exact KB.refl _) (.inl ⟨by rfl, fun W hW => ?_⟩) ?_; rotate_left
          · (go_simp; first | done | with_reducible rfl)
          try simp only [Act.put, List.setIfInBounds_toArray, List.set_cons_zero, List.set_cons_succ]
          refine btake 12 (oi := _) (v := ?_) (by simp only [List.getElem?_toArray, List.getElem?_cons_succ, List.getElem?_cons_zero]; rfl) (by kernel_rfl) (by exact fun _ _ _ h => h) (by first | assumption | exact KB.refl _) (.inl ⟨by rfl, fun W hW => ?_⟩) ?_; rotate_left
          · (go_simp; first | done | with_reducible rfl)
          try simp only [Act.put, List.setIfInBounds_toArray, List.set_cons_zero, List.set_cons_succ]
          refine btake 13 (oi := _) (v := ?_) (by simp only [List.getElem?_toArray, List.getElem?_cons_succ, List.getElem?_cons_zero]; rfl) (by kernel_rfl) (by exact fun _ _ _ h => h) (by first | assumption | exact KB.refl _) (.inl ⟨by rfl, fun W hW => ?_⟩) ?_; rotate_left
          · (go_simp; first | done | with_reducible rfl)
          try simp only [Act.put, List.setIfInBounds_toArray, List.set_cons_zero, List.set_cons_succ]
          -- 14: Op.buildSlice 35 2 #[(0, Operand.tmp 37), (1, Operand.tmp 44)]
          refine bopH 14 (o := _) (by simp only [List.getElem?_toArray, List.getElem?_cons_succ, List.getElem?_cons_zero]; rfl) (by kernel_rfl) (by first | assumption | exact KB.refl _) (by rfl) (fun K hK => ?_)
          go_simp
          have hkb : KB w.heap (wr.drew.alloc (.cells #[.int .i64 ((y : Int) % 40), .int .i64 (1099511627775 - (y : Int) / 40)] 2)) := KB.of hbx
          refine hK.out _ _ hkb ?_; clear hK K
          try simp only [Act.put, List.setIfInBounds_toArray, List.set_cons_zero, List.set_cons_succ]
          -- 15: Op.call { callee := Callee.builtin Builtin.append, args := #[Operand.tmp 31, Operand.tmp 45], argTypes := #[35, 35] }
          refine bopH 15 (o := _) (by simp only [List.getElem?_toArray, List.getElem?_cons_succ, List.getElem?_cons_zero]; rfl) (by kernel_rfl) (by first | assumption | exact KB.refl _) (by rfl) (fun K hK => ?_)
          refine wp_appZ rfl how1 hsl rfl rfl rfl HL.out hbx.size ?_
          intro v7 w7 h7 hg7 hat7
          have hb7 := own_belowZ hbx hbx.size how1 hg7
          have hkb := KB.of hb7
          refine hK.out _ _ hkb ?_; clear hK K
          try simp only [Act.put, List.setIfInBounds_toArray, List.set_cons_zero, List.set_cons_succ]
          refine btake 16 (oi := _) (v := ?_) (by simp only [List.getElem?_toArray, List.getElem?_cons_succ, List.getElem?_cons_zero]; rfl) (by kernel_rfl) (by exact fun _ _ _ h => h) (by first | assumption | exact KB.refl _) (.inl ⟨by rfl, fun W hW => ?_⟩) ?_; rotate_left
          · (go_simp; first | done | with_reducible rfl)
          try simp only [Act.put, List.setIfInBounds_toArray, List.set_cons_zero, List.set_cons_succ]
          refine bdone (by kernel_rfl) ?_
          clear hkb hS0 e0 how1 hbx hsl hown hbel k1 k2 kw1 kw2 kw3 kw4 hw1
          go_wp2_with fail
          go_roundw
          case rel => exact ⟨i + 1, _, by omega, by go_num, rfl, by rw [HS.out]; exact h7, hb7⟩
          case measure => simp [intOf] <;> omega
        · obtain rfl : i = n1 := by omega
          have hdi : decide ((i : Int) < (i : Int)) = false := by rw [decide_eq_false_iff_not]; omega
          have hlen := exL_len l x i
          obtain ⟨A3, c3, rfl, sL, hle3, hcm3⟩ := hown.form
          obtain ⟨L, hL⟩ : ∃ L, L = exL l x i := ⟨_, rfl⟩
          rw [← hL] at sL hle3 hlen ⊢
          obtain ⟨m, hm⟩ : ∃ m, m = L.length := ⟨_, rfl⟩
          rw [← hm] at hle3 hlen ⊢
          have hm3 : m ≤ 400 := by have := HN.out.1; omega
          have HL := Lib.hid (And.intro hm hm3)
          clear hown hlen hm hL hx hl
          go_wp2_with fail
          generalize hwz : wr = wz at sL hbel ⊢
          clear hwz
          go_loopw [9, 10] (fun x9 x10 wr => ∃ (i : Nat) (v : Value), i ≤ m ∧ x10 = .int .i64 (i : Int) ∧ v = x9 ∧ OwnZ wr wz.heap.size v (zturn L k i) ∧ Below wz.heap.size wz wr) (fun _ x10 _ => m - (intOf x10).toNat)
          case atStart => exact ⟨0, _, by omega, rfl, rfl, OwnZ.nil _ _, Below.refl _ _⟩
          case round =>
            obtain ⟨j, v, hj, rfl, rfl, hown, hbz⟩ := hrel
            by_cases hjm : j < m
            · have hr9 : (j + k) % m < m := Nat.mod_lt _ (by omega)
              obtain ⟨b, o, hA3, _, hbb, f0⟩ := zAt sL (k := m - 1 - (j + k) % m) (by have := HL.out.1; omega)
              replace f0 := (hbz.cell hbb).trans f0
              have hts := zturn_succ L k j
              have hta : zturnAt L k j = L[m - 1 - (j + k) % m]?.getD 0 := by rw [zturnAt, HL.out.1]
              rw [hta] at hts
              have hd4 : decide ((j : Int) < (m : Int)) = true := by rw [decide_eq_true_eq]; omega
              have k1 : IntKind.i64.wrap ((m : Int) - 1) = ((m - 1 : Nat) : Int) := by rw [IntKind.wrap_i64]; omega
              have k2 : IntKind.i64.wrap ((j : Int) + (k : Int)) = ((j + k : Nat) : Int) := by rw [IntKind.wrap_i64]; omega
              have k5 : IntKind.i64.wrap (k : Int) = (k : Int) := by rw [IntKind.wrap_i64]; omega
              have k3 : ((j + k : Nat) : Int).tmod (m : Int) = (((j + k) % m : Nat) : Int) := rfl
              have k4 : IntKind.i64.wrap (((m - 1 : Nat) : Int) - (((j + k) % m : Nat) : Int)) = ((m - 1 - (j + k) % m : Nat) : Int) := by rw [IntKind.wrap_i64]; omega
              have k6 : m - 1 - (j + k) % m < m := by omega
              have k7 : ((m : Int) == 0) = false := by rw [beq_eq_false_iff_ne]; omega
              have k8 : ¬ (m : Int) = 0 := by omega
              generalize L[m - 1 - (j + k) % m]?.getD 0 = y at *
              generalize m - 1 - (j + k) % m = t at *
              generalize (j + k) % m = r at *
              generalize j + k = u at *
              generalize m - 1 = v9 at *
              have k9 : (0 : Int) ≤ (t : Int) := by omega
              have k10 : (t : Int) < (m : Int) := by omega
              have HT := Lib.hid hts
              have hown2 := hown.below (boxZ wr y)
              have hbel2 := hbz.alloc hbz.size (.cells #[.int .i64 y] 2)
              have hSl := Sl.oneZ wr y
              have HZL := Lib.hid (show (zturn L k j).length + 1 ≤ 1000000000 by rw [zturn_len]; omega)
              subst hA3
              clear hts hta hown hr9 hj
              go_wp2_with (at_builtin; refine appZ rfl rfl hown2 hSl rfl rfl rfl (by rw [List.length_singleton]; exact HZL.out) hbel2.size ?_; intro v7 w7 h7 hg7 hat7)
              go_roundw
              case rel => exact ⟨j + 1, _, by omega, by go_num, rfl, by rw [HT.out]; exact h7, own_belowZ hbel2 hbel2.size hown2 hg7⟩
              case measure => simp [intOf] <;> omega
            · obtain rfl : j = m := by omega
              have hdj : decide ((j : Int) < (j : Int)) = false := by rw [decide_eq_false_iff_not]; omega
              have HTU := Lib.hid (show ofS (zturn L k j) = ofS L by rw [HL.out.1]; exact ofS_turn L k)
              obtain ⟨A4, c4, e4, sT, hle4, hcm4⟩ := hown.form
              rw [zturn_len] at e4 hle4
              subst e4
              have hbt := hbel.trans (hbz.mono hbel.size)
              replace sL := (sL.below hbz).more hbz.size
              clear hown hbel hbz
              generalize wr = wt at *
              obtain ⟨m, hmj⟩ : ∃ m, m = j := ⟨_, rfl⟩
              subst hmj
              have HOL := Lib.hid (show (ofS L).length ≤ 400 by have := ofS_len L; have := HL.out; omega)
              go_wp2_with fail
              refine (Of_any wt A3 m c3 L sL HL.out.1 (by omega)).mono ?_
              rintro e w1 ⟨As, cs, rfl, ss, hles, hcms, hkw1⟩
              obtain ⟨s, hs⟩ : ∃ L9, L9 = ofS (L) := ⟨_, rfl⟩
              rw [← hs] at ss hles ⊢
              have hns : s.length ≤ 400 := by rw [hs]; exact HOL.out
              have hrs : right s = true := by rw [hs]; exact ofS_right _
              obtain ⟨ms, hms⟩ : ∃ q9, q9 = s.length := ⟨_, rfl⟩
              rw [← hms] at hles hns ⊢
              have Hs := Lib.hid (And.intro hms (And.intro hns (And.intro hles (And.intro hcms hrs))))
              have Es := Lib.hid hs
              clear hs hms hns hles hcms hrs
              have hbw1 := hbt.trans (hkw1.mono hbt.size)
              replace sL := (sL.below hkw1).more hkw1.size
              replace sT := (sT.below hkw1).more hkw1.size
              clear hkw1 hbt
              go_wp2_with fail
              have hq := RRight_any w1 As ms cs s ss Hs.out.1 (by have := Hs.out; omega)
              rw [show right s = true from Hs.out.2.2.2.2] at hq
              refine Calls.mono hq ?_
              clear hq
              rintro e w2 ⟨rfl, hkw2⟩
              have hbw2 := hbw1.trans (hkw2.mono hbw1.size)
              replace ss := (ss.below hkw2).more hkw2.size
              replace sL := (sL.below hkw2).more hkw2.size
              replace sT := (sT.below hkw2).more hkw2.size
              clear hkw2 hbw1
              go_wp2_with fail
              refine (RROf_any w2 A3 m c3 L sL HL.out.1 (by omega)).mono ?_
              rintro e w3 ⟨At, ct, rfl, st, hlet, hcmt, hkw3⟩
              obtain ⟨t, ht⟩ : ∃ L9, L9 = ofS (L) := ⟨_, rfl⟩
              rw [← ht] at st hlet ⊢
              have hnt : t.length ≤ 400 := by rw [ht]; exact HOL.out
              have hrt : right t = true := by rw [ht]; exact ofS_right _
              obtain ⟨mt, hmt⟩ : ∃ q9, q9 = t.length := ⟨_, rfl⟩
              rw [← hmt] at hlet hnt ⊢
              have Ht := Lib.hid (And.intro hmt (And.intro hnt (And.intro hlet (And.intro hcmt hrt))))
              have Et := Lib.hid ht
              clear ht hmt hnt hlet hcmt hrt
              have hbw3 := hbw2.trans (hkw3.mono hbw2.size)
              replace ss := (ss.below hkw3).more hkw3.size
              replace sL := (sL.below hkw3).more hkw3.size
              replace sT := (sT.below hkw3).more hkw3.size
              clear hkw3 hbw2
              go_wp2_with fail
              have hq := SameR_any w3 (B := w3.heap.size) (B' := w3.heap.size) As At ms mt cs ct s t ss st Hs.out.1 Ht.out.1 (by have := Hs.out; omega) (by have := Ht.out; omega) (Nat.le_refl _) (Nat.le_refl _)
              rw [show decide (s = t) = true from (by rw [decide_eq_true_eq]; exact (Es.out.trans Et.out.symm))] at hq
              refine Calls.mono hq ?_
              clear hq
              rintro e w4 ⟨rfl, hkw4⟩
              have hbw4 := hbw3.trans (hkw4.mono hbw3.size)
              replace ss := (ss.below hkw4).more hkw4.size
              replace st := (st.below hkw4).more hkw4.size
              replace sL := (sL.below hkw4).more hkw4.size
              replace sT := (sT.below hkw4).more hkw4.size
              clear hkw4 hbw3
              clear st
              go_wp2_with fail
              refine (Of_any w4 A4 m c4 (zturn L k m) sT (by rw [zturn_len]) (by omega)).mono ?_
              rw [show ofS (zturn L k m) = ofS L from HTU.out]
              rintro e w5 ⟨Au, cu, rfl, su, hleu, hcmu, hkw5⟩
              obtain ⟨u, hu⟩ : ∃ L9, L9 = ofS L := ⟨_, rfl⟩
              rw [← hu] at su hleu ⊢
              have hnu : u.length ≤ 400 := by rw [hu]; exact HOL.out
              have hru : right u = true := by rw [hu]; exact ofS_right _
              obtain ⟨mu, hmu⟩ : ∃ q9, q9 = u.length := ⟨_, rfl⟩
              rw [← hmu] at hleu hnu ⊢
              have Hu := Lib.hid (And.intro hmu (And.intro hnu (And.intro hleu (And.intro hcmu hru))))
              have Eu := Lib.hid hu
              clear hu hmu hnu hleu hcmu hru
              have hbw5 := hbw4.trans (hkw5.mono hbw4.size)
              replace ss := (ss.below hkw5).more hkw5.size
              replace sL := (sL.below hkw5).more hkw5.size
              replace sT := (sT.below hkw5).more hkw5.size
              clear hkw5 hbw4
              go_wp2_with fail
              have hq := SameR_any w5 (B := w5.heap.size) (B' := w5.heap.size) Au As mu ms cu cs u s su ss Hu.out.1 Hs.out.1 (by have := Hu.out; omega) (by have := Hs.out; omega) (Nat.le_refl _) (Nat.le_refl _)
              rw [show decide (u = s) = true from (by rw [decide_eq_true_eq]; exact (Eu.out.trans Es.out.symm))] at hq
              refine Calls.mono hq ?_
              clear hq
              rintro e w6 ⟨rfl, hkw6⟩
              have hbw6 := hbw5.trans (hkw6.mono hbw5.size)
              replace ss := (ss.below hkw6).more hkw6.size
              replace su := (su.below hkw6).more hkw6.size
              replace sL := (sL.below hkw6).more hkw6.size
              replace sT := (sT.below hkw6).more hkw6.size
              clear hkw6 hbw5
              clear su
              clear sT
              go_wp2_with fail
              have HsL := Lib.hid (And.intro sL ss)
              clear sL ss
              go_loopw [12] (fun x12 wr => ∃ i : Nat, i ≤ m ∧ x12 = .int .i64 (i : Int) ∧ Below w6.heap.size w6 wr) (fun x12 _ => m - (intOf x12).toNat)
              case atStart => exact ⟨0, by omega, rfl, Below.refl _ _⟩
              case round =>
                obtain ⟨i9, hi9, rfl, hby⟩ := hrel
                by_cases hq9 : i9 < m
                · obtain ⟨b, o, hA3, _, hbb, f0⟩ := zAt HsL.out.1 (k := i9) (by have := HL.out.1; omega)
                  have hhas := of_has L (i := i9) (by have := HL.out.1; omega)
                  have sz := (HsL.out.2.below hby.drew).more hby.drew.size
                  rw [← Es.out] at hhas
                  subst hA3
                  generalize L[i9]?.getD 0 = z at *
                  have q0 : ∀ W, KB w6.heap W → W.cell? ⟨b, o + i9, none⟩ = some (.int .i64 z) := cellB f0
                  have hdi : decide ((i9 : Int) < (m : Int)) = true := by rw [decide_eq_true_eq]; omega
                  have hi0 : (0 : Int) ≤ (i9 : Int) := by omega
                  have hi1 : (i9 : Int) < (m : Int) := by omega
                  have hS0 : KB w6.heap wr.drew := KB.of hby.drew
                  have hc := RHas_any wr.drew As ms cs s sz Hs.out.1 (by have := Hs.out; omega) z
                  rw [hhas] at hc
                  obtain ⟨t1, ht1⟩ : ∃ t1, decide (1 ≤ z) = t1 := ⟨_, rfl⟩
                  obtain ⟨t2, ht2⟩ : ∃ t2, decide (z ≤ 1099511627775) = t2 := ⟨_, rfl⟩
                  rw [ht1, ht2] at hc
                  have HC := Lib.hid hc
                  clear hc hhas
                  cases t1 with
                  | true =>
                    go_wp2_with fail
                    refine bstartH (w6.heap) (by kernel_rfl) ?_
                    refine btake 0 (oi := _) (v := ?_) (by simp only [List.getElem?_toArray, List.getElem?_cons_zero]; rfl) (by kernel_rfl) (by exact fun _ _ _ h => h) (by first | assumption | exact KB.refl _) (.inl ⟨by rfl, fun W hW => ?_⟩) ?_; rotate_left
                    · (go_simp; first | done | with_reducible rfl)
                    try simp only [Act.put, List.setIfInBounds_toArray, List.set_cons_zero, List.set_cons_succ]
                    refine btake 1 (oi := _) (v := ?_) (by simp only [List.getElem?_toArray, List.getElem?_cons_succ, List.getElem?_cons_zero]; rfl) (by kernel_rfl) (by exact fun _ _ _ h => h) (by first | assumption | exact KB.refl _) (.inl ⟨by rfl, fun W hW => ?_⟩) ?_; rotate_left
                    · (go_simp; first | done | with_reducible rfl)
                    try simp only [Act.put, List.setIfInBounds_toArray, List.set_cons_zero, List.set_cons_succ]
                    refine btake 2 (oi := _) (v := ?_) (by simp only [List.getElem?_toArray, List.getElem?_cons_succ, List.getElem?_cons_zero]; rfl) (by kernel_rfl) (by exact fun _ _ _ h => h) (by first | assumption | exact KB.refl _) (.inl ⟨by rfl, fun W hW => ?_⟩) ?_; rotate_left
                    · (go_simp; first | done | with_reducible rfl)
                    try simp only [Act.put, List.setIfInBounds_toArray, List.set_cons_zero, List.set_cons_succ]
                    refine btake 3 (oi := _) (v := ?_) (by simp only [List.getElem?_toArray, List.getElem?_cons_succ, List.getElem?_cons_zero]; rfl) (by kernel_rfl) (by exact fun _ _ _ h => h) (by first | assumption | exact KB.refl _) (.inl ⟨by rfl, fun W hW => ?_⟩) ?_; rotate_left
                    · (go_simp; first | done | with_reducible rfl)
                    try simp only [Act.put, List.setIfInBounds_toArray, List.set_cons_zero, List.set_cons_succ]
                    refine btake 4 (oi := _) (v := ?_) (by simp only [List.getElem?_toArray, List.getElem?_cons_succ, List.getElem?_cons_zero]; rfl) (by kernel_rfl) (by exact fun _ _ _ h => h) (by first | assumption | exact KB.refl _) (.inl ⟨by rfl, fun W hW => ?_⟩) ?_; rotate_left
                    · (go_simp; first | done | with_reducible rfl)
                    try simp only [Act.put, List.setIfInBounds_toArray, List.set_cons_zero, List.set_cons_succ]
                    refine btake 6 (oi := _) (v := ?_) (by simp only [List.getElem?_toArray, List.getElem?_cons_succ, List.getElem?_cons_zero]; rfl) (by kernel_rfl) (by exact fun _ _ _ h => h) (by first | assumption | exact KB.refl _) (.inl ⟨by rfl, fun W hW => ?_⟩) ?_; rotate_left
                    · (go_simp; first | done | with_reducible rfl)
                    try simp only [Act.put, List.setIfInBounds_toArray, List.set_cons_zero, List.set_cons_succ]
                    refine btake 7 (oi := _) (v := ?_) (by simp only [List.getElem?_toArray, List.getElem?_cons_succ, List.getElem?_cons_zero]; rfl) (by kernel_rfl) (by exact fun _ _ _ h => h) (by first | assumption | exact KB.refl _) (.inl ⟨by rfl, fun W hW => ?_⟩) ?_; rotate_left
                    · (go_simp; first | done | with_reducible rfl)
                    try simp only [Act.put, List.setIfInBounds_toArray, List.set_cons_zero, List.set_cons_succ]
                    refine btake 8 (oi := _) (v := ?_) (by simp only [List.getElem?_toArray, List.getElem?_cons_succ, List.getElem?_cons_zero]; rfl) (by kernel_rfl) (by exact fun _ _ _ h => h) (by first | assumption | exact KB.refl _) (.inl ⟨by rfl, fun W hW => ?_⟩) ?_; rotate_left
                    · (go_simp; first | done | with_reducible rfl)
                    try simp only [Act.put, List.setIfInBounds_toArray, List.set_cons_zero, List.set_cons_succ]
                    refine btake 9 (oi := _) (v := ?_) (by simp only [List.getElem?_toArray, List.getElem?_cons_succ, List.getElem?_cons_zero]; rfl) (by kernel_rfl) (by exact fun _ _ _ h => h) (by first | assumption | exact KB.refl _) (.inl ⟨by rfl, fun W hW => ?_⟩) ?_; rotate_left
                    · (go_simp; first | done | with_reducible rfl)
                    try simp only [Act.put, List.setIfInBounds_toArray, List.set_cons_zero, List.set_cons_succ]
                    refine btake 10 (oi := _) (v := ?_) (by simp only [List.getElem?_toArray, List.getElem?_cons_succ, List.getElem?_cons_zero]; rfl) (by kernel_rfl) (by exact fun _ _ _ h => h) (by first | assumption | exact KB.refl _) (.inl ⟨by rfl, fun W hW => ?_⟩) ?_; rotate_left
                    · (go_simp; first | done | with_reducible rfl)
                    try simp only [Act.put, List.setIfInBounds_toArray, List.set_cons_zero, List.set_cons_succ]
                    -- 5: newsreel/span.Has
                    refine bopH 5 (o := _) (by simp only [List.getElem?_toArray, List.getElem?_cons_succ, List.getElem?_cons_zero]; rfl) (by kernel_rfl) (by first | assumption | exact KB.refl _) (by rfl) (fun K hK => ?_)
                    go_simp
                    refine HC.out.mono ?_
                    rintro e w8 ⟨rfl, hk8⟩
                    have hb8 := hby.drew.trans (hk8.mono hby.size)
                    have hkb := KB.of hb8
                    refine hK.out _ _ hkb ?_; clear hK K
                    try simp only [Act.put, List.setIfInBounds_toArray, List.set_cons_zero, List.set_cons_succ]
                    refine btake 11 (oi := _) (v := ?_) (by simp only [List.getElem?_toArray, List.getElem?_cons_succ, List.getElem?_cons_zero]; rfl) (by kernel_rfl) (by exact fun _ _ _ h => h) (by first | assumption | exact KB.refl _) (.inl ⟨by rfl, fun W hW => ?_⟩) ?_; rotate_left
                    · (go_simp; first | done | with_reducible rfl)
                    try simp only [Act.put, List.setIfInBounds_toArray, List.set_cons_zero, List.set_cons_succ]
                    refine btake 12 (oi := _) (v := ?_) (by simp only [List.getElem?_toArray, List.getElem?_cons_succ, List.getElem?_cons_zero]; rfl) (by kernel_rfl) (by exact fun _ _ _ h => h) (by first | assumption | exact KB.refl _) (.inl ⟨by rfl, fun W hW => ?_⟩) ?_; rotate_left
                    · (go_simp; first | done | with_reducible rfl)
                    try simp only [Act.put, List.setIfInBounds_toArray, List.set_cons_zero, List.set_cons_succ]
                    refine btake 13 (oi := _) (v := ?_) (by simp only [List.getElem?_toArray, List.getElem?_cons_succ, List.getElem?_cons_zero]; rfl) (by kernel_rfl) (by exact fun _ _ _ h => h) (by first | assumption | exact KB.refl _) (.inl ⟨by rfl, fun W hW => ?_⟩) ?_; rotate_left
                    · (go_simp; first | done | with_reducible rfl)
                    try simp only [Act.put, List.setIfInBounds_toArray, List.set_cons_zero, List.set_cons_succ]
                    refine btake 14 (oi := _) (v := ?_) (by simp only [List.getElem?_toArray, List.getElem?_cons_succ, List.getElem?_cons_zero]; rfl) (by kernel_rfl) (by exact fun _ _ _ h => h) (by first | assumption | exact KB.refl _) (.inl ⟨by rfl, fun W hW => ?_⟩) ?_; rotate_left
                    · (go_simp; first | done | with_reducible rfl)
                    try simp only [Act.put, List.setIfInBounds_toArray, List.set_cons_zero, List.set_cons_succ]
                    refine btake 15 (oi := _) (v := ?_) (by simp only [List.getElem?_toArray, List.getElem?_cons_succ, List.getElem?_cons_zero]; rfl) (by kernel_rfl) (by exact fun _ _ _ h => h) (by first | assumption | exact KB.refl _) (.inl ⟨by rfl, fun W hW => ?_⟩) ?_; rotate_left
                    · (go_simp; first | done | with_reducible rfl)
                    try simp only [Act.put, List.setIfInBounds_toArray, List.set_cons_zero, List.set_cons_succ]
                    refine btake 16 (oi := _) (v := ?_) (by simp only [List.getElem?_toArray, List.getElem?_cons_succ, List.getElem?_cons_zero]; rfl) (by kernel_rfl) (by exact fun _ _ _ h => h) (by first | assumption | exact KB.refl _) (.inl ⟨by rfl, fun W hW => ?_⟩) ?_; rotate_left
                    · (go_simp; first | done | with_reducible rfl)
                    try simp only [Act.put, List.setIfInBounds_toArray, List.set_cons_zero, List.set_cons_succ]
                    refine btake 17 (oi := _) (v := ?_) (by simp only [List.getElem?_toArray, List.getElem?_cons_succ, List.getElem?_cons_zero]; rfl) (by kernel_rfl) (by exact fun _ _ _ h => h) (by first | assumption | exact KB.refl _) (.inl ⟨by rfl, fun W hW => ?_⟩) ?_; rotate_left
                    · (go_simp; first | done | with_reducible rfl)
                    try simp only [Act.put, List.setIfInBounds_toArray, List.set_cons_zero, List.set_cons_succ]
                    refine btake 18 (oi := _) (v := ?_) (by simp only [List.getElem?_toArray, List.getElem?_cons_succ, List.getElem?_cons_zero]; rfl) (by kernel_rfl) (by exact fun _ _ _ h => h) (by first | assumption | exact KB.refl _) (.inl ⟨by rfl, fun W hW => ?_⟩) ?_; rotate_left
                    · (go_simp; first | done | with_reducible rfl)
                    try simp only [Act.put, List.setIfInBounds_toArray, List.set_cons_zero, List.set_cons_succ]
                    refine bdone (by kernel_rfl) ?_
                    clear hkb hS0 q0 f0 sz hk8 hby
                    go_wp2_with fail
                    go_roundw
                    case rel => exact ⟨i9 + 1, by omega, by go_num, hb8⟩
                    case measure => simp [intOf] <;> omega
                  | false =>
                    go_wp2_with fail
                    refine bstartH (w6.heap) (by kernel_rfl) ?_
                    refine btake 0 (oi := _) (v := ?_) (by simp only [List.getElem?_toArray, List.getElem?_cons_zero]; rfl) (by kernel_rfl) (by exact fun _ _ _ h => h) (by first | assumption | exact KB.refl _) (.inl ⟨by rfl, fun W hW => ?_⟩) ?_; rotate_left
                    · (go_simp; first | done | with_reducible rfl)
                    try simp only [Act.put, List.setIfInBounds_toArray, List.set_cons_zero, List.set_cons_succ]
                    refine btake 1 (oi := _) (v := ?_) (by simp only [List.getElem?_toArray, List.getElem?_cons_succ, List.getElem?_cons_zero]; rfl) (by kernel_rfl) (by exact fun _ _ _ h => h) (by first | assumption | exact KB.refl _) (.inl ⟨by rfl, fun W hW => ?_⟩) ?_; rotate_left
                    · (go_simp; first | done | with_reducible rfl)
                    try simp only [Act.put, List.setIfInBounds_toArray, List.set_cons_zero, List.set_cons_succ]
                    refine btake 2 (oi := _) (v := ?_) (by simp only [List.getElem?_toArray, List.getElem?_cons_succ, List.getElem?_cons_zero]; rfl) (by kernel_rfl) (by exact fun _ _ _ h => h) (by first | assumption | exact KB.refl _) (.inl ⟨by rfl, fun W hW => ?_⟩) ?_; rotate_left
                    · (go_simp; first | done | with_reducible rfl)
                    try simp only [Act.put, List.setIfInBounds_toArray, List.set_cons_zero, List.set_cons_succ]
                    refine btake 3 (oi := _) (v := ?_) (by simp only [List.getElem?_toArray, List.getElem?_cons_succ, List.getElem?_cons_zero]; rfl) (by kernel_rfl) (by exact fun _ _ _ h => h) (by first | assumption | exact KB.refl _) (.inl ⟨by rfl, fun W hW => ?_⟩) ?_; rotate_left
                    · (go_simp; first | done | with_reducible rfl)
                    try simp only [Act.put, List.setIfInBounds_toArray, List.set_cons_zero, List.set_cons_succ]
                    refine btake 4 (oi := _) (v := ?_) (by simp only [List.getElem?_toArray, List.getElem?_cons_succ, List.getElem?_cons_zero]; rfl) (by kernel_rfl) (by exact fun _ _ _ h => h) (by first | assumption | exact KB.refl _) (.inl ⟨by rfl, fun W hW => ?_⟩) ?_; rotate_left
                    · (go_simp; first | done | with_reducible rfl)
                    try simp only [Act.put, List.setIfInBounds_toArray, List.set_cons_zero, List.set_cons_succ]
                    refine btake 6 (oi := _) (v := ?_) (by simp only [List.getElem?_toArray, List.getElem?_cons_succ, List.getElem?_cons_zero]; rfl) (by kernel_rfl) (by exact fun _ _ _ h => h) (by first | assumption | exact KB.refl _) (.inl ⟨by rfl, fun W hW => ?_⟩) ?_; rotate_left
                    · (go_simp; first | done | with_reducible rfl)
                    try simp only [Act.put, List.setIfInBounds_toArray, List.set_cons_zero, List.set_cons_succ]
                    refine btake 7 (oi := _) (v := ?_) (by simp only [List.getElem?_toArray, List.getElem?_cons_succ, List.getElem?_cons_zero]; rfl) (by kernel_rfl) (by exact fun _ _ _ h => h) (by first | assumption | exact KB.refl _) (.inl ⟨by rfl, fun W hW => ?_⟩) ?_; rotate_left
                    · (go_simp; first | done | with_reducible rfl)
                    try simp only [Act.put, List.setIfInBounds_toArray, List.set_cons_zero, List.set_cons_succ]
                    refine btake 8 (oi := _) (v := ?_) (by simp only [List.getElem?_toArray, List.getElem?_cons_succ, List.getElem?_cons_zero]; rfl) (by kernel_rfl) (by exact fun _ _ _ h => h) (by first | assumption | exact KB.refl _) (.inl ⟨by rfl, fun W hW => ?_⟩) ?_; rotate_left
                    · (go_simp; first | done | with_reducible rfl)
                    try simp only [Act.put, List.setIfInBounds_toArray, List.set_cons_zero, List.set_cons_succ]
                    refine btake 9 (oi := _) (v := ?_) (by simp only [List.getElem?_toArray, List.getElem?_cons_succ, List.getElem?_cons_zero]; rfl) (by kernel_rfl) (by exact fun _ _ _ h => h) (by first | assumption | exact KB.refl _) (.inl ⟨by rfl, fun W hW => ?_⟩) ?_; rotate_left
                    · (go_simp; first | done | with_reducible rfl)
                    try simp only [Act.put, List.setIfInBounds_toArray, List.set_cons_zero, List.set_cons_succ]
                    refine btake 10 (oi := _) (v := ?_) (by simp only [List.getElem?_toArray, List.getElem?_cons_succ, List.getElem?_cons_zero]; rfl) (by kernel_rfl) (by exact fun _ _ _ h => h) (by first | assumption | exact KB.refl _) (.inl ⟨by rfl, fun W hW => ?_⟩) ?_; rotate_left
                    · (go_simp; first | done | with_reducible rfl)
                    try simp only [Act.put, List.setIfInBounds_toArray, List.set_cons_zero, List.set_cons_succ]
                    -- 5: newsreel/span.Has
                    refine bopH 5 (o := _) (by simp only [List.getElem?_toArray, List.getElem?_cons_succ, List.getElem?_cons_zero]; rfl) (by kernel_rfl) (by first | assumption | exact KB.refl _) (by rfl) (fun K hK => ?_)
                    go_simp
                    refine HC.out.mono ?_
                    rintro e w8 ⟨rfl, hk8⟩
                    have hb8 := hby.drew.trans (hk8.mono hby.size)
                    have hkb := KB.of hb8
                    refine hK.out _ _ hkb ?_; clear hK K
                    try simp only [Act.put, List.setIfInBounds_toArray, List.set_cons_zero, List.set_cons_succ]
                    refine btake 11 (oi := _) (v := ?_) (by simp only [List.getElem?_toArray, List.getElem?_cons_succ, List.getElem?_cons_zero]; rfl) (by kernel_rfl) (by exact fun _ _ _ h => h) (by first | assumption | exact KB.refl _) (.inl ⟨by rfl, fun W hW => ?_⟩) ?_; rotate_left
                    · (go_simp; first | done | with_reducible rfl)
                    try simp only [Act.put, List.setIfInBounds_toArray, List.set_cons_zero, List.set_cons_succ]
                    refine btake 12 (oi := _) (v := undef) (by simp only [List.getElem?_toArray, List.getElem?_cons_succ, List.getElem?_cons_zero]; rfl) (by kernel_rfl) (by exact fun _ _ _ h => h) (by first | assumption | exact KB.refl _) (.inr ⟨by rfl, rfl⟩) ?_
                    try simp only [Act.put, List.setIfInBounds_toArray, List.set_cons_zero, List.set_cons_succ]
                    refine btake 13 (oi := _) (v := undef) (by simp only [List.getElem?_toArray, List.getElem?_cons_succ, List.getElem?_cons_zero]; rfl) (by kernel_rfl) (by exact fun _ _ _ h => h) (by first | assumption | exact KB.refl _) (.inr ⟨by rfl, rfl⟩) ?_
                    try simp only [Act.put, List.setIfInBounds_toArray, List.set_cons_zero, List.set_cons_succ]
                    refine btake 14 (oi := _) (v := undef) (by simp only [List.getElem?_toArray, List.getElem?_cons_succ, List.getElem?_cons_zero]; rfl) (by kernel_rfl) (by exact fun _ _ _ h => h) (by first | assumption | exact KB.refl _) (.inr ⟨by rfl, rfl⟩) ?_
                    try simp only [Act.put, List.setIfInBounds_toArray, List.set_cons_zero, List.set_cons_succ]
                    refine btake 15 (oi := _) (v := undef) (by simp only [List.getElem?_toArray, List.getElem?_cons_succ, List.getElem?_cons_zero]; rfl) (by kernel_rfl) (by exact fun _ _ _ h => h) (by first | assumption | exact KB.refl _) (.inr ⟨by rfl, rfl⟩) ?_
                    try simp only [Act.put, List.setIfInBounds_toArray, List.set_cons_zero, List.set_cons_succ]
                    refine btake 16 (oi := _) (v := undef) (by simp only [List.getElem?_toArray, List.getElem?_cons_succ, List.getElem?_cons_zero]; rfl) (by kernel_rfl) (by exact fun _ _ _ h => h) (by first | assumption | exact KB.refl _) (.inr ⟨by rfl, rfl⟩) ?_
                    try simp only [Act.put, List.setIfInBounds_toArray, List.set_cons_zero, List.set_cons_succ]
                    refine btake 17 (oi := _) (v := ?_) (by simp only [List.getElem?_toArray, List.getElem?_cons_succ, List.getElem?_cons_zero]; rfl) (by kernel_rfl) (by exact fun _ _ _ h => h) (by first | assumption | exact KB.refl _) (.inl ⟨by rfl, fun W hW => ?_⟩) ?_; rotate_left
                    · (go_simp; first | done | with_reducible rfl)
                    try simp only [Act.put, List.setIfInBounds_toArray, List.set_cons_zero, List.set_cons_succ]
                    refine btake 18 (oi := _) (v := ?_) (by simp only [List.getElem?_toArray, List.getElem?_cons_succ, List.getElem?_cons_zero]; rfl) (by kernel_rfl) (by exact fun _ _ _ h => h) (by first | assumption | exact KB.refl _) (.inl ⟨by rfl, fun W hW => ?_⟩) ?_; rotate_left
                    · (go_simp; first | done | with_reducible rfl)
                    try simp only [Act.put, List.setIfInBounds_toArray, List.set_cons_zero, List.set_cons_succ]
                    refine bdone (by kernel_rfl) ?_
                    clear hkb hS0 q0 f0 sz hk8 hby
                    go_wp2_with fail
                    go_roundw
                    case rel => exact ⟨i9 + 1, by omega, by go_num, hb8⟩
                    case measure => simp [intOf] <;> omega
                · obtain rfl : i9 = m := by omega
                  have hdi : decide ((i9 : Int) < (i9 : Int)) = false := by rw [decide_eq_false_iff_not]; omega
                  have hfin := hbw6.trans (hby.mono hbw6.size)
                  go_wp2_with fail
                  go_ret
                  exact ⟨rfl, hfin⟩
    · have d2 : decide ((100 : Int) < (n1 : Int)) = true := by rw [decide_eq_true_eq]; omega
      go_wp2_with fail
      go_ret
      exact ⟨rfl, hb0⟩
  · have d1 : decide ((100 : Int) < (n : Int)) = true := by rw [decide_eq_true_eq]; omega
    go_wp2_with fail
    go_ret
    exact ⟨rfl, hb0⟩
end Go.Proofs.Ytdpkmabojlihmaa

