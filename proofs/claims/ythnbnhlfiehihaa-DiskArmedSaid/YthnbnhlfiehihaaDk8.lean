/- Disks: the program's may, Append. -/
import Derived.Test.YthnbnhlfiehihaaDk7
namespace Go.Proofs.Ythnbnhlfiehihaa
open Go.RowKit Go.Maps
set_option maxRecDepth 20000

def mayC (s : DK) (x : Nm) (b : List UInt8) : Nat := if s.has x = false then 31 else if s.roomy x b = false then 33 else 0
set_option maxHeartbeats 1600000 in
theorem may_any (w : World) (p : Nat) (F H : Nat → Prop) (s : DK) (n : Nat) (h : PD w p F H s) (hok : s.ok n) (x : Nm) (hx : x.length ≤ maxLen) (A : Option Addr) (c l : Nat) (b : List UInt8) (hl : b.length = l) (hm : l ≤ 16777216) :
    Calls Try.prog 30 #[.pointer (some ⟨p, 0, none⟩), str x, .slice A l c] w fun e w' => e = .returned (.int .i64 (mayC s x b : Int)) ∧ Below w.heap.size w w' := by
  have hH := has_any w p F H s h x hx
  obtain ⟨mb, hA, _⟩ := h.box
  have hU := hok.used
  have hR := hok.room
  obtain ⟨is, his⟩ : ∃ is, s.has x = is := ⟨_, rfl⟩
  rw [his] at hH
  cases is with
  | false =>
    have e1 : mayC s x b = 31 := by simp [mayC, his]
    rw [e1]
    clear hA h
    go_enter Try.func30, Try.ntmps30
    go_wp2_with (go_at_call 28; refine hH.mono ?_; rintro e w1 ⟨rfl, hb1⟩)
    go_ret
    exact ⟨rfl, hb1⟩
  | true =>
    obtain ⟨q, hq⟩ : ∃ q, decide (((s.room : Int) - (usedR s.R : Int)) < (l : Int)) = q := ⟨_, rfl⟩
    have e1 : mayC s x b = if q then 33 else 0 := by
      rw [← hq]
      simp only [mayC, DK.roomy, his, hl, Bool.true_and, Bool.true_eq_false, if_false, decide_eq_false_iff_not, decide_eq_true_eq]
      by_cases hc : l ≤ s.room - usedR s.R
      · rw [if_neg (by omega), if_neg (by omega)]
      · rw [if_pos hc, if_pos (by omega)]
    have e2 : decide ((s.room : Int) < (usedR s.R : Int)) = false := by simp; omega
    rw [e1]
    clear e1 h
    generalize usedR s.R = U at *
    generalize s.room = room at *
    go_enter Try.func30, Try.ntmps30
    go_wp2_with (go_at_call 28; refine hH.mono ?_; rintro e w1 ⟨rfl, hb1⟩)
    have hA1 := hA.below hb1
    have e3 := hA1.e 1 rfl
    have e4 := hA1.e 2 rfl
    clear hA hA1 hH
    have hS0 : KB w1.heap w1.drew := KB.refl _
    refine bstartS (KB w1.heap) (by kernel_rfl) ?_
    refine btakeS 0 (oi := _) (v := ?_) (by simp only [List.getElem?_toArray, List.getElem?_cons_zero]; rfl) (by kernel_rfl) (by exact fun _ _ _ h => h) (by first | assumption | exact KB.refl _) (.inl ⟨by rfl, fun W hW => ?_⟩) ?_; rotate_left
    · (go_simp; first | done | with_reducible rfl)
    try simp only [Act.put, List.setIfInBounds_toArray, List.set_cons_zero, List.set_cons_succ]
    refine btakeS 1 (oi := _) (v := ?_) (by simp only [List.getElem?_toArray, List.getElem?_cons_succ, List.getElem?_cons_zero]; rfl) (by kernel_rfl) (by exact fun _ _ _ h => h) (by first | assumption | exact KB.refl _) (.inl ⟨by rfl, fun W hW => ?_⟩) ?_; rotate_left
    · (go_simp; first | done | with_reducible rfl)
    try simp only [Act.put, List.setIfInBounds_toArray, List.set_cons_zero, List.set_cons_succ]
    refine btakeS 2 (oi := _) (v := ?_) (by simp only [List.getElem?_toArray, List.getElem?_cons_succ, List.getElem?_cons_zero]; rfl) (by kernel_rfl) (by exact fun _ _ _ h => h) (by first | assumption | exact KB.refl _) (.inl ⟨by rfl, fun W hW => ?_⟩) ?_; rotate_left
    · (go_simp; first | done | with_reducible rfl)
    try simp only [Act.put, List.setIfInBounds_toArray, List.set_cons_zero, List.set_cons_succ]
    refine btakeS 3 (oi := _) (v := ?_) (by simp only [List.getElem?_toArray, List.getElem?_cons_succ, List.getElem?_cons_zero]; rfl) (by kernel_rfl) (by exact fun _ _ _ h => h) (by first | assumption | exact KB.refl _) (.inl ⟨by rfl, fun W hW => ?_⟩) ?_; rotate_left
    · (go_simp; first | done | with_reducible rfl)
    try simp only [Act.put, List.setIfInBounds_toArray, List.set_cons_zero, List.set_cons_succ]
    refine btakeS 4 (oi := _) (v := ?_) (by simp only [List.getElem?_toArray, List.getElem?_cons_succ, List.getElem?_cons_zero]; rfl) (by kernel_rfl) (by exact fun _ _ _ h => h) (by first | assumption | exact KB.refl _) (.inl ⟨by rfl, fun W hW => ?_⟩) ?_; rotate_left
    · (go_simp; first | done | with_reducible rfl)
    try simp only [Act.put, List.setIfInBounds_toArray, List.set_cons_zero, List.set_cons_succ]
    refine btakeS 5 (oi := _) (v := ?_) (by simp only [List.getElem?_toArray, List.getElem?_cons_succ, List.getElem?_cons_zero]; rfl) (by kernel_rfl) (by exact fun _ _ _ h => h) (by first | assumption | exact KB.refl _) (.inl ⟨by rfl, fun W hW => ?_⟩) ?_; rotate_left
    · (go_simp; first | done | with_reducible rfl)
    try simp only [Act.put, List.setIfInBounds_toArray, List.set_cons_zero, List.set_cons_succ]
    refine btakeS 6 (oi := _) (v := ?_) (by simp only [List.getElem?_toArray, List.getElem?_cons_succ, List.getElem?_cons_zero]; rfl) (by kernel_rfl) (by exact fun _ _ _ h => h) (by first | assumption | exact KB.refl _) (.inl ⟨by rfl, fun W hW => ?_⟩) ?_; rotate_left
    · (go_simp; first | done | with_reducible rfl)
    try simp only [Act.put, List.setIfInBounds_toArray, List.set_cons_zero, List.set_cons_succ]
    refine btakeS 7 (oi := _) (v := ?_) (by simp only [List.getElem?_toArray, List.getElem?_cons_succ, List.getElem?_cons_zero]; rfl) (by kernel_rfl) (by exact fun _ _ _ h => h) (by first | assumption | exact KB.refl _) (.inl ⟨by rfl, fun W hW => ?_⟩) ?_; rotate_left
    · (go_simp; first | done | with_reducible rfl)
    try simp only [Act.put, List.setIfInBounds_toArray, List.set_cons_zero, List.set_cons_succ]
    refine btakeS 8 (oi := _) (v := ?_) (by simp only [List.getElem?_toArray, List.getElem?_cons_succ, List.getElem?_cons_zero]; rfl) (by kernel_rfl) (by exact fun _ _ _ h => h) (by first | assumption | exact KB.refl _) (.inl ⟨by rfl, fun W hW => ?_⟩) ?_; rotate_left
    · (go_simp; first | done | with_reducible rfl)
    try simp only [Act.put, List.setIfInBounds_toArray, List.set_cons_zero, List.set_cons_succ]
    refine btakeS 9 (oi := _) (v := ?_) (by simp only [List.getElem?_toArray, List.getElem?_cons_succ, List.getElem?_cons_zero]; rfl) (by kernel_rfl) (by exact fun _ _ _ h => h) (by first | assumption | exact KB.refl _) (.inl ⟨by rfl, fun W hW => ?_⟩) ?_; rotate_left
    · (go_simp; first | done | with_reducible rfl)
    try simp only [Act.put, List.setIfInBounds_toArray, List.set_cons_zero, List.set_cons_succ]
    refine btakeS 10 (oi := _) (v := ?_) (by simp only [List.getElem?_toArray, List.getElem?_cons_succ, List.getElem?_cons_zero]; rfl) (by kernel_rfl) (by exact fun _ _ _ h => h) (by first | assumption | exact KB.refl _) (.inl ⟨by rfl, fun W hW => ?_⟩) ?_; rotate_left
    · (go_simp; first | done | with_reducible rfl)
    try simp only [Act.put, List.setIfInBounds_toArray, List.set_cons_zero, List.set_cons_succ]
    refine btakeS 11 (oi := _) (v := ?_) (by simp only [List.getElem?_toArray, List.getElem?_cons_succ, List.getElem?_cons_zero]; rfl) (by kernel_rfl) (by exact fun _ _ _ h => h) (by first | assumption | exact KB.refl _) (.inl ⟨by rfl, fun W hW => ?_⟩) ?_; rotate_left
    · (go_simp; first | done | with_reducible rfl)
    try simp only [Act.put, List.setIfInBounds_toArray, List.set_cons_zero, List.set_cons_succ]
    refine btakeS 12 (oi := _) (v := ?_) (by simp only [List.getElem?_toArray, List.getElem?_cons_succ, List.getElem?_cons_zero]; rfl) (by kernel_rfl) (by exact fun _ _ _ h => h) (by first | assumption | exact KB.refl _) (.inl ⟨by rfl, fun W hW => ?_⟩) ?_; rotate_left
    · (go_simp; first | done | with_reducible rfl)
    try simp only [Act.put, List.setIfInBounds_toArray, List.set_cons_zero, List.set_cons_succ]
    refine bdoneS (by kernel_rfl) ?_
    replace hb1 := hb1.drew
    rw [show IntKind.i64.wrap ((room : Int) - (U : Int)) = (room : Int) - (U : Int) from by rw [IntKind.wrap_i64]; omega, hq]
    clear hq
    cases q with
    | false =>
      go_wp2
      go_ret
      exact ⟨rfl, hb1⟩
    | true =>
      go_wp2
      go_ret
      exact ⟨rfl, hb1⟩
theorem FVat.le_add {W : World} {F H H' : Nat → Prop} {v : FV} (h : FVat W F H v) (hH : ∀ k, H k → H' k) : FVat W F H' v := h.mono hH (fun _ _ => id)
theorem pdNew {w W : World} {p : Nat} {F H : Nat → Prop} {s : DK} (h : PD W p F H s) (hs : w.heap.size ≤ W.heap.size) : PD W p F (HN H w W) s :=
  h.more (fun _ => .inl) (fun k hk => hk.elim (h.lt k) (fun h => h.2))
theorem putN_has {s : DK} {x : Nm} (hb : s.has x = true) (g : DF → DF) : mapR s.R x g = putN s.R x (g (s.fileOf x)) := by
  unfold DK.has at hb
  unfold mapR DK.fileOf
  cases hl : look s.R x with
  | none => rw [hl] at hb; cases hb
  | some f => rfl
theorem power_roomy (s : DK) (x : Nm) (b : List UInt8) : s.power.roomy x b = s.roomy x b := by unfold DK.roomy; rw [power_has, power_R, power_room]
theorem power_mayC (s : DK) (x : Nm) (b : List UInt8) : mayC s.power x b = mayC s x b := by unfold mayC; rw [power_has, power_roomy]
theorem roomy_le {s : DK} {x : Nm} {b : List UInt8} {n : Nat} (hok : s.ok n) (h : s.roomy x b = true) : usedR s.R + b.length ≤ s.room := by
  simp only [DK.roomy, Bool.and_eq_true, decide_eq_true_eq] at h
  have := hok.used
  omega
theorem off_power {s : DK} (h : s.off = true) : s.power = s := by unfold DK.power; rw [if_pos h]
def AppendPost (w : World) (p : Nat) (F H : Nat → Prop) (r : Nat × DK) (e : Ending) (w' : World) : Prop :=
  e = .returned (.int .i64 (r.1 : Int)) ∧ ∃ H' : Nat → Prop, PD w' p F H' r.2 ∧ (∀ k, H' k → H k ∨ w.heap.size ≤ k) ∧ Grew F w w'
set_option maxRecDepth 100000 in
set_option maxHeartbeats 3200000 in
theorem Append_any (w : World) (p : Nat) (F H : Nat → Prop) (s : DK) (n : Nat) (h : PD w p F H s) (hok : s.ok n) (hn : n < 1000000) (x : Nm) (hx : x.length ≤ maxLen) (A : Option Addr) (c l : Nat) (b : List UInt8) (hl : b.length = l) (hm : l ≤ 16777216) (hc : l ≤ c) (hS : Sl w w.heap.size A (bv b)) (hSF : b = [] ∨ ∀ a, A = some a → ¬ F a.block) :
    Calls Try.prog 10 #[.pointer (some ⟨p, 0, none⟩), str x, .slice A l c] w (AppendPost w p F H (s.append x b)) := by
  have hSg : ∀ W, Grew F w W → Sl W W.heap.size A (bv b) := fun W hg => by
    rcases hSF with rfl | hSF
    · exact .inl rfl
    rcases hS with hS | ⟨g, o, rfl, h1, h2, h3⟩
    · exact .inl hS
    · exact (Sl.grewN (.inr ⟨g, o, rfl, h1, h2, h3⟩ : Sl w w.heap.size _ _) hg (hSF _ rfl)).more hg.size
  obtain ⟨q, hq⟩ : ∃ q, s.power.off = q := ⟨_, rfl⟩
  have hP := power_at w p F H s n hq h hok
  obtain ⟨mb, hA, _⟩ := h.box
  have c6 := hA.c 6 rfl
  have hM := fun W hW => may_any W p F H s.power n hW hok.power x hx A c l b hl hm
  obtain ⟨mc, hmc⟩ : ∃ mc, mayC s x b = mc := ⟨_, rfl⟩
  rw [power_mayC, hmc] at hM
  have hk := power_keep s
  cases q with
  | true =>
    obtain ⟨was, hw⟩ : ∃ was, s.off = was := ⟨_, rfl⟩
    rw [hw] at c6
    clear hA
    cases was with
    | true =>
      have e1 : s.append x b = (34, s.power) := by simp [DK.append, hq, hw]
      rw [e1]
      go_enter Try.func10, Try.ntmps10
      go_wp2_with (go_at_call 27; refine hP.mono ?_; rintro e w1 ⟨rfl, hp1, hg1⟩)
      go_ret
      exact ⟨rfl, H, hp1, fun _ => .inl, hg1⟩
    | false =>
      by_cases h0 : mc = 0
      · subst h0
        have hb : s.has x = true := by
          cases hb : s.has x
          · simp [mayC, hb] at hmc
          · rfl
        have hr : s.roomy x b = true := by
          cases hr : s.roomy x b
          · simp [mayC, hb, hr] at hmc
          · rfl
        have e1 : s.append x b = (34, { s.power with R := putN s.power.R x ((s.power.fileOf x).behind (b.take s.keep.toNat)) }) := by
          simp only [DK.append, hq, hw, hr, if_true, and_self, putN_has hb, power_R, power_file, DK.cutK]
        rw [e1]
        have hle := roomy_le hok hr
        have hR := hok.room
        have hol := old_le hok x
        rw [hl] at hle
        replace hol : (s.power.fileOf x).b.length ≤ 16777216 := by rw [power_file]; omega
        have hofl := old_le hok x
        rw [← power_file] at hofl
        have hcl := hok.power.calls
        have hcf := hok.power.files
        have hwr : IntKind.i64.wrap (s.power.calls + 1 - 1) = s.power.calls := by rw [IntKind.wrap_i64]; omega
        go_enter Try.func10, Try.ntmps10
        go_wp2_with (first
          | (go_at_call 27; refine hP.mono ?_; rintro e w1 ⟨rfl, hp1, hg1⟩)
          | (go_at_call 30; refine (hM _ hp1).mono ?_; rintro e w2 ⟨rfl, hb2⟩; have hp2 := hp1.below hb2; have hg2 := hg1.trans (Grew.below hb2) (fun _ _ => id); obtain ⟨mb2, hA2, _⟩ := hp2.box; have c5 := hA2.c 5 rfl; rw [hk] at c5; clear hA2))
        all_goals (
          refine (behind_any w2 p F H s.power hp2 x hx A c _ (b.take s.keep.toNat) (by rw [List.length_take]; omega) (by rw [← bv_take]; exact (hSg w2 hg2).tk _) hol (by omega)).mono ?_
          rintro e w3 ⟨g, c', rfl, hfr, hb3⟩
          have hp3 := pdNew (w := w2) (hp2.below hb3) hb3.size
          have hv3 := hfr.fv (F := F) (H := H) (fun k hk => hp2.lt k (hp2.fh hk))
          go_wp2_with (go_at_call 29; refine (set_at w3 p F (HN H w2 w3) n ⟨(s.power.fileOf x).behind (b.take s.keep.toNat), g, c'⟩ rfl (by simp only [DF.behind, List.length_append, List.length_take]; omega) rfl rfl hp3 hok.power hn hx hv3 (by omega)).mono ?_; rintro e w4 ⟨rfl, hp4, hg4⟩; obtain ⟨mb4, hA4, _⟩ := hp4.box; have c3 : w4.cell? ⟨p, 3, none⟩ = some (.int .i64 (s.power.calls + 1)) := hA4.c 3 rfl; have f3 := hA4.f 3 rfl; clear hA4))
        all_goals (
          go_ret
          obtain ⟨hp5, hg5⟩ := hp4.rebox { s.power with R := putN s.power.R x ((s.power.fileOf x).behind (b.take s.keep.toNat)) } ((Grew.refl _ w4).putP _) (fun mb hA => hA.set 3 (.int .i64 s.power.calls) (by simp [boxP])) rfl
          exact ⟨rfl, HN H w2 w3, hp5, fun k hk => hk.elim .inl (fun h => .inr (Nat.le_trans hg2.size h.1)), ((hg2.trans (Grew.below hb3) (fun _ _ h => h)).trans hg4 (fun _ _ => id)).trans hg5 (fun _ _ => id)⟩)
      · have e1 : s.append x b = (34, s.power) := by
          have hr : ¬ s.roomy x b = true := fun hr => h0 (by
            have hb : s.has x = true := by simp only [DK.roomy, Bool.and_eq_true] at hr; exact hr.1
            rw [← hmc]; simp [mayC, hb, hr])
          simp [DK.append, hq, hw, hr]
        rw [e1]
        have hd : ((mc : Int) == 0) = false := by simp; omega
        go_enter Try.func10, Try.ntmps10
        go_wp2_with (first
          | (go_at_call 27; refine hP.mono ?_; rintro e w1 ⟨rfl, hp1, hg1⟩)
          | (go_at_call 30; refine (hM _ hp1).mono ?_; rintro e w2 ⟨rfl, hb2⟩; have hp2 := hp1.below hb2; have hg2 := hg1.trans (Grew.below hb2) (fun _ _ => id)))
        go_ret
        exact ⟨rfl, H, hp2, fun _ => .inl, hg2⟩
  | false =>
    clear hA
    by_cases h0 : mc = 0
    · subst h0
      have hb : s.has x = true := by
        cases hb : s.has x
        · simp [mayC, hb] at hmc
        · rfl
      have hr : s.roomy x b = true := by
        cases hr : s.roomy x b
        · simp [mayC, hb, hr] at hmc
        · rfl
      have e1 : s.append x b = (0, s.power.lay (putN s.power.R x ((s.power.fileOf x).behind b))) := by
        simp [DK.append, hq, hb, hr, putN_has hb, power_R, power_file]
      rw [e1]
      have hle := roomy_le hok hr
      have hR := hok.room
      have hol := old_le hok x
      rw [hl] at hle
      replace hol : (s.power.fileOf x).b.length ≤ 16777216 := by rw [power_file]; omega
      have hofl := old_le hok x
      rw [← power_file] at hofl
      have hcl := hok.power.calls
      have hcf := hok.power.files
      have hwr : IntKind.i64.wrap (s.power.calls + 1 - 1) = s.power.calls := by rw [IntKind.wrap_i64]; omega
      go_enter Try.func10, Try.ntmps10
      go_wp2_with (first
        | (go_at_call 27; refine hP.mono ?_; rintro e w1 ⟨rfl, hp1, hg1⟩)
        | (go_at_call 30; refine (hM _ hp1).mono ?_; rintro e w2 ⟨rfl, hb2⟩; have hp2 := hp1.below hb2; have hg2 := hg1.trans (Grew.below hb2) (fun _ _ => id)))
      refine (behind_any w2 p F H s.power hp2 x hx A c _ (b) (hl) (hSg w2 hg2) hol (by omega)).mono ?_
      rintro e w3 ⟨g, c', rfl, hfr, hb3⟩
      have hp3 := pdNew (w := w2) (hp2.below hb3) hb3.size
      have hv3 := hfr.fv (F := F) (H := H) (fun k hk => hp2.lt k (hp2.fh hk))
      go_wp2_with (go_at_call 29; refine (set_at w3 p F (HN H w2 w3) n ⟨(s.power.fileOf x).behind (b), g, c'⟩ rfl (by simp only [DF.behind, List.length_append]; omega) rfl rfl hp3 hok.power hn hx hv3 (by omega)).mono ?_; rintro e w4 ⟨rfl, hp4, hg4⟩)
      go_ret
      exact ⟨rfl, HN H w2 w3, hp4, fun k hk => hk.elim .inl (fun h => .inr (Nat.le_trans hg2.size h.1)), (hg2.trans (Grew.below hb3) (fun _ _ h => h)).trans hg4 (fun _ _ => id)⟩
    · have e1 : s.append x b = (mc, s.power) := by
        rw [← hmc]
        cases hb : s.has x
        · simp [DK.append, hq, hb, mayC]
        · cases hr : s.roomy x b
          · simp [DK.append, hq, hb, hr, mayC]
          · exact absurd hmc (by simp [mayC, hb, hr]; omega)
      rw [e1]
      have hd : ((mc : Int) == 0) = false := by simp; omega
      have hd2 : decide ((mc : Int) = 0) = false := by simp; omega
      go_enter Try.func10, Try.ntmps10
      go_wp2_with (first
        | (go_at_call 27; refine hP.mono ?_; rintro e w1 ⟨rfl, hp1, hg1⟩)
        | (go_at_call 30; refine (hM _ hp1).mono ?_; rintro e w2 ⟨rfl, hb2⟩; have hp2 := hp1.below hb2; have hg2 := hg1.trans (Grew.below hb2) (fun _ _ => id)))
      go_ret
      exact ⟨rfl, H, hp2, fun _ => .inl, hg2⟩
end Go.Proofs.Ythnbnhlfiehihaa

