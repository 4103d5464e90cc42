/- Disks: the program's Read, Truncate. -/
import Derived.Test.YthnbnhlfiehihaaDk8
namespace Go.Proofs.Ythnbnhlfiehihaa
open Go.RowKit Go.Maps
set_option maxRecDepth 20000

def ReadPost (w : World) (r : List UInt8 × Bool) (e : Ending) (w' : World) : Prop :=
  ∃ A c, e = .returned (.tuple #[.slice A r.1.length c, .bool r.2]) ∧ Sl w' w'.heap.size A (bv r.1) ∧ (∀ a, A = some a → w.heap.size ≤ a.block) ∧ Below w.heap.size w w'
theorem Read_any (w : World) (p : Nat) (F H : Nat → Prop) (s : DK) (n : Nat) (h : PD w p F H s) (hok : s.ok n) (x : Nm) (hx : x.length ≤ maxLen) :
    Calls Try.prog 15 #[.pointer (some ⟨p, 0, none⟩), str x] w (ReadPost w (s.read x)) := by
  obtain ⟨mb, hA, _⟩ := h.box
  have c6 := hA.c 6 rfl
  clear hA
  have hol := old_le hok x
  have hU := hok.used
  have hR := hok.room
  obtain ⟨off, ho⟩ : ∃ off, s.off = off := ⟨_, rfl⟩
  rw [ho] at c6
  cases off with
  | true =>
    have e1 : s.read x = ([], false) := by simp [DK.read, ho]
    rw [e1]
    go_enter Try.func15, Try.ntmps15
    go_wp2
    go_ret2
    exact ⟨none, 0, rfl, .inl rfl, (fun a h => (by cases h)), Below.refl _ _⟩
  | false =>
    have hH := has_any w p F H s h x hx
    obtain ⟨b, hb⟩ : ∃ b, s.has x = b := ⟨_, rfl⟩
    rw [hb] at hH
    cases b with
    | false =>
      have e1 : s.read x = ([], false) := by simp [DK.read, hb]
      rw [e1]
      go_enter Try.func15, Try.ntmps15
      go_wp2_with (go_at_call 28; refine hH.mono ?_; rintro e w1 ⟨rfl, hb1⟩)
      go_ret2
      exact ⟨none, 0, rfl, .inl rfl, (fun a h => (by cases h)), hb1⟩
    | true =>
      have e1 : s.read x = ((s.fileOf x).b, true) := by
        unfold DK.has at hb
        simp only [DK.read, DK.has, DK.fileOf, ho]
        cases hl : look s.R x with
        | none => rw [hl] at hb; cases hb
        | some f => simp
      rw [e1]
      obtain ⟨ol, hole⟩ : ∃ ol, (s.fileOf x).b.length = ol := ⟨_, rfl⟩
      obtain ⟨os, hose⟩ : ∃ os, (s.fileOf x).s = os := ⟨_, rfl⟩
      rw [hole] at hol
      have hfd := fld0
      go_enter Try.func15, Try.ntmps15
      go_wp2_with (first
        | (go_at_call 28; refine hH.mono ?_; rintro e w1 ⟨rfl, hb1⟩; obtain ⟨mb, g, c, hA, hlk, _, hfv⟩ := (h.below hb1).tell x hx; replace hlk := hlk w1 (KB.refl _); have c0 := hA.c 0 rfl; clear hA; rw [hole, hose] at hlk)
        | (go_at_call 32; refine (Clone_any w1 w1.heap.size (adr g) ol c (s.fileOf x).b hfv.1 hole.symm (by omega)).mono ?_; rintro e w2 ⟨A2, c2, rfl, hown, hb2⟩))
      go_ret2
      exact ⟨A2, c2, by dsimp only; rw [hole]; rfl, (OwnB.sl hown).1, (fun a h => Nat.le_trans hb1.size (by obtain ⟨A', c', e', _, _, _, _, h5⟩ := hown.form; injection e' with e1 _ _; subst e1; exact (h5 a h).1)), hb1.trans (hb2.mono hb1.size)⟩
set_option maxRecDepth 100000 in
set_option maxHeartbeats 1600000 in
theorem Truncate_any (w : World) (p : Nat) (F H : Nat → Prop) (s : DK) (n : Nat) (h : PD w p F H s) (hok : s.ok n) (hn : n < 1000000) (x : Nm) (hx : x.length ≤ maxLen) (k : Int) (h0 : -9223372036854775808 ≤ k) (h1 : k ≤ 9223372036854775807) :
    Calls Try.prog 43 #[.pointer (some ⟨p, 0, none⟩), str x, .int .i64 k] w (AppendPost w p F H (s.truncate x k)) := by
  obtain ⟨q, hq⟩ : ∃ q, s.power.off = q := ⟨_, rfl⟩
  have hP := power_at w p F H s n hq h hok
  cases q with
  | true =>
    have e1 : s.truncate x k = (34, s.power) := by simp [DK.truncate, hq]
    rw [e1]
    go_enter Try.func43, Try.ntmps43
    go_wp2_with (go_at_call 27; refine hP.mono ?_; rintro e w1 ⟨rfl, hp1, hg1⟩)
    go_ret
    exact ⟨rfl, H, hp1, fun _ => .inl, hg1⟩
  | false =>
    obtain ⟨b, hb⟩ : ∃ b, s.has x = b := ⟨_, rfl⟩
    have hH := fun W hW => has_at W p F H s hb hW hx
    cases b with
    | false =>
      have e1 : s.truncate x k = (31, s.power) := by simp [DK.truncate, hq, hb]
      rw [e1]
      go_enter Try.func43, Try.ntmps43
      go_wp2_with (first
        | (go_at_call 27; refine hP.mono ?_; rintro e w1 ⟨rfl, hp1, hg1⟩)
        | (go_at_call 28; refine (hH _ hp1).mono ?_; rintro e w2 ⟨rfl, hp2, hb2⟩))
      go_ret
      exact ⟨rfl, H, hp2, fun _ => .inl, hg1.trans (Grew.below hb2) (fun _ _ => id)⟩
    | true =>
      have hol := old_le hok.power x
      have hU := hok.power.used
      have hR := hok.power.room
      obtain ⟨ol, hole⟩ : ∃ ol, (s.power.fileOf x).b.length = ol := ⟨_, rfl⟩
      obtain ⟨os, hose⟩ : ∃ os, (s.power.fileOf x).s = os := ⟨_, rfl⟩
      rw [hole] at hol
      have hlen : s.lenOf x = ol := by
        rw [← hole, power_file]; unfold DK.lenOf DK.fileOf; cases look s.R x <;> rfl
      have hfd := fld0
      rcases Int.lt_or_le k 0 with hk | hk
      · have e1 : s.truncate x k = (24, s.power) := by simp [DK.truncate, hq, hb, hk]
        rw [e1]
        have hd : decide (k < 0) = true := by simpa using hk
        go_enter Try.func43, Try.ntmps43
        go_wp2_with (first
          | (go_at_call 27; refine hP.mono ?_; rintro e w1 ⟨rfl, hp1, hg1⟩)
          | (go_at_call 28; refine (hH _ hp1).mono ?_; rintro e w2 ⟨rfl, hp2, hb2⟩; have hg2 := hg1.trans (Grew.below hb2) (fun _ _ => id); obtain ⟨mb, g, c, hA, hlk, _, hfv⟩ := hp2.tell x hx; replace hlk := hlk w2 (KB.refl _); have c0 := hA.c 0 rfl; clear hA; rw [hole, hose] at hlk))
        go_ret
        exact ⟨rfl, H, hp2, fun _ => .inl, hg2⟩
      · have hd : decide (k < 0) = false := by simpa using hk
        obtain ⟨m, rfl⟩ : ∃ m : Nat, k = (m : Int) := ⟨k.toNat, by omega⟩
        by_cases hm : ol < m
        · have e1 : s.truncate x m = (24, s.power) := by simp [DK.truncate, hq, hb, hlen, hm]
          rw [e1]
          have hd2 : decide ((ol : Int) < (m : Int)) = true := by simpa using hm
          go_enter Try.func43, Try.ntmps43
          go_wp2_with (first
            | (go_at_call 27; refine hP.mono ?_; rintro e w1 ⟨rfl, hp1, hg1⟩)
            | (go_at_call 28; refine (hH _ hp1).mono ?_; rintro e w2 ⟨rfl, hp2, hb2⟩; have hg2 := hg1.trans (Grew.below hb2) (fun _ _ => id); obtain ⟨mb, g, c, hA, hlk, _, hfv⟩ := hp2.tell x hx; replace hlk := hlk w2 (KB.refl _); have c0 := hA.c 0 rfl; clear hA; rw [hole, hose] at hlk))
          go_ret
          exact ⟨rfl, H, hp2, fun _ => .inl, hg2⟩
        · have e1 : s.truncate x m = (0, s.power.lay (putN s.power.R x ((s.power.fileOf x).first m))) := by
            have : ¬ ((m : Int) < 0 ∨ (s.lenOf x : Int) < (m : Int)) := by rw [hlen]; omega
            simp only [DK.truncate, hq, hb, Bool.false_eq_true, Bool.true_eq_false, if_false, if_neg this, putN_has hb, power_R, power_file, Int.toNat_natCast]
          rw [e1]
          have hd2 : decide ((ol : Int) < (m : Int)) = false := by simpa using hm
          go_enter Try.func43, Try.ntmps43
          go_wp2_with (first
            | (go_at_call 27; refine hP.mono ?_; rintro e w1 ⟨rfl, hp1, hg1⟩)
            | (go_at_call 28; refine (hH _ hp1).mono ?_; rintro e w2 ⟨rfl, hp2, hb2⟩; have hg2 := hg1.trans (Grew.below hb2) (fun _ _ => id); obtain ⟨mb, g, c, hA, hlk, _, hfv⟩ := hp2.tell x hx; replace hlk := hlk w2 (KB.refl _); have c0 := hA.c 0 rfl; clear hA; rw [hole, hose] at hlk)
            | (go_at_call 34; refine (first_any w2 (adr g) c os m ol (s.power.fileOf x).b hole hfv.1 (by omega) (by omega)).mono ?_; rintro e w3 ⟨g3, rfl, hfr, hb3⟩; have hp3 := pdNew (w := w2) (hp2.below hb3) hb3.size; have hv3 := hfr.fv (F := F) (H := H) (fun k hk => hp2.lt k (hp2.fh hk)))
            | (go_at_call 29; refine (set_at w3 p F (HN H w2 w3) n ⟨(s.power.fileOf x).first m, g3, m⟩ rfl (by simp only [DF.first, List.length_take, hole]; omega) rfl (by simp only [DF.first, hose]) hp3 hok.power hn hx (by rw [DF.first, hose]; exact hv3) (by omega)).mono ?_; rintro e w4 ⟨rfl, hp4, hg4⟩))
          go_ret
          exact ⟨rfl, HN H w2 w3, hp4, fun k hk => hk.elim .inl (fun h => .inr (Nat.le_trans hg2.size h.1)), (hg2.trans (Grew.below hb3) (fun _ _ h => h)).trans hg4 (fun _ _ => id)⟩
end Go.Proofs.Ythnbnhlfiehihaa

