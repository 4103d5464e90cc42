/- Disks: the program's Create, may, Sync, Rename, Remove. -/
import Derived.Test.YthnbnhlfiehihaaDk4
namespace Go.Proofs.Ythnbnhlfiehihaa
open Go.RowKit Go.Maps
set_option maxRecDepth 20000

section
variable (w : World) (p : Nat) (F H : Nat → Prop) (s : DK) (n : Nat)
theorem Sync_any (h : PD w p F H s) (hok : s.ok n) (hn : n < 1000000) (x : Nm) (hx : x.length ≤ maxLen) :
    Calls Try.prog 12 #[.pointer (some ⟨p, 0, none⟩), str x] w fun e w' => e = .returned (.int .i64 ((s.sync x).1 : Int)) ∧ PD w' p F H (s.sync x).2 ∧ Grew F w w' := by
  obtain ⟨q, hq⟩ : ∃ q, s.power.off = q := ⟨_, rfl⟩
  have hP := power_at w p F H s n hq h hok
  cases q with
  | true =>
    have e1 : s.sync x = (34, s.power) := by simp [DK.sync, hq]
    rw [e1]
    go_enter Try.func12, Try.ntmps12
    go_wp2_with (go_at_call 27; refine hP.mono ?_; rintro e w1 ⟨rfl, hp1, hg1⟩)
    go_ret
    exact ⟨rfl, hp1, hg1⟩
  | false =>
    obtain ⟨b, hb⟩ : ∃ b, s.has x = b := ⟨_, rfl⟩
    have hH := fun W hW => has_at W p F H s hb hW hx
    cases b with
    | false =>
      have e1 : s.sync x = (31, s.power) := by simp [DK.sync, hq, hb]
      rw [e1]
      go_enter Try.func12, Try.ntmps12
      go_wp2_with (first
        | (go_at_call 27; refine hP.mono ?_; rintro e w1 ⟨rfl, hp1, hg1⟩)
        | (go_at_call 28; refine (hH _ hp1).mono ?_; rintro e w2 ⟨rfl, hp2, hb2⟩))
      go_ret
      exact ⟨rfl, hp2, hg1.trans (Grew.below hb2) (fun _ _ => id)⟩
    | true =>
      have e1 : s.sync x = (0, s.power.lay (putN s.power.R x (s.power.fileOf x).sync)) := by
        simp only [DK.sync, hq, hb, mapR, power_R, power_file, DK.fileOf]
        unfold DK.has at hb
        cases hl : look s.R x with
        | none => rw [hl] at hb; cases hb
        | some f => simp
      rw [e1]
      have hol := old_le hok.power x
      have hou := hok.power.used
      have hor := hok.power.room
      go_enter Try.func12, Try.ntmps12
      go_wp2_with (first
        | (go_at_call 27; refine hP.mono ?_; rintro e w1 ⟨rfl, hp1, hg1⟩)
        | (go_at_call 28; refine (hH _ hp1).mono ?_; rintro e w2 ⟨rfl, hp2, hb2⟩; obtain ⟨mb, g, c, hA, hlk, _, hfv⟩ := hp2.tell x hx; replace hlk := hlk w2 (KB.refl _); have c0 := hA.c 0 rfl; clear hA))
      have hb3 : ∀ o, Below w2.heap.size w2 (w2.alloc o) := fun o => (Below.refl _ w2).alloc (Nat.le_refl _) o
      have hfv' : FVat w2 F H ⟨(s.power.fileOf x).sync, g, c⟩ := hfv
      refine (set_at _ p F H n ⟨(s.power.fileOf x).sync, g, c⟩ rfl rfl rfl rfl (hp2.below (hb3 _)) hok.power hn hx (FVat.grew (S := fun _ => False) hfv' (Grew.below (hb3 _)) (fun _ _ _ => id)) (show (s.power.fileOf x).b.length ≤ 16777216 by omega)).mono ?_
      rintro e w3 ⟨rfl, hp3, hg3⟩
      go_wp2
      go_ret
      exact ⟨rfl, hp3, ((hg1.trans (Grew.below hb2) (fun _ _ => id)).trans (Grew.below (hb3 _)) (fun _ _ h => h)).trans hg3 (fun _ _ => id)⟩
theorem Remove_any (h : PD w p F H s) (hok : s.ok n) (hn : n < 1000000) (x : Nm) (hx : x.length ≤ maxLen) :
    Calls Try.prog 47 #[.pointer (some ⟨p, 0, none⟩), str x] w fun e w' => e = .returned (.int .i64 ((s.remove x).1 : Int)) ∧ PD w' p F H (s.remove x).2 ∧ Grew F w w' := by
  obtain ⟨q, hq⟩ : ∃ q, s.power.off = q := ⟨_, rfl⟩
  have hP := power_at w p F H s n hq h hok
  cases q with
  | true =>
    have e1 : s.remove x = (34, s.power) := by simp [DK.remove, hq]
    rw [e1]
    go_enter Try.func47, Try.ntmps47
    go_wp2_with (go_at_call 27; refine hP.mono ?_; rintro e w1 ⟨rfl, hp1, hg1⟩)
    go_ret
    exact ⟨rfl, hp1, hg1⟩
  | false =>
    obtain ⟨b, hb⟩ : ∃ b, s.has x = b := ⟨_, rfl⟩
    have hH := fun W hW => has_at W p F H s hb hW hx
    cases b with
    | false =>
      have e1 : s.remove x = (31, s.power) := by simp [DK.remove, hq, hb]
      rw [e1]
      go_enter Try.func47, Try.ntmps47
      go_wp2_with (first
        | (go_at_call 27; refine hP.mono ?_; rintro e w1 ⟨rfl, hp1, hg1⟩)
        | (go_at_call 28; refine (hH _ hp1).mono ?_; rintro e w2 ⟨rfl, hp2, hb2⟩))
      go_ret
      exact ⟨rfl, hp2, hg1.trans (Grew.below hb2) (fun _ _ => id)⟩
    | true =>
      have e1 : s.remove x = (0, s.power.lay (delA s.power.R x)) := by simp [DK.remove, hq, hb, power_R]
      rw [e1]
      have hc0 := hok.power.files
      have hc1 := hok.power.calls
      have hwr : IntKind.i64.wrap (s.power.calls + 1) = s.power.calls + 1 := by rw [IntKind.wrap_i64]; omega
      go_enter Try.func47, Try.ntmps47
      go_wp2_with (first
        | (go_at_call 27; refine hP.mono ?_; rintro e w1 ⟨rfl, hp1, hg1⟩)
        | (go_at_call 28; refine (hH _ hp1).mono ?_; rintro e w2 ⟨rfl, hp2, hb2⟩)
        | (go_at_call 58; refine (gone_any _ p F H s.power n hp2 hok.power x hx).mono ?_; rintro e w3 ⟨rfl, hp3, hg3⟩; obtain ⟨mb, hA, _⟩ := hp3.box; have c3 := hA.c 3 rfl; have f3 := hA.f 3 rfl; clear hA))
      go_ret
      obtain ⟨hp4, hg4⟩ := hp3.rebox (s.power.lay (delA s.power.R x)) ((Grew.refl _ w3).putP _) (fun mb hA => hA.set 3 (.int .i64 (s.power.calls + 1)) (by simp [boxP])) rfl
      exact ⟨rfl, hp4, ((hg1.trans (Grew.below hb2) (fun _ _ => id)).trans hg3 (fun _ _ => id)).trans hg4 (fun _ _ => id)⟩
theorem Rename_any (h : PD w p F H s) (hok : s.ok n) (hn : n < 1000000) (x y : Nm) (hx : x.length ≤ maxLen) (hy : y.length ≤ maxLen) :
    Calls Try.prog 45 #[.pointer (some ⟨p, 0, none⟩), str x, str y] w fun e w' => e = .returned (.int .i64 ((s.rename x y).1 : Int)) ∧ PD w' p F H (s.rename x y).2 ∧ Grew F w w' := by
  obtain ⟨q, hq⟩ : ∃ q, s.power.off = q := ⟨_, rfl⟩
  have hP := power_at w p F H s n hq h hok
  cases q with
  | true =>
    have e1 : s.rename x y = (34, s.power) := by simp [DK.rename, hq]
    rw [e1]
    go_enter Try.func45, Try.ntmps45
    go_wp2_with (go_at_call 27; refine hP.mono ?_; rintro e w1 ⟨rfl, hp1, hg1⟩)
    go_ret
    exact ⟨rfl, hp1, hg1⟩
  | false =>
    obtain ⟨b, hb⟩ : ∃ b, s.has x = b := ⟨_, rfl⟩
    have hH := fun W hW => has_at W p F H s hb hW hx
    cases b with
    | false =>
      have e1 : s.rename x y = (31, s.power) := by simp [DK.rename, hq, hb]
      rw [e1]
      go_enter Try.func45, Try.ntmps45
      go_wp2_with (first
        | (go_at_call 27; refine hP.mono ?_; rintro e w1 ⟨rfl, hp1, hg1⟩)
        | (go_at_call 28; refine (hH _ hp1).mono ?_; rintro e w2 ⟨rfl, hp2, hb2⟩))
      go_ret
      exact ⟨rfl, hp2, hg1.trans (Grew.below hb2) (fun _ _ => id)⟩
    | true =>
      have e1 : s.rename x y = (0, ({ s.power with R := delA s.power.R x } : DK).lay (putN (delA s.power.R x) y (s.power.fileOf x))) := by
        simp only [DK.rename, hq, hb, renR, power_R, power_file, DK.fileOf]
        unfold DK.has at hb
        cases hl : look s.R x with
        | none => rw [hl] at hb; cases hb
        | some f => simp [DK.lay, hq]
      rw [e1]
      have hol := old_le hok.power x
      have hou := hok.power.used
      have hor := hok.power.room
      obtain ⟨k1, k2, k3, k4⟩ := del_facts hok.power.rise hok.power.sure x
      have hok2 := hok.power.withR k1 k2 (Nat.le_trans k3 hok.power.used) k4
      go_enter Try.func45, Try.ntmps45
      go_wp2_with (first
        | (go_at_call 27; refine hP.mono ?_; rintro e w1 ⟨rfl, hp1, hg1⟩)
        | (go_at_call 28; refine (hH _ hp1).mono ?_; rintro e w2 ⟨rfl, hp2, hb2⟩; obtain ⟨mb, g, c, hA, hlk, _, hfv⟩ := hp2.tell x hx; replace hlk := hlk w2 (KB.refl _); have c0 := hA.c 0 rfl; clear hA)
        | (go_at_call 58; refine (gone_any _ p F H s.power n (hp2.below ((Below.refl _ w2).alloc (Nat.le_refl _) _)) hok.power x hx).mono ?_; rintro e w3 ⟨rfl, hp3, hg3⟩; have hbx := (At.new w2 59 #[.slice (adr g) (s.power.fileOf x).b.length c, .int .i64 ((s.power.fileOf x).s : Int)]).grew hg3 (fun hk => absurd (hp2.lt _ (hp2.fh hk)) (Nat.lt_irrefl _)); have b0 := hbx.c 0 rfl; have b1 := hbx.c 1 rfl; clear hbx))
      have hb3 : ∀ o, Below w2.heap.size w2 (w2.alloc o) := fun o => (Below.refl _ w2).alloc (Nat.le_refl _) o
      have hfv3 := (FVat.grew (S := fun _ => False) hfv (Grew.below (hb3 _)) (fun _ _ _ => id)).grew hg3 (fun _ _ h => h)
      refine (set_at _ p F H n ⟨s.power.fileOf x, g, c⟩ rfl rfl rfl rfl hp3 hok2 hn hy hfv3 (show (s.power.fileOf x).b.length ≤ 16777216 by omega)).mono ?_
      rintro e w4 ⟨rfl, hp4, hg4⟩
      go_wp2
      go_ret
      exact ⟨rfl, hp4, (((hg1.trans (Grew.below hb2) (fun _ _ => id)).trans (Grew.below (hb3 _)) (fun _ _ h => h)).trans hg3 (fun _ _ => id)).trans hg4 (fun _ _ => id)⟩
end
end Go.Proofs.Ythnbnhlfiehihaa

