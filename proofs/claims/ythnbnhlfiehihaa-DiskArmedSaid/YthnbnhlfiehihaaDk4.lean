/- Disks: the program's Create, may, Sync, Rename, Remove. -/
import Derived.Test.YthnbnhlfiehihaaDk3
namespace Go.Proofs.Ythnbnhlfiehihaa
open Go.RowKit Go.Maps
set_option maxRecDepth 20000

theorem power_has (s : DK) (x : Nm) : s.power.has x = s.has x := by unfold DK.has; rw [power_R]
theorem power_file (s : DK) (x : Nm) : s.power.fileOf x = s.fileOf x := by unfold DK.fileOf; rw [power_R]
section
variable (w : World) (p : Nat) (F H : Nat → Prop) (s : DK) (n : Nat)
theorem power_at {q : Bool} (hq : s.power.off = q) (h : PD w p F H s) (hok : s.ok n) :
    Calls Try.prog 27 #[.pointer (some ⟨p, 0, none⟩)] w fun e w' => e = .returned (.bool (!q)) ∧ PD w' p F H s.power ∧ Grew F w w' := by
  rw [← hq]; exact power_any w p F H s n h hok
theorem has_at {x : Nm} {b : Bool} (hb : s.has x = b) (h : PD w p F H s.power) (hx : x.length ≤ maxLen) :
    Calls Try.prog 28 #[.pointer (some ⟨p, 0, none⟩), str x] w fun e w' => e = .returned (.bool b) ∧ PD w' p F H s.power ∧ Below w.heap.size w w' := by
  have := has_any w p F H s.power h x hx
  rw [power_has, hb] at this
  exact this.mono fun e w' ⟨h1, h2⟩ => ⟨h1, h.below h2, h2⟩
theorem set_at {x : Nm} {A : Option Addr} {l c sn : Nat} (v : FV) (hA : adr v.g = A) (hl : v.f.b.length = l) (hc : v.c = c) (hsn : v.f.s = sn) {sP : DK} (h : PD w p F H sP) (hok : sP.ok n) (hn : n < 1000000) (hx : x.length ≤ maxLen) (hv : FVat w F H v) (hvs : l ≤ 16777216) :
    Calls Try.prog 29 #[.pointer (some ⟨p, 0, none⟩), str x, .agg #[.slice A l c, .int .i64 (sn : Int)]] w fun e w' => e = .returned (.int .i64 0) ∧ PD w' p F H (sP.lay (putN sP.R x v.f)) ∧ Grew F w w' := by
  subst hA hl hc hsn
  exact set_any w p F H sP n h hok hn x hx v hv hvs
theorem Create_any (h : PD w p F H s) (hok : s.ok n) (hn : n < 1000000) (x : Nm) (hx : x.length ≤ maxLen) :
    Calls Try.prog 9 #[.pointer (some ⟨p, 0, none⟩), str x] w fun e w' => e = .returned (.int .i64 ((s.create x).1 : Int)) ∧ PD w' p F H (s.create x).2 ∧ Grew F w w' := by
  obtain ⟨q, hq⟩ : ∃ q, s.power.off = q := ⟨_, rfl⟩
  have hP := power_at w p F H s n hq h hok
  cases q with
  | true =>
    have e1 : s.create x = (34, s.power) := by simp [DK.create, hq]
    rw [e1]
    go_enter Try.func9, Try.ntmps9
    go_wp2_with (go_at_call 27; refine hP.mono ?_; rintro e w1 ⟨rfl, hp1, hg1⟩)
    go_ret
    exact ⟨rfl, hp1, hg1⟩
  | false =>
    obtain ⟨b, hb⟩ : ∃ b, s.has x = b := ⟨_, rfl⟩
    have hH := fun W hW => has_at W p F H s hb hW hx
    cases b with
    | true =>
      have e1 : s.create x = (32, s.power) := by simp [DK.create, hq, hb]
      rw [e1]
      go_enter Try.func9, Try.ntmps9
      go_wp2_with (first
        | (go_at_call 27; refine hP.mono ?_; rintro e w1 ⟨rfl, hp1, hg1⟩)
        | (go_at_call 28; refine (hH _ hp1).mono ?_; rintro e w2 ⟨rfl, hp2, hb2⟩))
      go_ret
      exact ⟨rfl, hp2, hg1.trans (Grew.below hb2) (fun _ _ => id)⟩
    | false =>
      have e1 : s.create x = (0, s.power.lay (putN s.power.R x DF.nil)) := by simp [DK.create, hq, hb, power_R]
      rw [e1]
      have hS := fun W hW => set_at W p F H n (x := x) (A := none) (l := 0) (c := 0) (sn := 0) ⟨DF.nil, none, 0⟩ rfl rfl rfl rfl (sP := s.power) hW hok.power hn hx (FVat.nil W F H 0) (by omega)
      go_enter Try.func9, Try.ntmps9
      go_wp2_with (first
        | (go_at_call 27; refine hP.mono ?_; rintro e w1 ⟨rfl, hp1, hg1⟩)
        | (go_at_call 28; refine (hH _ hp1).mono ?_; rintro e w2 ⟨rfl, hp2, hb2⟩)
        | (go_at_call 29; refine (hS _ hp2).mono ?_; rintro e w3 ⟨rfl, hp3, hg3⟩))
      go_ret
      exact ⟨rfl, hp3, (hg1.trans (Grew.below hb2) (fun _ _ => id)).trans hg3 (fun _ _ => id)⟩
end
end Go.Proofs.Ythnbnhlfiehihaa

