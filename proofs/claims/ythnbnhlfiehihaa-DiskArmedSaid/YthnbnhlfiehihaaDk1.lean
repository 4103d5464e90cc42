/- Disks: the program's small calls. -/
import Derived.Test.YthnbnhlfiehihaaDp
namespace Go.Proofs.Ythnbnhlfiehihaa
open Go.RowKit Go.Maps
set_option maxRecDepth 20000

def boxP (mb : Nat) (s : DK) : List Value := [.map (some mb), .int .i64 (s.room : Int), .int .i64 (usedR s.R : Int), .int .i64 s.calls, .int .i64 s.arm, .int .i64 s.keep, .bool s.off]
theorem PD.ne {W : World} {p mb : Nat} {v : Value} {vs : List Value} {L : List (Nm × RF)} (h1 : At W p (v :: vs)) (h2 : MapIs MD W mb L) : mb ≠ p := by
  rintro rfl
  obtain ⟨_, es, ⟨es', clock, hb, _⟩, _⟩ := h2
  have := h1.c 0 rfl
  simp only [World.cell?, hb] at this
  cases this
theorem PD.fh {W : World} {p : Nat} {F H : Nat → Prop} {s : DK} (h : PD W p F H s) {k : Nat} (hk : F k) : H k := by obtain ⟨mb, G, h1, h2, h3, h4, h5, h6, h7, h8⟩ := h; exact h7 k hk
theorem Grew.drew {S : Nat → Prop} {w w' : World} (h : Grew S w w') : Grew S w w'.drew := ⟨h.os, h.tape, h.output, h.size, h.block⟩
theorem Grew.ofDrew {S : Nat → Prop} {w w' : World} (h : Grew S w.drew w') : Grew S w w' := ⟨h.os, h.tape, h.output, h.size, h.block⟩
theorem Grew.putP {w w' : World} {p o : Nat} (h : Grew (fun k => k = p) w w') (v : Value) : Grew (fun k => k = p) w (w'.setCell ⟨p, o, none⟩ v) := h.put (.inl rfl) v
/-- another box, the same files -/
theorem PD.rebox {W W' : World} {p : Nat} {F H : Nat → Prop} {s : DK} (h : PD W p F H s) (s' : DK) (hg : Grew (fun k => k = p) W W') (hA : ∀ mb, At W p (boxP mb s) → At W' p (boxP mb s')) (hR : s'.R = s.R) : PD W' p F H s' ∧ Grew F W W' := by
  obtain ⟨mb, G, h1, h2, h3, h4, h5, h6, h7, h8⟩ := h
  have hne : mb ≠ p := PD.ne h1 h2
  exact ⟨⟨mb, G, hA mb h1, h2.grew hg hne, h3.trans hR.symm, fun q hq => (h4 q hq).grew hg (fun k hk hF e => hF (e ▸ h5)), h5, h6, h7, fun k hk => Nat.lt_of_lt_of_le (h8 k hk) hg.size⟩, hg.mono (fun k _ e => e ▸ h5)⟩
theorem power_any (w : World) (p : Nat) (F H : Nat → Prop) (s : DK) (n : Nat) (h : PD w p F H s) (hok : s.ok n) :
    Calls Try.prog 27 #[.pointer (some ⟨p, 0, none⟩)] w fun e w' => e = .returned (.bool (!s.power.off)) ∧ PD w' p F H s.power ∧ Grew F w w' := by
  obtain ⟨mb, hA, _⟩ := h.box
  have c4 := hA.c 4 rfl
  have c6 := hA.c 6 rfl
  have f4 := hA.f 4 rfl
  have f6 := hA.f 6 rfl
  have a0 := hok.arm0
  have a1 := hok.arm1
  clear hA
  obtain ⟨room, calls, arm, keep, off, R⟩ := s
  dsimp only at c4 c6 a0 a1
  cases off with
  | true =>
    go_enter Try.func27, Try.ntmps27
    go_wp2
    go_ret
    exact ⟨rfl, h, Grew.refl _ _⟩
  | false =>
    by_cases ha : 0 < arm
    · have hd : decide (0 < arm) = true := by simpa using ha
      have hs : (⟨room, calls, arm, keep, false, R⟩ : DK).power = ⟨room, calls, arm - 1, keep, arm - 1 == 0, R⟩ := by simp [DK.power, ha]; rfl
      rw [hs]
      have Hh := Lib.hid h
      clear h hok hs
      go_enter Try.func27, Try.ntmps27
      go_wp2
      go_ret
      refine ⟨rfl, ?_⟩
      exact Hh.out.rebox ⟨room, calls, arm - 1, keep, arm - 1 == 0, R⟩ (((Grew.refl _ w).putP _).putP _) (fun mb hA => (hA.set 4 _ (by simp [boxP])).set 6 _ (by simp [boxP])) rfl
    · have hd : decide (0 < arm) = false := by simpa using ha
      have hs : (⟨room, calls, arm, keep, false, R⟩ : DK).power = ⟨room, calls, arm, keep, false, R⟩ := by simp [DK.power, ha]
      rw [hs]
      go_enter Try.func27, Try.ntmps27
      go_wp2
      go_ret
      exact ⟨rfl, h, Grew.refl _ _⟩
theorem fld0 (A : Option Addr) (l c : Nat) (n : Int) (w : World) : (Instr.field 59 (.agg #[.slice A l c, .int .i64 n]) 0).run Try.prog w = .ok (.slice A l c) w := by kernel_rfl
theorem fld1 (A : Option Addr) (l c : Nat) (n : Int) (w : World) : (Instr.field 59 (.agg #[.slice A l c, .int .i64 n]) 1).run Try.prog w = .ok (.int .i64 n) w := by kernel_rfl
/-- the file of a name; an empty one if there is none -/
def DK.fileOf (s : DK) (x : Nm) : DF := (look s.R x).getD DF.nil
theorem tellG {w : World} {mb : Nat} {F H : Nat → Prop} {s : DK} {G : List (Nm × FV)} (hM : MapIs MD w mb (mapN FV.raw G)) (hG : mapN FV.f G = s.R) (hv : ∀ q ∈ G, FVat w F H q.2) (x : Nm) (hx : x.length ≤ maxLen) : ∃ (g : Option (Nat × Nat)) (c : Nat),
    (∀ W, KB w.heap W → (Instr.lookup 53 (.map (some mb)) (str x) false).run Try.prog W = .ok (.agg #[.slice (adr g) (s.fileOf x).b.length c, .int .i64 ((s.fileOf x).s : Int)]) W) ∧
    (Instr.lookup 53 (.map (some mb)) (str x) true).run Try.prog w = .ok (.tuple #[.agg #[.slice (adr g) (s.fileOf x).b.length c, .int .i64 ((s.fileOf x).s : Int)], .bool (s.has x)]) w ∧ FVat w F H ⟨s.fileOf x, g, c⟩ := by
  cases hl : look G x with
  | none =>
    have e1 : look s.R x = none := by rw [f_look hG, hl]; rfl
    have e2 : look (mapN FV.raw G) x = none := by rw [raw_look, hl]; rfl
    have e3 : s.fileOf x = DF.nil := by rw [DK.fileOf, e1]; rfl
    rw [e3]
    refine ⟨none, 0, fun W hk => ((hM.kb hk).look1_run hx).trans (by rw [e2]; rfl), (hM.look_run hx).trans (by rw [e2, DK.has, e1]; rfl), FVat.nil w F H 0⟩
  | some v =>
    have e1 : look s.R x = some v.f := by rw [f_look hG, hl]; rfl
    have e2 : look (mapN FV.raw G) x = some v.raw := by rw [raw_look, hl]; rfl
    have e3 : s.fileOf x = v.f := by rw [DK.fileOf, e1]; rfl
    rw [e3]
    exact ⟨v.g, v.c, fun W hk => ((hM.kb hk).look1_run hx).trans (by rw [e2]; rfl), (hM.look_run hx).trans (by rw [e2, DK.has, e1]; rfl), hv (x, v) (look_mem hl)⟩
theorem PD.tell {w : World} {p : Nat} {F H : Nat → Prop} {s : DK} (h : PD w p F H s) (x : Nm) (hx : x.length ≤ maxLen) : ∃ (mb : Nat) (g : Option (Nat × Nat)) (c : Nat),
    At w p (boxP mb s) ∧ (∀ W, KB w.heap W → (Instr.lookup 53 (.map (some mb)) (str x) false).run Try.prog W = .ok (.agg #[.slice (adr g) (s.fileOf x).b.length c, .int .i64 ((s.fileOf x).s : Int)]) W) ∧
    (Instr.lookup 53 (.map (some mb)) (str x) true).run Try.prog w = .ok (.tuple #[.agg #[.slice (adr g) (s.fileOf x).b.length c, .int .i64 ((s.fileOf x).s : Int)], .bool (s.has x)]) w ∧ FVat w F H ⟨s.fileOf x, g, c⟩ := by
  obtain ⟨mb, G, hA, hM, hG, hv, _⟩ := h
  obtain ⟨g, c, h1⟩ := tellG hM hG hv x hx
  exact ⟨mb, g, c, hA, h1⟩
theorem has_any (w : World) (p : Nat) (F H : Nat → Prop) (s : DK) (h : PD w p F H s) (x : Nm) (hx : x.length ≤ maxLen) :
    Calls Try.prog 28 #[.pointer (some ⟨p, 0, none⟩), str x] w fun e w' => e = .returned (.bool (s.has x)) ∧ Below w.heap.size w w' := by
  obtain ⟨mb, g, c, hA, _, hlk, _⟩ := h.tell x hx
  generalize s.fileOf x = f at *
  obtain ⟨b, n⟩ := f
  generalize s.has x = is at *
  have c0 := hA.c 0 rfl
  clear hA h
  dsimp only at hlk
  generalize b.length = l at *
  unfold str at *
  go_enter Try.func28, Try.ntmps28
  go_wp2
  go_ret
  exact ⟨rfl, (Below.refl _ w).alloc (Nat.le_refl _) _⟩
theorem Sure_any (w : World) (p : Nat) (F H : Nat → Prop) (s : DK) (h : PD w p F H s) (x : Nm) (hx : x.length ≤ maxLen) :
    Calls Try.prog 17 #[.pointer (some ⟨p, 0, none⟩), str x] w fun e w' => e = .returned (.int .i64 (s.sureOf x : Int)) ∧ w' = w := by
  obtain ⟨mb, g, c, hA, hlk, _, _⟩ := h.tell x hx
  replace hlk := hlk w (KB.refl _)
  have e : s.sureOf x = (s.fileOf x).s := by unfold DK.sureOf DK.fileOf; cases look s.R x <;> rfl
  rw [e]
  generalize s.fileOf x = f at *
  obtain ⟨b, n⟩ := f
  have c0 := hA.c 0 rfl
  have hfd := fld1
  clear hA h e
  dsimp only at hlk ⊢
  generalize b.length = l at *
  unfold str at *
  go_enter Try.func17, Try.ntmps17
  go_wp2
  go_ret
  exact ⟨rfl, rfl⟩
theorem PD.made (w : World) (t : TypeId) (room : Int) (r : Int) (hr : r = ((DK.new room).room : Int)) :
    PD ((w.alloc (.map #[] 0)).alloc (.cells #[.map (some w.heap.size), .int .i64 r, .int .i64 0, .int .i64 0, .int .i64 0, .int .i64 0, .bool false] t)) (w.heap.size + 1) (fun k => k = w.heap.size + 1 ∨ k = w.heap.size) (fun k => k = w.heap.size + 1 ∨ k = w.heap.size) (DK.new room) := by
  subst hr
  have h1 := MapIs.made MD w
  have h2 := At.new (w.alloc (.map #[] 0)) t #[.map (some w.heap.size), .int .i64 ((DK.new room).room : Int), .int .i64 0, .int .i64 0, .int .i64 0, .int .i64 0, .bool false]
  rw [World.size_alloc] at h2
  exact ⟨w.heap.size, [], h2, h1.below ((Below.refl _ _).alloc (Nat.le_refl _) _), rfl, fun q hq => (List.not_mem_nil hq).elim, .inl rfl, .inr rfl, fun _ => id, fun k hk => by simp; omega⟩
theorem New_any (w : World) (room : Int) :
    Calls Try.prog 8 #[.int .i64 room] w fun e w' => ∃ (p : Nat) (F H : Nat → Prop), e = .returned (.pointer (some ⟨p, 0, none⟩)) ∧ PD w' p F H (DK.new room) ∧ (∀ k, H k → w.heap.size ≤ k) ∧ Below w.heap.size w w' := by
  have hmm := @run_makeMap Try.prog
  have hb : ∀ cs t, Below w.heap.size w ((w.alloc (.map #[] 0)).alloc (.cells cs t)) := fun cs t => ((Below.refl _ w).alloc (Nat.le_refl _) _).alloc (by simp) _
  go_enter Try.func8, Try.ntmps8
  go_wp2
  all_goals (go_ret; exact ⟨_, rfl, _, _, PD.made w _ room _ (by simp only [DK.new]; omega), fun k hk => by rcases hk with rfl | rfl <;> omega, hb _ _⟩)
theorem Used_any (w : World) (p : Nat) (F H : Nat → Prop) (s : DK) (h : PD w p F H s) :
    Calls Try.prog 16 #[.pointer (some ⟨p, 0, none⟩)] w fun e w' => e = .returned (.int .i64 (usedR s.R : Int)) ∧ w' = w := by
  obtain ⟨mb, hA, _⟩ := h.box
  have c2 := hA.c 2 rfl
  clear hA h
  go_enter Try.func16, Try.ntmps16
  go_wp2
  go_ret
  exact ⟨rfl, rfl⟩
theorem Calls_any (w : World) (p : Nat) (F H : Nat → Prop) (s : DK) (h : PD w p F H s) :
    Calls Try.prog 14 #[.pointer (some ⟨p, 0, none⟩)] w fun e w' => e = .returned (.int .i64 s.calls) ∧ w' = w := by
  obtain ⟨mb, hA, _⟩ := h.box
  have c2 := hA.c 3 rfl
  clear hA h
  go_enter Try.func14, Try.ntmps14
  go_wp2
  go_ret
  exact ⟨rfl, rfl⟩
theorem Down_any (w : World) (p : Nat) (F H : Nat → Prop) (s : DK) (h : PD w p F H s) :
    Calls Try.prog 13 #[.pointer (some ⟨p, 0, none⟩)] w fun e w' => e = .returned (.bool s.off) ∧ w' = w := by
  obtain ⟨mb, hA, _⟩ := h.box
  have c2 := hA.c 6 rfl
  clear hA h
  go_enter Try.func13, Try.ntmps13
  go_wp2
  go_ret
  exact ⟨rfl, rfl⟩
theorem armSet {w : World} {p mb : Nat} {s : DK} (hA : At w p (boxP mb s)) {m n k : Int} (hm : m = max n 0) : At ((w.setCell ⟨p, 4, none⟩ (.int .i64 m)).setCell ⟨p, 5, none⟩ (.int .i64 k)) p (boxP mb (s.armed n k)) := by
  subst hm
  exact (hA.set 4 _ (by simp [boxP])).set 5 _ (by simp [boxP])
theorem Arm_any (w : World) (p : Nat) (F H : Nat → Prop) (s : DK) (h : PD w p F H s) (n k : Int) (h0 : -9223372036854775808 ≤ n) (h1 : n ≤ 9223372036854775807) :
    Calls Try.prog 11 #[.pointer (some ⟨p, 0, none⟩), .int .i64 n, .int .i64 k] w fun e w' => e = .returned (.tuple #[]) ∧ PD w' p F H (s.armed n k) ∧ Grew F w w' := by
  obtain ⟨mb, hA, _⟩ := h.box
  have c4 := hA.c 4 rfl
  have c5 := hA.c 5 rfl
  have f4 := hA.f 4 rfl
  have f5 := hA.f 5 rfl
  have Hh := Lib.hid h
  clear hA h
  go_enter Try.func11, Try.ntmps11
  go_wp2
  all_goals (go_end0; refine ⟨rfl, ?_⟩)
  all_goals exact Hh.out.rebox (s.armed n k) (((Grew.refl _ w).putP _).putP _) (fun mb hA => armSet hA (by omega)) rfl
end Go.Proofs.Ythnbnhlfiehihaa

