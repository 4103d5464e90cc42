/- Disks: the program's small calls. -/
import Derived.Test.YthnbnhlfiehihaaM01
import Derived.Test.YthnbnhlfiehihaaM02
namespace Go.Proofs.Ythnbnhlfiehihaa
open Go.RowKit Go.Maps
set_option maxRecDepth 20000

def boxP (mb : Nat) (s : DK) : List Value := [.map (some mb), .int .i64 (s.room : Int), .int .i64 (usedR s.R : Int), .int .i64 s.calls, .int .i64 s.arm, .int .i64 s.keep, .bool s.off]
theorem PD.ne {W : World} {p mb : Nat} {v : Value} {vs : List Value} {L : List (Nm × RF)} (h1 : At W p (v :: vs)) (h2 : MapIs MD W mb L) : mb ≠ p := by
  rintro rfl
  obtain ⟨_, es, ⟨es', clock, hb, _⟩, _⟩ := h2
  have := h1.c 0 rfl
  simp only [World.cell?, hb] at this
  cases this
theorem PD.fh {W : World} {p : Nat} {F H : Nat → Prop} {s : DK} (h : PD W p F H s) {k : Nat} (hk : F k) : H k := by obtain ⟨mb, G, h1, h2, h3, h4, h5, h6, h7, h8⟩ := h; exact h7 k hk
theorem Grew.drew {S : Nat → Prop} {w w' : World} (h : Grew S w w') : Grew S w w'.drew := ⟨h.os, h.tape, h.output, h.size, h.block⟩
theorem Grew.ofDrew {S : Nat → Prop} {w w' : World} (h : Grew S w.drew w') : Grew S w w' := ⟨h.os, h.tape, h.output, h.size, h.block⟩
theorem Grew.putP {w w' : World} {p o : Nat} (h : Grew (fun k => k = p) w w') (v : Value) : Grew (fun k => k = p) w (w'.setCell ⟨p, o, none⟩ v) := h.put (.inl rfl) v
/-- another box, the same files -/
theorem PD.rebox {W W' : World} {p : Nat} {F H : Nat → Prop} {s : DK} (h : PD W p F H s) (s' : DK) (hg : Grew (fun k => k = p) W W') (hA : ∀ mb, At W p (boxP mb s) → At W' p (boxP mb s')) (hR : s'.R = s.R) : PD W' p F H s' ∧ Grew F W W' := by
  obtain ⟨mb, G, h1, h2, h3, h4, h5, h6, h7, h8⟩ := h
  have hne : mb ≠ p := PD.ne h1 h2
  exact ⟨⟨mb, G, hA mb h1, h2.grew hg hne, h3.trans hR.symm, fun q hq => (h4 q hq).grew hg (fun k hk hF e => hF (e ▸ h5)), h5, h6, h7, fun k hk => Nat.lt_of_lt_of_le (h8 k hk) hg.size⟩, hg.mono (fun k _ e => e ▸ h5)⟩
theorem power_any (w : World) (p : Nat) (F H : Nat → Prop) (s : DK) (n : Nat) (h : PD w p F H s) (hok : s.ok n) :
    Calls Try.prog 27 #[.pointer (some ⟨p, 0, none⟩)] w fun e w' => e = .returned (.bool (!s.power.off)) ∧ PD w' p F H s.power ∧ Grew F w w' := by
  obtain ⟨mb, hA, _⟩ := h.box
  have c4 := hA.c 4 rfl
  have c6 := hA.c 6 rfl
  have f4 := hA.f 4 rfl
  have f6 := hA.f 6 rfl
  have a0 := hok.arm0
  have a1 := hok.arm1
  clear hA
  obtain ⟨room, calls, arm, keep, off, R⟩ := s
  dsimp only at c4 c6 a0 a1
  cases off with
  | true =>
    go_enter Try.func27, Try.ntmps27
    go_wp2
    go_ret
    exact ⟨rfl, h, Grew.refl _ _⟩
  | false =>
    by_cases ha : 0 < arm
    · have hd : decide (0 < arm) = true := by simpa using ha
      have hs : (⟨room, calls, arm, keep, false, R⟩ : DK).power = ⟨room, calls, arm - 1, keep, arm - 1 == 0, R⟩ := by simp [DK.power, ha]; rfl
      rw [hs]
      have Hh := Lib.hid h
      clear h hok hs
      go_enter Try.func27, Try.ntmps27
      go_wp2
      go_ret
      refine ⟨rfl, ?_⟩
      exact Hh.out.rebox ⟨room, calls, arm - 1, keep, arm - 1 == 0, R⟩ (((Grew.refl _ w).putP _).putP _) (fun mb hA => (hA.set 4 _ (by simp [boxP])).set 6 _ (by simp [boxP])) rfl
    · have hd : decide (0 < arm) = false := by simpa using ha
      have hs : (⟨room, calls, arm, keep, false, R⟩ : DK).power = ⟨room, calls, arm, keep, false, R⟩ := by simp [DK.power, ha]
      rw [hs]
      go_enter Try.func27, Try.ntmps27
      go_wp2
      go_ret
      exact ⟨rfl, h, Grew.refl _ _⟩
theorem fld0 (A : Option Addr) (l c : Nat) (n : Int) (w : World) : (Instr.field 59 (.agg #[.slice A l c, .int .i64 n]) 0).run Try.prog w = .ok (.slice A l c) w := by kernel_rfl
theorem fld1 (A : Option Addr) (l c : Nat) (n : Int) (w : World) : (Instr.field 59 (.agg #[.slice A l c, .int .i64 n]) 1).run Try.prog w = .ok (.int .i64 n) w := by kernel_rfl
/-- the file of a name; an empty one if there is none -/
def DK.fileOf (s : DK) (x : Nm) : DF := (look s.R x).getD DF.nil
theorem tellG {w : World} {mb : Nat} {F H : Nat → Prop} {s : DK} {G : List (Nm × FV)} (hM : MapIs MD w mb (mapN FV.raw G)) (hG : mapN FV.f G = s.R) (hv : ∀ q ∈ G, FVat w F H q.2) (x : Nm) (hx : x.length ≤ maxLen) : ∃ (g : Option (Nat × Nat)) (c : Nat),
    (∀ W, KB w.heap W → (Instr.lookup 53 (.map (some mb)) (str x) false).run Try.prog W = .ok (.agg #[.slice (adr g) (s.fileOf x).b.length c, .int .i64 ((s.fileOf x).s : Int)]) W) ∧
    (Instr.lookup 53 (.map (some mb)) (str x) true).run Try.prog w = .ok (.tuple #[.agg #[.slice (adr g) (s.fileOf x).b.length c, .int .i64 ((s.fileOf x).s : Int)], .bool (s.has x)]) w ∧ FVat w F H ⟨s.fileOf x, g, c⟩ := by
  cases hl : look G x with
  | none =>
    have e1 : look s.R x = none := by rw [f_look hG, hl]; rfl
    have e2 : look (mapN FV.raw G) x = none := by rw [raw_look, hl]; rfl
    have e3 : s.fileOf x = DF.nil := by rw [DK.fileOf, e1]; rfl
    rw [e3]
    refine ⟨none, 0, fun W hk => ((hM.kb hk).look1_run hx).trans (by rw [e2]; rfl), (hM.look_run hx).trans (by rw [e2, DK.has, e1]; rfl), FVat.nil w F H 0⟩
  | some v =>
    have e1 : look s.R x = some v.f := by rw [f_look hG, hl]; rfl
    have e2 : look (mapN FV.raw G) x = some v.raw := by rw [raw_look, hl]; rfl
    have e3 : s.fileOf x = v.f := by rw [DK.fileOf, e1]; rfl
    rw [e3]
    exact ⟨v.g, v.c, fun W hk => ((hM.kb hk).look1_run hx).trans (by rw [e2]; rfl), (hM.look_run hx).trans (by rw [e2, DK.has, e1]; rfl), hv (x, v) (look_mem hl)⟩
theorem PD.tell {w : World} {p : Nat} {F H : Nat → Prop} {s : DK} (h : PD w p F H s) (x : Nm) (hx : x.length ≤ maxLen) : ∃ (mb : Nat) (g : Option (Nat × Nat)) (c : Nat),
    At w p (boxP mb s) ∧ (∀ W, KB w.heap W → (Instr.lookup 53 (.map (some mb)) (str x) false).run Try.prog W = .ok (.agg #[.slice (adr g) (s.fileOf x).b.length c, .int .i64 ((s.fileOf x).s : Int)]) W) ∧
    (Instr.lookup 53 (.map (some mb)) (str x) true).run Try.prog w = .ok (.tuple #[.agg #[.slice (adr g) (s.fileOf x).b.length c, .int .i64 ((s.fileOf x).s : Int)], .bool (s.has x)]) w ∧ FVat w F H ⟨s.fileOf x, g, c⟩ := by
  obtain ⟨mb, G, hA, hM, hG, hv, _⟩ := h
  obtain ⟨g, c, h1⟩ := tellG hM hG hv x hx
  exact ⟨mb, g, c, hA, h1⟩
theorem has_any (w : World) (p : Nat) (F H : Nat → Prop) (s : DK) (h : PD w p F H s) (x : Nm) (hx : x.length ≤ maxLen) :
    Calls Try.prog 28 #[.pointer (some ⟨p, 0, none⟩), str x] w fun e w' => e = .returned (.bool (s.has x)) ∧ Below w.heap.size w w' := by
  obtain ⟨mb, g, c, hA, _, hlk, _⟩ := h.tell x hx
  generalize s.fileOf x = f at *
  obtain ⟨b, n⟩ := f
  generalize s.has x = is at *
  have c0 := hA.c 0 rfl
  clear hA h
  dsimp only at hlk
  generalize b.length = l at *
  unfold str at *
  go_enter Try.func28, Try.ntmps28
  go_wp2
  go_ret
  exact ⟨rfl, (Below.refl _ w).alloc (Nat.le_refl _) _⟩
theorem Sure_any (w : World) (p : Nat) (F H : Nat → Prop) (s : DK) (h : PD w p F H s) (x : Nm) (hx : x.length ≤ maxLen) :
    Calls Try.prog 17 #[.pointer (some ⟨p, 0, none⟩), str x] w fun e w' => e = .returned (.int .i64 (s.sureOf x : Int)) ∧ w' = w := by
  obtain ⟨mb, g, c, hA, hlk, _, _⟩ := h.tell x hx
  replace hlk := hlk w (KB.refl _)
  have e : s.sureOf x = (s.fileOf x).s := by unfold DK.sureOf DK.fileOf; cases look s.R x <;> rfl
  rw [e]
  generalize s.fileOf x = f at *
  obtain ⟨b, n⟩ := f
  have c0 := hA.c 0 rfl
  have hfd := fld1
  clear hA h e
  dsimp only at hlk ⊢
  generalize b.length = l at *
  unfold str at *
  go_enter Try.func17, Try.ntmps17
  go_wp2
  go_ret
  exact ⟨rfl, rfl⟩
theorem PD.made (w : World) (t : TypeId) (room : Int) (r : Int) (hr : r = ((DK.new room).room : Int)) :
    PD ((w.alloc (.map #[] 0)).alloc (.cells #[.map (some w.heap.size), .int .i64 r, .int .i64 0, .int .i64 0, .int .i64 0, .int .i64 0, .bool false] t)) (w.heap.size + 1) (fun k => k = w.heap.size + 1 ∨ k = w.heap.size) (fun k => k = w.heap.size + 1 ∨ k = w.heap.size) (DK.new room) := by
  subst hr
  have h1 := MapIs.made MD w
  have h2 := At.new (w.alloc (.map #[] 0)) t #[.map (some w.heap.size), .int .i64 ((DK.new room).room : Int), .int .i64 0, .int .i64 0, .int .i64 0, .int .i64 0, .bool false]
  rw [World.size_alloc] at h2
  exact ⟨w.heap.size, [], h2, h1.below ((Below.refl _ _).alloc (Nat.le_refl _) _), rfl, fun q hq => (List.not_mem_nil hq).elim, .inl rfl, .inr rfl, fun _ => id, fun k hk => by simp; omega⟩
theorem New_any (w : World) (room : Int) :
    Calls Try.prog 8 #[.int .i64 room] w fun e w' => ∃ (p : Nat) (F H : Nat → Prop), e = .returned (.pointer (some ⟨p, 0, none⟩)) ∧ PD w' p F H (DK.new room) ∧ (∀ k, H k → w.heap.size ≤ k) ∧ Below w.heap.size w w' := by
  have hmm := @run_makeMap Try.prog
  have hb : ∀ cs t, Below w.heap.size w ((w.alloc (.map #[] 0)).alloc (.cells cs t)) := fun cs t => ((Below.refl _ w).alloc (Nat.le_refl _) _).alloc (by simp) _
  go_enter Try.func8, Try.ntmps8
  go_wp2
  all_goals (go_ret; exact ⟨_, rfl, _, _, PD.made w _ room _ (by simp only [DK.new]; omega), fun k hk => by rcases hk with rfl | rfl <;> omega, hb _ _⟩)
theorem Used_any (w : World) (p : Nat) (F H : Nat → Prop) (s : DK) (h : PD w p F H s) :
    Calls Try.prog 16 #[.pointer (some ⟨p, 0, none⟩)] w fun e w' => e = .returned (.int .i64 (usedR s.R : Int)) ∧ w' = w := by
  obtain ⟨mb, hA, _⟩ := h.box
  have c2 := hA.c 2 rfl
  clear hA h
  go_enter Try.func16, Try.ntmps16
  go_wp2
  go_ret
  exact ⟨rfl, rfl⟩
theorem Calls_any (w : World) (p : Nat) (F H : Nat → Prop) (s : DK) (h : PD w p F H s) :
    Calls Try.prog 14 #[.pointer (some ⟨p, 0, none⟩)] w fun e w' => e = .returned (.int .i64 s.calls) ∧ w' = w := by
  obtain ⟨mb, hA, _⟩ := h.box
  have c2 := hA.c 3 rfl
  clear hA h
  go_enter Try.func14, Try.ntmps14
  go_wp2
  go_ret
  exact ⟨rfl, rfl⟩
theorem Down_any (w : World) (p : Nat) (F H : Nat → Prop) (s : DK) (h : PD w p F H s) :
    Calls Try.prog 13 #[.pointer (some ⟨p, 0, none⟩)] w fun e w' => e = .returned (.bool s.off) ∧ w' = w := by
  obtain ⟨mb, hA, _⟩ := h.box
  have c2 := hA.c 6 rfl
  clear hA h
  go_enter Try.func13, Try.ntmps13
  go_wp2
  go_ret
  exact ⟨rfl, rfl⟩
theorem armSet {w : World} {p mb : Nat} {s : DK} (hA : At w p (boxP mb s)) {m n k : Int} (hm : m = max n 0) : At ((w.setCell ⟨p, 4, none⟩ (.int .i64 m)).setCell ⟨p, 5, none⟩ (.int .i64 k)) p (boxP mb (s.armed n k)) := by
  subst hm
  exact (hA.set 4 _ (by simp [boxP])).set 5 _ (by simp [boxP])
theorem Arm_any (w : World) (p : Nat) (F H : Nat → Prop) (s : DK) (h : PD w p F H s) (n k : Int) (h0 : -9223372036854775808 ≤ n) (h1 : n ≤ 9223372036854775807) :
    Calls Try.prog 11 #[.pointer (some ⟨p, 0, none⟩), .int .i64 n, .int .i64 k] w fun e w' => e = .returned (.tuple #[]) ∧ PD w' p F H (s.armed n k) ∧ Grew F w w' := by
  obtain ⟨mb, hA, _⟩ := h.box
  have c4 := hA.c 4 rfl
  have c5 := hA.c 5 rfl
  have f4 := hA.f 4 rfl
  have f5 := hA.f 5 rfl
  have Hh := Lib.hid h
  clear hA h
  go_enter Try.func11, Try.ntmps11
  go_wp2
  all_goals (go_end0; refine ⟨rfl, ?_⟩)
  all_goals exact Hh.out.rebox (s.armed n k) (((Grew.refl _ w).putP _).putP _) (fun mb hA => armSet hA (by omega)) rfl
end Go.Proofs.Ythnbnhlfiehihaa
/- A region that draws its order, held by whatever is said of memory till its last operation, which waits for all others and need not leave it so. -/
namespace Go.Proofs.Ythnbnhlfiehihaa
open Go.RowKit

def wpE (P : Program) (ops : Array Oper) (Q : Exit → Act → World → Prop) (S : World → Prop) (z : Nat) : Nat → Array Bool → Act → World → Prop
  | 0, listed, a, w => Region.ready .any ops listed = [] ∧ Q .normal a w
  | fuel + 1, listed, a, w =>
    (Region.ready .any ops listed = [] → Q .normal a w) ∧
    ∀ i ∈ Region.ready .any ops listed, wpOp P ops Q i (fun a' w' => (i = z ∨ S w') ∧ wpE P ops Q S z fuel (listed.setIfInBounds i true) a' w') a w
section
variable {P : Program} {ops : Array Oper} {Q : Exit → Act → World → Prop} {S : World → Prop} {z : Nat}
theorem wpAny_of_E : ∀ (fuel : Nat) (listed : Array Bool) (a : Act) (w : World), wpE P ops Q S z fuel listed a w → wpAny P .any ops Q fuel listed a w
  | 0, _, _, _, h => h
  | fuel + 1, _, _, _, h => ⟨h.1, fun i hi => wpOp_mono (fun a' w' h' => wpAny_of_E fuel _ a' w' h'.2) (h.2 i hi)⟩
/-- z waits for i: by itself, or by another one that does -/
def direct (ops : Array Oper) (z i : Nat) : Bool := match ops[z]? with | none => false | some o => o.after.any fun e => Region.binds .any e && e.on == i
/-- z waits for the first of ps, that one for the next, .., the last for i -/
def chainE (ops : Array Oper) : Nat → List Nat → Nat → Bool
  | z, [], i => direct ops z i
  | z, p :: ps, i => direct ops z p && chainE ops p ps i
def Closed (ops : Array Oper) (listed : Array Bool) : Prop := ∀ j o, ops[j]? = some o → listed.getD j false = true → ∀ e ∈ o.after, Region.binds .any e = true → listed.getD e.on false = true
def closedB (ops : Array Oper) (listed : Array Bool) : Bool := (List.range ops.size).all fun j => !listed.getD j false || match ops[j]? with | none => true | some o => o.after.all fun e => !Region.binds .any e || listed.getD e.on false
theorem closed_of {listed : Array Bool} (h : closedB ops listed = true) : Closed ops listed := by
  intro j o ho hj e he hb
  unfold closedB at h
  rw [List.all_eq_true] at h
  have h1 := h j (List.mem_range.2 (Array.getElem?_eq_some_iff.1 ho).1)
  rw [hj, ho] at h1
  simp only [Bool.not_true, Bool.false_or, Array.all_eq_true] at h1
  obtain ⟨k, hk, rfl⟩ := Array.mem_iff_getElem.1 he
  have h2 := h1 k hk
  rw [hb] at h2
  simpa using h2
theorem direct_spec {z i : Nat} (h : direct ops z i = true) : ∃ o, ops[z]? = some o ∧ ∃ e ∈ o.after, Region.binds .any e = true ∧ e.on = i := by
  unfold direct at h
  cases ho : ops[z]? with
  | none => rw [ho] at h; cases h
  | some o =>
    rw [ho] at h
    simp only [Array.any_eq_true, Bool.and_eq_true, beq_iff_eq] at h
    obtain ⟨k, hk, hb, he⟩ := h
    exact ⟨o, rfl, _, Array.getElem_mem hk, hb, he⟩
theorem chain_listed {listed : Array Bool} (hcl : Closed ops listed) : ∀ (ps : List Nat) (z i : Nat), (∀ o, ops[z]? = some o → ∀ e ∈ o.after, Region.binds .any e = true → listed.getD e.on false = true) → chainE ops z ps i = true → listed.getD i false = true
  | [], z, i, hall, hz => by
    obtain ⟨o, ho, e, he, hb, rfl⟩ := direct_spec hz
    exact hall o ho e he hb
  | p :: ps, z, i, hall, hz => by
    rw [chainE, Bool.and_eq_true] at hz
    obtain ⟨o, ho, e, he, hb, rfl⟩ := direct_spec hz.1
    exact chain_listed hcl ps e.on i (fun o' ho' => hcl _ o' ho' (hall o ho e he hb)) hz.2
theorem waits_not {listed : Array Bool} {z i : Nat} {ps : List Nat} (hcl : Closed ops listed) (hz : chainE ops z ps i = true) (hr : z ∈ Region.ready .any ops listed) (hi : listed.getD i true = false) : False := by
  obtain ⟨_, o, ho, hall⟩ := mem_ready.1 hr
  have h := chain_listed hcl ps z i (fun o' ho' => by rw [ho] at ho'; cases ho'; exact hall) hz
  rcases Nat.lt_or_ge i listed.size with h' | h'
  · simp [h'] at h hi; rw [hi] at h; cases h
  · simp [Array.getElem?_eq_none h'] at h
theorem wpE_first {i : Nat} {oi : Oper} {v : Value} (hi : ops[i]? = some oi) {ps : List Nat} (hz : chainE ops z ps i = true) (hsel : ∀ (j : Nat) (o : Oper) cs b, ops[j]? = some o → o.op ≠ .select cs b)
    (hQ : ∀ c a w, Q (.panic c) (a.put oi.dst v) w → Q (.panic c) a w) :
    ∀ (fuel : Nat) (listed : Array Bool) (a : Act) (w : World),
      (∀ j oj, ops[j]? = some oj → j ≠ i → listed.getD j true = false → (∀ e ∈ oj.after, Region.binds .any e = true → e.on ≠ i) → oi.apart ops oj = true) →
      Closed ops listed → i ∈ Region.ready .any ops listed → YieldsIf P ops S oi v a → S w →
      wpE P ops Q S z fuel (listed.setIfInBounds i true) (a.put oi.dst v) w → wpE P ops Q S z (fuel + 1) listed a w := by
  intro fuel
  induction fuel with
  | zero =>
    intro listed a w _ _ hr hy hS H
    refine ⟨fun h => (by rw [h] at hr; cases hr), fun j hj => ?_⟩
    by_cases hji : j = i
    · subst hji; exact hy.wpOp hi hS ⟨.inr hS, H⟩
    · have := ready_mono hj hji
      rw [H.1] at this
      cases this
  | succ fuel ih =>
    intro listed a w hfree hcl hr hy hS H
    refine ⟨fun h => (by rw [h] at hr; cases hr), fun j hj => ?_⟩
    by_cases hji : j = i
    · subst hji; exact hy.wpOp hi hS ⟨.inr hS, H⟩
    · have h1 := H.2 j (ready_mono hj hji)
      obtain ⟨hjun, oj, hoj, hall⟩ := mem_ready.1 hj
      have hnot : ∀ e ∈ oj.after, Region.binds .any e = true → e.on ≠ i := fun e he hb heq => by
        have h1 := hall e he hb
        have h0 := (mem_ready.1 hr).1
        rw [heq] at h1
        rcases Nat.lt_or_ge i listed.size with h' | h'
        · simp [h'] at h0 h1; rw [h0] at h1; cases h1
        · simp [Array.getElem?_eq_none h'] at h1
      have hjz : j ≠ z := by
        rintro rfl
        exact waits_not hcl hz hj (mem_ready.1 hr).1
      have hcl' : Closed ops (listed.setIfInBounds j true) := fun k ok hk hkl e he hb => by
        by_cases hjk : j = k
        · subst hjk
          rw [hoj] at hk
          cases hk
          exact getD_set_true (hall e he hb)
        · rw [getD_set_ne false hjk] at hkl
          exact getD_set_true (hcl k ok hk hkl e he hb)
      have h2 := wpOp_putIf hoj (hfree j oj hoj hji hjun hnot) (fun cs b => hsel i oi cs b hi) (fun cs b => hsel j oj cs b hoj) hQ hy h1
      have hfree' : ∀ k ok, ops[k]? = some ok → k ≠ i → (listed.setIfInBounds j true).getD k true = false →
          (∀ e ∈ ok.after, Region.binds .any e = true → e.on ≠ i) → oi.apart ops ok = true := fun k ok hk hki hun hno => by
        refine hfree k ok hk hki ?_ hno
        by_cases hjk : j = k
        · subst hjk; exact hjun
        · rw [getD_set_ne true hjk] at hun; exact hun
      refine wpOp_mono (fun a' w' h3 => ?_) h2
      have hSw : S w' := h3.2.1.resolve_left hjz
      refine ⟨.inr hSw, ih (listed.setIfInBounds j true) a' w' hfree' hcl' (ready_mono hr (Ne.symm hji)) h3.1 hSw ?_⟩
      rw [Array.setIfInBounds_comm _ _ hji]
      exact h3.2.2
theorem bstartE (S : World → Prop) (z : Nat) {id : Nat} {a : Act} {w : World} (hm : P.follows .mixedOrders = true) (hh : wpE P ops Q S z ops.size (Array.replicate ops.size false) a w.drew) : (Code.region id ops true).wp P Q a w :=
  wp_region_any hm (wpAny_of_E _ _ _ _ hh)
def okTakeE (ops : Array Oper) (listed : Array Bool) (z i : Nat) (ps : List Nat) : Bool := okTake ops listed i && chainE ops z ps i && closedB ops listed
theorem btakeE (i : Nat) (ps : List Nat) {oi : Oper} {v : Value} {fuel : Nat} {listed : Array Bool} {a : Act} {w : World} (hi : ops[i]? = some oi) (hok : okTakeE ops listed z i ps = true)
    (hQ : ∀ c a w, Q (.panic c) (a.put oi.dst v) w → Q (.panic c) a w) (hS : S w)
    (hy : (Region.wanted oi (yielded ops a.tmps) = true ∧ ∀ W, S W → (execOp a.eval oi).run P W = .ok (.value v) W) ∨ (Region.wanted oi (yielded ops a.tmps) = false ∧ v = undef))
    (hr : wpE P ops Q S z fuel (listed.setIfInBounds i true) (a.put oi.dst v) w) : wpE P ops Q S z (fuel + 1) listed a w := by
  simp only [okTakeE, okTake, Bool.and_eq_true] at hok
  exact wpE_first hi hok.1.2 (Region.noSelect_spec hok.1.1.1.1) hQ fuel listed a w (Region.free_spec hi hok.1.1.1.2) (closed_of hok.2) (by simpa using hok.1.1.2) hy hS hr
theorem bopE (i : Nat) {o : Oper} {fuel : Nat} {listed : Array Bool} {a : Act} {w : World} (hi : ops[i]? = some o) (hok : okOp ops listed i = true)
    (hw : Region.wanted o (yielded ops a.tmps) = true)
    (hr : ∀ K : Act → World → Prop, Shut (∀ a' w', S w' → wpE P ops Q S z fuel (listed.setIfInBounds i true) a' w' → K a' w') → o.wp P a w K Q) : wpE P ops Q S z (fuel + 1) listed a w := by
  have hok' : Region.ready .any ops listed = [i] := by simpa [okOp] using hok
  refine ⟨fun h0 => (by rw [hok'] at h0; cases h0), fun j hj => ?_⟩
  obtain rfl : j = i := by rw [hok'] at hj; simpa using hj
  unfold wpOp
  simp only [hi, hw, if_true]
  exact .inl (hr _ (fun a' w' hk hb => ⟨.inr hk, hb⟩))
theorem blastE (i : Nat) {o : Oper} {fuel : Nat} {listed : Array Bool} {a : Act} {w : World} (hi : ops[i]? = some o) (hok : okOp ops listed i = true) (hz : i = z)
    (hw : Region.wanted o (yielded ops a.tmps) = true)
    (hr : ∀ K : Act → World → Prop, Shut (∀ a' w', wpE P ops Q S z fuel (listed.setIfInBounds i true) a' w' → K a' w') → o.wp P a w K Q) : wpE P ops Q S z (fuel + 1) listed a w := by
  have hok' : Region.ready .any ops listed = [i] := by simpa [okOp] using hok
  refine ⟨fun h0 => (by rw [hok'] at h0; cases h0), fun j hj => ?_⟩
  obtain rfl : j = i := by rw [hok'] at hj; simpa using hj
  unfold wpOp
  simp only [hi, hw, if_true]
  exact .inl (hr _ (fun a' w' hb => ⟨.inl hz, hb⟩))
theorem bdoneE {fuel : Nat} {listed : Array Bool} {a : Act} {w : World} (hr : Region.ready .any ops listed = []) (hq : Q .normal a w) : wpE P ops Q S z fuel listed a w :=
  match fuel with
  | 0 => ⟨hr, hq⟩
  | _ + 1 => ⟨fun _ => hq, by rw [hr]; simp⟩
end
end Go.Proofs.Ythnbnhlfiehihaa
/- Disks: the program's set and gone. -/
namespace Go.Proofs.Ythnbnhlfiehihaa
open Go.RowKit Go.Maps
set_option maxRecDepth 20000

theorem old_le {s : DK} {n : Nat} (_hok : s.ok n) (x : Nm) : (s.fileOf x).b.length ≤ usedR s.R := by
  unfold DK.fileOf
  cases hl : look s.R x with
  | none => exact Nat.zero_le _
  | some f => exact sumN_le DF.len hl
theorem used_put' {s : DK} {n : Nat} (hok : s.ok n) (x : Nm) (f : DF) : (usedR (putN s.R x f) : Int) = (usedR s.R : Int) + ((f.b.length : Int) - ((s.fileOf x).b.length : Int)) := by
  have h1 := used_put hok.rise x f
  have h2 : ((look s.R x).map DF.len).getD 0 = (s.fileOf x).b.length := by unfold DK.fileOf; cases look s.R x <;> rfl
  rw [h2] at h1
  omega
theorem exLk {P : Program} {o : Oper} {a : Act} {w : World} {t : TypeId} {m y : Operand} {M Y v : Value} {b : Bool} (ho : o.op = .lookup t m y b) (hm : a.eval m = M) (hy : a.eval y = Y) (h : (Instr.lookup t M Y b).run P w = .ok v w) : (execOp a.eval o).run P w = .ok (.value v) w := by
  simp [execOp, ho, hm, hy, h, Result.andThen]
/-- the pieces put together again -/
theorem PD.of {W : World} {p mb : Nat} {F H : Nat → Prop} {s : DK} {G : List (Nm × FV)} {L : List (Nm × RF)} (h1 : At W p (boxP mb s)) (h2 : MapIs MD W mb L) (hL : L.Perm (mapN FV.raw G)) (h3 : mapN FV.f G = s.R) (h4 : ∀ q ∈ G, FVat W F H q.2) (h5 : F p) (h6 : F mb) (h7 : ∀ k, F k → H k) (h8 : ∀ k, H k → k < W.heap.size) : PD W p F H s :=
  ⟨mb, G, h1, h2.perm hL, h3, h4, h5, h6, h7, h8⟩
set_option maxHeartbeats 3200000 in
theorem set_any (w : World) (p : Nat) (F H : Nat → Prop) (s : DK) (n : Nat) (h : PD w p F H s) (hok : s.ok n) (hn : n < 1000000) (x : Nm) (hx : x.length ≤ maxLen) (v : FV) (hv : FVat w F H v) (hvs : v.f.b.length ≤ 16777216) :
    Calls Try.prog 29 #[.pointer (some ⟨p, 0, none⟩), str x, v.raw.v] w fun e w' => e = .returned (.int .i64 0) ∧ PD w' p F H (s.lay (putN s.R x v.f)) ∧ Grew F w w' := by
  have hb1 : ∀ o, Below w.heap.size w (w.alloc o) := fun o => (Below.refl _ w).alloc (Nat.le_refl _) o
  obtain ⟨⟨vb, vs⟩, vg, vc⟩ := v
  obtain ⟨lv, hlv⟩ : ∃ lv, vb.length = lv := ⟨_, rfl⟩
  have hbox := At.new w 59 #[.slice (adr vg) lv vc, .int .i64 (vs : Int)]
  have hP1 := h.below (hb1 (.cells #[.slice (adr vg) lv vc, .int .i64 (vs : Int)] 59))
  have hV1 := hv.grew (S := fun _ => False) (Grew.below (hb1 (.cells #[.slice (adr vg) lv vc, .int .i64 (vs : Int)] 59))) (fun _ _ _ => id)
  have hG1 : Grew F w (w.alloc (.cells #[.slice (adr vg) lv vc, .int .i64 (vs : Int)] 59)) := Grew.below (hb1 _)
  have hfresh : ¬ H w.heap.size := fun hk => absurd (h.lt _ hk) (Nat.lt_irrefl _)
  have e0' : FV.raw ⟨⟨vb, vs⟩, vg, vc⟩ = ⟨vg, lv, vc, vs⟩ := by rw [← hlv]; rfl
  rw [e0']
  unfold RF.v str
  dsimp only at hvs
  rw [hlv] at hvs
  have hUo := used_put' hok x ⟨vb, vs⟩
  dsimp only at hUo
  rw [hlv] at hUo
  have hUold := old_le hok x
  have hU := hok.used
  have hR := hok.room
  have hF := hok.files
  have hC := hok.calls
  have hrise := hok.rise
  obtain ⟨room, calls, arm, keep, off, R⟩ := s
  dsimp only at hU hR hF hC hrise hUold hUo
  obtain ⟨U, hUe⟩ : ∃ U, usedR R = U := ⟨_, rfl⟩
  obtain ⟨U', hUe'⟩ : ∃ U', usedR (putN R x ⟨vb, vs⟩) = U' := ⟨_, rfl⟩
  rw [hUe] at hU hUold hUo
  rw [hUe'] at hUo
  go_enter Try.func29, Try.ntmps29
  go_wp2_with fail
  obtain ⟨mb, G, hA, hM, hG, hv1, hFp, hFm, hFH, hHl⟩ := hP1
  obtain ⟨g, c, hlk, _, _⟩ := tellG hM hG hv1 x hx
  obtain ⟨o, hoe⟩ : ∃ o, (DK.fileOf ⟨room, calls, arm, keep, off, R⟩ x).b.length = o := ⟨_, rfl⟩
  obtain ⟨os, hose⟩ : ∃ o, (DK.fileOf ⟨room, calls, arm, keep, off, R⟩ x).s = o := ⟨_, rfl⟩
  rw [hoe] at hUold hUo hlk
  rw [hose] at hlk
  dsimp only at hA
  rw [hUe] at hA
  have hws : (w.alloc (.cells #[.slice (adr vg) lv vc, .int .i64 (vs : Int)] 59)).heap.size = w.heap.size + 1 := by simp
  have hgl : w.heap.size < w.heap.size + 1 := Nat.lt_succ_self _
  rw [← hws] at hgl
  have hHl0 := h.lt
  clear h hv hok hfresh hws
  generalize w.alloc (.cells #[.slice (adr vg) lv vc, .int .i64 (vs : Int)] 59) = w1 at *
  have e0 := hA.e 0 rfl
  have e2 := hA.e 2 rfl
  have b0 := hbox.e 0 rfl
  have zc := hA.c 2 rfl
  have zf := hA.f 2 rfl
  have hfd := fld0
  unfold str at hlk
  have HS := Lib.hid (And.intro hA (And.intro hM (And.intro hG (And.intro hv1 (And.intro hFp (And.intro hFm (And.intro hFH hHl)))))))
  have HT := Lib.hid (And.intro hbox (And.intro hG1 (And.intro hV1 hrise)))
  have hw1 := hG1.size
  clear hA hM hG hv1 hFp hFm hFH hHl hbox hG1 hV1 hrise
  have hS0 : KB w1.heap w1.drew := KB.refl _
  refine bstartE (KB w1.heap) 19 (by kernel_rfl) ?_
  refine btakeE 0 [] (oi := _) (v := ?_) (by simp only [List.getElem?_toArray, List.getElem?_cons_zero]; rfl) (by kernel_rfl) (by exact fun _ _ _ h => h) (by first | assumption | exact KB.refl _) (.inl ⟨by rfl, fun W hW => ?_⟩) ?_; rotate_left
  · (go_simp; first | done | with_reducible rfl)
  try simp only [Act.put, List.setIfInBounds_toArray, List.set_cons_zero, List.set_cons_succ]
  refine btakeE 1 [] (oi := _) (v := ?_) (by simp only [List.getElem?_toArray, List.getElem?_cons_succ, List.getElem?_cons_zero]; rfl) (by kernel_rfl) (by exact fun _ _ _ h => h) (by first | assumption | exact KB.refl _) (.inl ⟨by rfl, fun W hW => ?_⟩) ?_; rotate_left
  · (go_simp; first | done | with_reducible rfl)
  try simp only [Act.put, List.setIfInBounds_toArray, List.set_cons_zero, List.set_cons_succ]
  refine btakeE 2 [] (oi := _) (v := ?_) (by simp only [List.getElem?_toArray, List.getElem?_cons_succ, List.getElem?_cons_zero]; rfl) (by kernel_rfl) (by exact fun _ _ _ h => h) (by first | assumption | exact KB.refl _) (.inl ⟨by rfl, fun W hW => ?_⟩) ?_; rotate_left
  · (go_simp; first | done | with_reducible rfl)
  try simp only [Act.put, List.setIfInBounds_toArray, List.set_cons_zero, List.set_cons_succ]
  refine btakeE 3 [] (oi := _) (v := ?_) (by simp only [List.getElem?_toArray, List.getElem?_cons_succ, List.getElem?_cons_zero]; rfl) (by kernel_rfl) (by exact fun _ _ _ h => h) (by first | assumption | exact KB.refl _) (.inl ⟨by rfl, fun W hW => ?_⟩) ?_; rotate_left
  · (go_simp; first | done | with_reducible rfl)
  try simp only [Act.put, List.setIfInBounds_toArray, List.set_cons_zero, List.set_cons_succ]
  refine btakeE 4 [] (oi := _) (v := ?_) (by simp only [List.getElem?_toArray, List.getElem?_cons_succ, List.getElem?_cons_zero]; rfl) (by kernel_rfl) (by exact fun _ _ _ h => h) (by first | assumption | exact KB.refl _) (.inl ⟨by rfl, fun W hW => ?_⟩) ?_; rotate_left
  · (go_simp; first | done | with_reducible rfl)
  try simp only [Act.put, List.setIfInBounds_toArray, List.set_cons_zero, List.set_cons_succ]
  refine btakeE 5 [] (oi := _) (v := ?_) (by simp only [List.getElem?_toArray, List.getElem?_cons_succ, List.getElem?_cons_zero]; rfl) (by kernel_rfl) (by exact fun _ _ _ h => h) (by first | assumption | exact KB.refl _) (.inl ⟨by rfl, fun W hW => ?_⟩) ?_; rotate_left
  · (go_simp; first | done | with_reducible rfl)
  try simp only [Act.put, List.setIfInBounds_toArray, List.set_cons_zero, List.set_cons_succ]
  refine btakeE 6 [] (oi := _) (v := ?_) (by simp only [List.getElem?_toArray, List.getElem?_cons_succ, List.getElem?_cons_zero]; rfl) (by kernel_rfl) (by exact fun _ _ _ h => h) (by first | assumption | exact KB.refl _) (.inl ⟨by rfl, fun W hW => ?_⟩) ?_; rotate_left
  · (go_simp; first | done | with_reducible rfl)
  try simp only [Act.put, List.setIfInBounds_toArray, List.set_cons_zero, List.set_cons_succ]
  refine btakeE 7 [] (oi := _) (v := ?_) (by simp only [List.getElem?_toArray, List.getElem?_cons_succ, List.getElem?_cons_zero]; rfl) (by kernel_rfl) (by exact fun _ _ _ h => h) (by first | assumption | exact KB.refl _) (.inl ⟨by rfl, fun W hW => ?_⟩) ?_; rotate_left
  · (go_simp; first | done | with_reducible rfl)
  try simp only [Act.put, List.setIfInBounds_toArray, List.set_cons_zero, List.set_cons_succ]
  refine btakeE 8 [] (oi := _) (v := ?_) (by simp only [List.getElem?_toArray, List.getElem?_cons_succ, List.getElem?_cons_zero]; rfl) (by kernel_rfl) (by exact fun _ _ _ h => h) (by first | assumption | exact KB.refl _) (.inl ⟨by rfl, fun W hW => ?_⟩) ?_; rotate_left
  · (go_simp; first | done | with_reducible rfl)
  try simp only [Act.put, List.setIfInBounds_toArray, List.set_cons_zero, List.set_cons_succ]
  refine btakeE 9 [] (oi := _) (v := ?_) (by simp only [List.getElem?_toArray, List.getElem?_cons_succ, List.getElem?_cons_zero]; rfl) (by kernel_rfl) (by exact fun _ _ _ h => h) (by first | assumption | exact KB.refl _) (.inl ⟨by rfl, fun W hW => ?_⟩) ?_; rotate_left
  · (go_simp; first | done | with_reducible rfl)
  try simp only [Act.put, List.setIfInBounds_toArray, List.set_cons_zero, List.set_cons_succ]
  refine btakeE 10 [] (oi := _) (v := ?_) (by simp only [List.getElem?_toArray, List.getElem?_cons_succ, List.getElem?_cons_zero]; rfl) (by kernel_rfl) (by exact fun _ _ _ h => h) (by first | assumption | exact KB.refl _) (.inl ⟨by rfl, fun W hW => ?_⟩) ?_; rotate_left
  · (go_simp; first | done | with_reducible rfl)
  try simp only [Act.put, List.setIfInBounds_toArray, List.set_cons_zero, List.set_cons_succ]
  refine btakeE 11 [] (oi := _) (v := ?_) (by simp only [List.getElem?_toArray, List.getElem?_cons_succ, List.getElem?_cons_zero]; rfl) (by kernel_rfl) (by exact fun _ _ _ h => h) (by first | assumption | exact KB.refl _) (.inl ⟨by rfl, fun W hW => ?_⟩) ?_; rotate_left
  · (go_simp; first | done | with_reducible rfl)
  try simp only [Act.put, List.setIfInBounds_toArray, List.set_cons_zero, List.set_cons_succ]
  refine btakeE 12 [] (oi := _) (v := ?_) (by simp only [List.getElem?_toArray, List.getElem?_cons_succ, List.getElem?_cons_zero]; rfl) (by kernel_rfl) (by exact fun _ _ _ h => h) (by first | assumption | exact KB.refl _) (.inl ⟨by rfl, fun W hW => ?_⟩) ?_; rotate_left
  · refine Eq.trans (exLk (by rfl) (by rfl) (by rfl) (hlk W hW)) ?_
    with_reducible rfl
  try simp only [Act.put, List.setIfInBounds_toArray, List.set_cons_zero, List.set_cons_succ]
  refine btakeE 13 [] (oi := _) (v := ?_) (by simp only [List.getElem?_toArray, List.getElem?_cons_succ, List.getElem?_cons_zero]; rfl) (by kernel_rfl) (by exact fun _ _ _ h => h) (by first | assumption | exact KB.refl _) (.inl ⟨by rfl, fun W hW => ?_⟩) ?_; rotate_left
  · (go_simp; first | done | with_reducible rfl)
  try simp only [Act.put, List.setIfInBounds_toArray, List.set_cons_zero, List.set_cons_succ]
  refine btakeE 14 [] (oi := _) (v := ?_) (by simp only [List.getElem?_toArray, List.getElem?_cons_succ, List.getElem?_cons_zero]; rfl) (by kernel_rfl) (by exact fun _ _ _ h => h) (by first | assumption | exact KB.refl _) (.inl ⟨by rfl, fun W hW => ?_⟩) ?_; rotate_left
  · (go_simp; first | done | with_reducible rfl)
  try simp only [Act.put, List.setIfInBounds_toArray, List.set_cons_zero, List.set_cons_succ]
  refine btakeE 15 [] (oi := _) (v := ?_) (by simp only [List.getElem?_toArray, List.getElem?_cons_succ, List.getElem?_cons_zero]; rfl) (by kernel_rfl) (by exact fun _ _ _ h => h) (by first | assumption | exact KB.refl _) (.inl ⟨by rfl, fun W hW => ?_⟩) ?_; rotate_left
  · (go_simp; first | done | with_reducible rfl)
  try simp only [Act.put, List.setIfInBounds_toArray, List.set_cons_zero, List.set_cons_succ]
  refine btakeE 16 [] (oi := _) (v := ?_) (by simp only [List.getElem?_toArray, List.getElem?_cons_succ, List.getElem?_cons_zero]; rfl) (by kernel_rfl) (by exact fun _ _ _ h => h) (by first | assumption | exact KB.refl _) (.inl ⟨by rfl, fun W hW => ?_⟩) ?_; rotate_left
  · (go_simp; first | done | with_reducible rfl)
  try simp only [Act.put, List.setIfInBounds_toArray, List.set_cons_zero, List.set_cons_succ]
  refine btakeE 17 [18] (oi := _) (v := ?_) (by simp only [List.getElem?_toArray, List.getElem?_cons_succ, List.getElem?_cons_zero]; rfl) (by kernel_rfl) (by exact fun _ _ _ h => h) (by first | assumption | exact KB.refl _) (.inl ⟨by rfl, fun W hW => ?_⟩) ?_; rotate_left
  · (go_simp; first | done | with_reducible rfl)
  try simp only [Act.put, List.setIfInBounds_toArray, List.set_cons_zero, List.set_cons_succ]
  refine btakeE 18 [] (oi := _) (v := ?_) (by simp only [List.getElem?_toArray, List.getElem?_cons_succ, List.getElem?_cons_zero]; rfl) (by kernel_rfl) (by exact fun _ _ _ h => h) (by first | assumption | exact KB.refl _) (.inl ⟨by rfl, fun W hW => ?_⟩) ?_; rotate_left
  · (go_simp; first | done | with_reducible rfl)
  try simp only [Act.put, List.setIfInBounds_toArray, List.set_cons_zero, List.set_cons_succ]
  -- 19: Op.store 3 (Operand.tmp 25) (Operand.tmp 23)
  refine blastE 19 (o := _) (by simp only [List.getElem?_toArray, List.getElem?_cons_succ, List.getElem?_cons_zero]; rfl) (by kernel_rfl) (by rfl) (by rfl) (fun K hK => ?_)
  go_simp
  skip
  refine hK.out _ _ ?_; clear hK K
  try simp only [Act.put, List.setIfInBounds_toArray, List.set_cons_zero, List.set_cons_succ]
  refine bdoneE (by kernel_rfl) ?_
  have hwr : IntKind.i64.wrap ((U : Int) + IntKind.i64.wrap ((lv : Int) - (o : Int))) = (U' : Int) := by
    rw [IntKind.wrap_i64, IntKind.wrap_i64]; omega
  rw [hwr]
  obtain ⟨hA, hM, hG, hv1, hFp, hFm, hFH, hHl⟩ := HS.out
  obtain ⟨hbox, hG1, hV1, hrise⟩ := HT.out
  have hne : mb ≠ p := PD.ne hA hM
  have hgp : w.heap.size ≠ p := fun e => absurd (hHl0 _ (e ▸ hFH _ hFp)) (Nat.lt_irrefl _)
  have hA2 := (hA.set 2 (.int .i64 (U' : Int)) (by simp)).drew
  have hM2 := (hM.setCell (a := ⟨p, 2, none⟩) hne (.int .i64 (U' : Int))).drew
  have hbox2 := (hbox.set_other (g' := p) 2 (.int .i64 (U' : Int)) (fun e => hgp e.symm)).drew
  have hG2 : Grew F w ((w1.setCell ⟨p, 2, none⟩ (.int .i64 (U' : Int))).drew) := (hG1.put (.inl hFp) _).drew
  have hG12 : Grew F w1 ((w1.setCell ⟨p, 2, none⟩ (.int .i64 (U' : Int))).drew) := ((Grew.refl F w1).put (.inl hFp) _).drew
  clear hA hM hbox hlk e0 e2 b0 zc zf hfd hS0 hG1 hwr
  generalize (w1.setCell ⟨p, 2, none⟩ (.int .i64 (U' : Int))).drew = w2 at *
  have e0 := hA2.e 0 rfl
  have b0 := hbox2.e 0 rfl
  have b1 := hbox2.e 1 rfl
  have HX := Lib.hid (And.intro hA2 (And.intro hM2 (And.intro hG2 (And.intro hG12 (And.intro hne hrise)))))
  have HY := Lib.hid (And.intro hG (And.intro hv1 (And.intro hFp (And.intro hFm (And.intro hFH (And.intro hHl hV1))))))
  clear hA2 hM2 hbox2 hG2 hG12 hne hrise hG hv1 hFp hFm hFH hHl hV1 HS HT
  go_wp2_with fail
  have hS0 : KB w2.heap w2.drew := KB.refl _
  refine bstartE (KB w2.heap) 6 (by kernel_rfl) ?_
  refine btakeE 0 [] (oi := _) (v := ?_) (by simp only [List.getElem?_toArray, List.getElem?_cons_zero]; rfl) (by kernel_rfl) (by exact fun _ _ _ h => h) (by first | assumption | exact KB.refl _) (.inl ⟨by rfl, fun W hW => ?_⟩) ?_; rotate_left
  · (go_simp; first | done | with_reducible rfl)
  try simp only [Act.put, List.setIfInBounds_toArray, List.set_cons_zero, List.set_cons_succ]
  refine btakeE 1 [] (oi := _) (v := ?_) (by simp only [List.getElem?_toArray, List.getElem?_cons_succ, List.getElem?_cons_zero]; rfl) (by kernel_rfl) (by exact fun _ _ _ h => h) (by first | assumption | exact KB.refl _) (.inl ⟨by rfl, fun W hW => ?_⟩) ?_; rotate_left
  · (go_simp; first | done | with_reducible rfl)
  try simp only [Act.put, List.setIfInBounds_toArray, List.set_cons_zero, List.set_cons_succ]
  refine btakeE 2 [] (oi := _) (v := ?_) (by simp only [List.getElem?_toArray, List.getElem?_cons_succ, List.getElem?_cons_zero]; rfl) (by kernel_rfl) (by exact fun _ _ _ h => h) (by first | assumption | exact KB.refl _) (.inl ⟨by rfl, fun W hW => ?_⟩) ?_; rotate_left
  · (go_simp; first | done | with_reducible rfl)
  try simp only [Act.put, List.setIfInBounds_toArray, List.set_cons_zero, List.set_cons_succ]
  refine btakeE 3 [] (oi := _) (v := ?_) (by simp only [List.getElem?_toArray, List.getElem?_cons_succ, List.getElem?_cons_zero]; rfl) (by kernel_rfl) (by exact fun _ _ _ h => h) (by first | assumption | exact KB.refl _) (.inl ⟨by rfl, fun W hW => ?_⟩) ?_; rotate_left
  · (go_simp; first | done | with_reducible rfl)
  try simp only [Act.put, List.setIfInBounds_toArray, List.set_cons_zero, List.set_cons_succ]
  refine btakeE 4 [] (oi := _) (v := ?_) (by simp only [List.getElem?_toArray, List.getElem?_cons_succ, List.getElem?_cons_zero]; rfl) (by kernel_rfl) (by exact fun _ _ _ h => h) (by first | assumption | exact KB.refl _) (.inl ⟨by rfl, fun W hW => ?_⟩) ?_; rotate_left
  · (go_simp; first | done | with_reducible rfl)
  try simp only [Act.put, List.setIfInBounds_toArray, List.set_cons_zero, List.set_cons_succ]
  refine btakeE 5 [] (oi := _) (v := ?_) (by simp only [List.getElem?_toArray, List.getElem?_cons_succ, List.getElem?_cons_zero]; rfl) (by kernel_rfl) (by exact fun _ _ _ h => h) (by first | assumption | exact KB.refl _) (.inl ⟨by rfl, fun W hW => ?_⟩) ?_; rotate_left
  · (go_simp; first | done | with_reducible rfl)
  try simp only [Act.put, List.setIfInBounds_toArray, List.set_cons_zero, List.set_cons_succ]
  -- 6: Op.mapUpdate 53 (Operand.tmp 29) (Operand.tmp 30) (Operand.tmp 31)
  refine blastE 6 (o := _) (by simp only [List.getElem?_toArray, List.getElem?_cons_succ, List.getElem?_cons_zero]; rfl) (by kernel_rfl) (by rfl) (by rfl) (fun K hK => ?_)
  refine wp_mput (by rfl) HX.out.2.1.drew ?_ (by rfl) (c := x) (by rfl) hx (d := ⟨vg, lv, vc, vs⟩) (by rfl) ?_
  · rw [mapN_len, ← mapN_len FV.f, HY.out.1]
    simp only [maxLen]
    omega
  intro w3 hm3 ht3
  refine hK.out _ _ ?_; clear hK K
  try simp only [Act.put]
  refine bdoneE (by kernel_rfl) ?_
  obtain ⟨hA2, hM2, hG2, hG12, hne, hrise⟩ := HX.out
  have hg23 : Grew F w2 w3 := (Grew.grown (S := F) ht3.grown (fun r e => by injection e with e; rw [← e]; exact HY.out.2.2.2.1)).ofDrew
  have hA3 : At w3 p _ := hA2.drew.grown ht3.grown (fun e => hne (Option.some.inj e))
  have hg3 : Grew F w w3 := hG2.trans hg23 (fun _ _ => id)
  have hg13 : Grew F w1 w3 := hG12.trans hg23 (fun _ _ => id)
  have hm3' := hm3
  clear e0 b0 b1 hS0 ht3 hm3 hG2 hG12 hA2 hM2 hg23
  have c3 := hA3.c 3 rfl
  have f3 := hA3.f 3 rfl
  have HZ := Lib.hid (And.intro hA3 (And.intro hm3' (And.intro hg3 (And.intro hg13 hne))))
  clear hA3 hm3' hg3 hg13 hne HX
  have hc1 : IntKind.i64.wrap (calls + 1) = calls + 1 := by rw [IntKind.wrap_i64]; omega
  go_wp2
  go_ret
  refine ⟨rfl, ?_⟩
  obtain ⟨hA3, hm3, hg3, hg13, hne⟩ := HZ.out
  obtain ⟨hG, hv1, hFp, hFm, hFH, hHl, hV1⟩ := HY.out
  have hRG : RiseN (mapN FV.raw G) := by rw [mapN_rise, ← mapN_rise (f := FV.f), hG]; exact hrise
  have hg14 : Grew F w1 (w3.setCell ⟨p, 3, none⟩ (.int .i64 (calls + 1))) := hg13.put (.inl hFp) _
  refine ⟨PD.of (G := putN G x ⟨⟨vb, vs⟩, vg, vc⟩) (L := putA (mapN FV.raw G) x ⟨vg, lv, vc, vs⟩) ?_ (hm3.setCell hne _) ?_ ?_ (fun q hq => ?_) hFp hFm hFH (fun k hk => Nat.lt_of_lt_of_le (hHl k hk) hg14.size), hg3.put (.inl hFp) _⟩
  · have := hA3.set 3 (.int .i64 (calls + 1)) (by simp)
    rw [← hUe'] at this
    exact this
  · rw [mapN_put, e0']
    exact putN_perm hRG x _
  · rw [mapN_put, hG]
    rfl
  · have hq' : FVat w1 F H q.2 := by
      rcases mem_putN hq with e | hq
      · rw [e]; exact hV1
      · exact hv1 q hq
    exact hq'.grew hg14 (fun _ _ h => h)
end Go.Proofs.Ythnbnhlfiehihaa
/- Disks: the program's gone. -/
namespace Go.Proofs.Ythnbnhlfiehihaa
open Go.RowKit Go.Maps
set_option maxRecDepth 20000

theorem used_del' {s : DK} {n : Nat} (hok : s.ok n) (x : Nm) : (usedR (delA s.R x) : Int) = (usedR s.R : Int) - ((s.fileOf x).b.length : Int) := by
  have h1 := used_del hok.rise x
  have h2 : ((look s.R x).map DF.len).getD 0 = (s.fileOf x).b.length := by unfold DK.fileOf; cases look s.R x <;> rfl
  rw [h2] at h1
  omega
set_option maxHeartbeats 3200000 in
theorem gone_any (w : World) (p : Nat) (F H : Nat → Prop) (s : DK) (n : Nat) (h : PD w p F H s) (hok : s.ok n) (x : Nm) (hx : x.length ≤ maxLen) :
    Calls Try.prog 58 #[.pointer (some ⟨p, 0, none⟩), str x] w fun e w' => e = .returned (.tuple #[]) ∧ PD w' p F H { s with R := delA s.R x } ∧ Grew F w w' := by
  have hUo := used_del' hok x
  have hUold := old_le hok x
  have hU := hok.used
  have hR := hok.room
  have hrise := hok.rise
  obtain ⟨room, calls, arm, keep, off, R⟩ := s
  dsimp only at hU hR hrise hUold hUo
  obtain ⟨mb, G, hA, hM, hG, hv1, hFp, hFm, hFH, hHl⟩ := h
  obtain ⟨g, c, hlk, _, _⟩ := tellG hM hG hv1 x hx
  obtain ⟨o, hoe⟩ : ∃ o, (DK.fileOf ⟨room, calls, arm, keep, off, R⟩ x).b.length = o := ⟨_, rfl⟩
  obtain ⟨os, hose⟩ : ∃ o, (DK.fileOf ⟨room, calls, arm, keep, off, R⟩ x).s = o := ⟨_, rfl⟩
  obtain ⟨U, hUe⟩ : ∃ U, usedR R = U := ⟨_, rfl⟩
  obtain ⟨U', hUe'⟩ : ∃ U', usedR (delA R x) = U' := ⟨_, rfl⟩
  rw [hoe, hUe] at hUold hUo
  rw [hoe, hose] at hlk
  rw [hUe'] at hUo
  rw [hUe] at hU
  dsimp only at hA
  rw [hUe] at hA
  clear hok
  have hKx : MD.mkK x = str x := rfl
  unfold str at hlk hKx ⊢
  have e0 := hA.e 0 rfl
  have e2 := hA.e 2 rfl
  have zc := hA.c 2 rfl
  have zf := hA.f 2 rfl
  have hfd := fld0
  have HS := Lib.hid (And.intro hA (And.intro hM (And.intro hG (And.intro hv1 (And.intro hFp (And.intro hFm (And.intro hFH (And.intro hHl hrise))))))))
  clear hA hM hG hv1 hFp hFm hFH hHl hrise
  go_enter Try.func58, Try.ntmps58
  go_wp2_with fail
  have hS0 : KB w.heap w.drew := KB.refl _
  refine bstartE (KB w.heap) 15 (by kernel_rfl) ?_
  refine btakeE 0 [] (oi := _) (v := ?_) (by simp only [List.getElem?_toArray, List.getElem?_cons_zero]; rfl) (by kernel_rfl) (by exact fun _ _ _ h => h) (by first | assumption | exact KB.refl _) (.inl ⟨by rfl, fun W hW => ?_⟩) ?_; rotate_left
  · (go_simp; first | done | with_reducible rfl)
  try simp only [Act.put, List.setIfInBounds_toArray, List.set_cons_zero, List.set_cons_succ]
  refine btakeE 1 [] (oi := _) (v := ?_) (by simp only [List.getElem?_toArray, List.getElem?_cons_succ, List.getElem?_cons_zero]; rfl) (by kernel_rfl) (by exact fun _ _ _ h => h) (by first | assumption | exact KB.refl _) (.inl ⟨by rfl, fun W hW => ?_⟩) ?_; rotate_left
  · (go_simp; first | done | with_reducible rfl)
  try simp only [Act.put, List.setIfInBounds_toArray, List.set_cons_zero, List.set_cons_succ]
  refine btakeE 2 [] (oi := _) (v := ?_) (by simp only [List.getElem?_toArray, List.getElem?_cons_succ, List.getElem?_cons_zero]; rfl) (by kernel_rfl) (by exact fun _ _ _ h => h) (by first | assumption | exact KB.refl _) (.inl ⟨by rfl, fun W hW => ?_⟩) ?_; rotate_left
  · (go_simp; first | done | with_reducible rfl)
  try simp only [Act.put, List.setIfInBounds_toArray, List.set_cons_zero, List.set_cons_succ]
  refine btakeE 3 [] (oi := _) (v := ?_) (by simp only [List.getElem?_toArray, List.getElem?_cons_succ, List.getElem?_cons_zero]; rfl) (by kernel_rfl) (by exact fun _ _ _ h => h) (by first | assumption | exact KB.refl _) (.inl ⟨by rfl, fun W hW => ?_⟩) ?_; rotate_left
  · (go_simp; first | done | with_reducible rfl)
  try simp only [Act.put, List.setIfInBounds_toArray, List.set_cons_zero, List.set_cons_succ]
  refine btakeE 4 [] (oi := _) (v := ?_) (by simp only [List.getElem?_toArray, List.getElem?_cons_succ, List.getElem?_cons_zero]; rfl) (by kernel_rfl) (by exact fun _ _ _ h => h) (by first | assumption | exact KB.refl _) (.inl ⟨by rfl, fun W hW => ?_⟩) ?_; rotate_left
  · (go_simp; first | done | with_reducible rfl)
  try simp only [Act.put, List.setIfInBounds_toArray, List.set_cons_zero, List.set_cons_succ]
  refine btakeE 5 [] (oi := _) (v := ?_) (by simp only [List.getElem?_toArray, List.getElem?_cons_succ, List.getElem?_cons_zero]; rfl) (by kernel_rfl) (by exact fun _ _ _ h => h) (by first | assumption | exact KB.refl _) (.inl ⟨by rfl, fun W hW => ?_⟩) ?_; rotate_left
  · (go_simp; first | done | with_reducible rfl)
  try simp only [Act.put, List.setIfInBounds_toArray, List.set_cons_zero, List.set_cons_succ]
  refine btakeE 6 [] (oi := _) (v := ?_) (by simp only [List.getElem?_toArray, List.getElem?_cons_succ, List.getElem?_cons_zero]; rfl) (by kernel_rfl) (by exact fun _ _ _ h => h) (by first | assumption | exact KB.refl _) (.inl ⟨by rfl, fun W hW => ?_⟩) ?_; rotate_left
  · (go_simp; first | done | with_reducible rfl)
  try simp only [Act.put, List.setIfInBounds_toArray, List.set_cons_zero, List.set_cons_succ]
  refine btakeE 7 [] (oi := _) (v := ?_) (by simp only [List.getElem?_toArray, List.getElem?_cons_succ, List.getElem?_cons_zero]; rfl) (by kernel_rfl) (by exact fun _ _ _ h => h) (by first | assumption | exact KB.refl _) (.inl ⟨by rfl, fun W hW => ?_⟩) ?_; rotate_left
  · (go_simp; first | done | with_reducible rfl)
  try simp only [Act.put, List.setIfInBounds_toArray, List.set_cons_zero, List.set_cons_succ]
  refine btakeE 8 [] (oi := _) (v := ?_) (by simp only [List.getElem?_toArray, List.getElem?_cons_succ, List.getElem?_cons_zero]; rfl) (by kernel_rfl) (by exact fun _ _ _ h => h) (by first | assumption | exact KB.refl _) (.inl ⟨by rfl, fun W hW => ?_⟩) ?_; rotate_left
  · (go_simp; first | done | with_reducible rfl)
  try simp only [Act.put, List.setIfInBounds_toArray, List.set_cons_zero, List.set_cons_succ]
  refine btakeE 9 [] (oi := _) (v := ?_) (by simp only [List.getElem?_toArray, List.getElem?_cons_succ, List.getElem?_cons_zero]; rfl) (by kernel_rfl) (by exact fun _ _ _ h => h) (by first | assumption | exact KB.refl _) (.inl ⟨by rfl, fun W hW => ?_⟩) ?_; rotate_left
  · refine Eq.trans (exLk (by rfl) (by rfl) (by rfl) (hlk W hW)) ?_
    with_reducible rfl
  try simp only [Act.put, List.setIfInBounds_toArray, List.set_cons_zero, List.set_cons_succ]
  refine btakeE 10 [] (oi := _) (v := ?_) (by simp only [List.getElem?_toArray, List.getElem?_cons_succ, List.getElem?_cons_zero]; rfl) (by kernel_rfl) (by exact fun _ _ _ h => h) (by first | assumption | exact KB.refl _) (.inl ⟨by rfl, fun W hW => ?_⟩) ?_; rotate_left
  · (go_simp; first | done | with_reducible rfl)
  try simp only [Act.put, List.setIfInBounds_toArray, List.set_cons_zero, List.set_cons_succ]
  refine btakeE 11 [] (oi := _) (v := ?_) (by simp only [List.getElem?_toArray, List.getElem?_cons_succ, List.getElem?_cons_zero]; rfl) (by kernel_rfl) (by exact fun _ _ _ h => h) (by first | assumption | exact KB.refl _) (.inl ⟨by rfl, fun W hW => ?_⟩) ?_; rotate_left
  · (go_simp; first | done | with_reducible rfl)
  try simp only [Act.put, List.setIfInBounds_toArray, List.set_cons_zero, List.set_cons_succ]
  refine btakeE 12 [] (oi := _) (v := ?_) (by simp only [List.getElem?_toArray, List.getElem?_cons_succ, List.getElem?_cons_zero]; rfl) (by kernel_rfl) (by exact fun _ _ _ h => h) (by first | assumption | exact KB.refl _) (.inl ⟨by rfl, fun W hW => ?_⟩) ?_; rotate_left
  · (go_simp; first | done | with_reducible rfl)
  try simp only [Act.put, List.setIfInBounds_toArray, List.set_cons_zero, List.set_cons_succ]
  refine btakeE 13 [14] (oi := _) (v := ?_) (by simp only [List.getElem?_toArray, List.getElem?_cons_succ, List.getElem?_cons_zero]; rfl) (by kernel_rfl) (by exact fun _ _ _ h => h) (by first | assumption | exact KB.refl _) (.inl ⟨by rfl, fun W hW => ?_⟩) ?_; rotate_left
  · (go_simp; first | done | with_reducible rfl)
  try simp only [Act.put, List.setIfInBounds_toArray, List.set_cons_zero, List.set_cons_succ]
  refine btakeE 14 [] (oi := _) (v := ?_) (by simp only [List.getElem?_toArray, List.getElem?_cons_succ, List.getElem?_cons_zero]; rfl) (by kernel_rfl) (by exact fun _ _ _ h => h) (by first | assumption | exact KB.refl _) (.inl ⟨by rfl, fun W hW => ?_⟩) ?_; rotate_left
  · (go_simp; first | done | with_reducible rfl)
  try simp only [Act.put, List.setIfInBounds_toArray, List.set_cons_zero, List.set_cons_succ]
  -- 15: Op.store 3 (Operand.tmp 18) (Operand.tmp 16)
  refine blastE 15 (o := _) (by simp only [List.getElem?_toArray, List.getElem?_cons_succ, List.getElem?_cons_zero]; rfl) (by kernel_rfl) (by rfl) (by rfl) (fun K hK => ?_)
  go_simp
  skip
  refine hK.out _ _ ?_; clear hK K
  try simp only [Act.put, List.setIfInBounds_toArray, List.set_cons_zero, List.set_cons_succ]
  refine bdoneE (by kernel_rfl) ?_
  rw [← hUo]
  have hwU : IntKind.i64.wrap (U' : Int) = (U' : Int) := by rw [IntKind.wrap_i64]; omega
  try rw [hwU]
  obtain ⟨hA, hM, hG, hv1, hFp, hFm, hFH, hHl, hrise⟩ := HS.out
  have hne : mb ≠ p := PD.ne hA hM
  have hA2 := (hA.set 2 (.int .i64 (U' : Int)) (by simp)).drew
  have hM2 := (hM.setCell (a := ⟨p, 2, none⟩) hne (.int .i64 (U' : Int))).drew
  have hG2 : Grew F w ((w.setCell ⟨p, 2, none⟩ (.int .i64 (U' : Int))).drew) := ((Grew.refl F w).put (.inl hFp) _).drew
  clear hA hM hlk e0 e2 zc zf hfd hS0
  generalize (w.setCell ⟨p, 2, none⟩ (.int .i64 (U' : Int))).drew = w2 at *
  have c0 := hA2.c 0 rfl
  obtain ⟨w3, hrun, hm3, ht3⟩ := hM2.drop_run hx 0
  rw [hKx] at hrun
  have hA3 : At w3 p _ := hA2.grown ht3.grown (fun e => hne (Option.some.inj e))
  have hg3 : Grew F w w3 := hG2.trans (Grew.grown (S := F) ht3.grown (fun r e => by injection e with e; rw [← e]; exact hFm)) (fun _ _ => id)
  have HZ := Lib.hid (And.intro hA3 (And.intro hm3 (And.intro hg3 (And.intro hG (And.intro hv1 (And.intro hFp (And.intro hFm (And.intro hFH hHl))))))))
  clear hA3 hm3 hg3 hG hv1 hFp hFm hFH hHl ht3 hA2 hM2 hG2 HS
  go_wp2
  go_end0
  obtain ⟨hA3, hm3, hg3, hG, hv1, hFp, hFm, hFH, hHl⟩ := HZ.out
  refine ⟨rfl, PD.of (G := delA G x) (L := delA (mapN FV.raw G) x) ?_ hm3 ?_ ?_ (fun q hq => (hv1 q (List.mem_filter.1 hq).1).grew hg3 (fun _ _ h => h)) hFp hFm hFH (fun k hk => Nat.lt_of_lt_of_le (hHl k hk) hg3.size), hg3⟩
  · rw [← hUe'] at hA3
    exact hA3
  · rw [mapN_del]
  · rw [mapN_del, hG]
end Go.Proofs.Ythnbnhlfiehihaa
/- Disks: the program's Create, may, Sync, Rename, Remove. -/
namespace Go.Proofs.Ythnbnhlfiehihaa
open Go.RowKit Go.Maps
set_option maxRecDepth 20000

theorem power_has (s : DK) (x : Nm) : s.power.has x = s.has x := by unfold DK.has; rw [power_R]
theorem power_file (s : DK) (x : Nm) : s.power.fileOf x = s.fileOf x := by unfold DK.fileOf; rw [power_R]
section
variable (w : World) (p : Nat) (F H : Nat → Prop) (s : DK) (n : Nat)
theorem power_at {q : Bool} (hq : s.power.off = q) (h : PD w p F H s) (hok : s.ok n) :
    Calls Try.prog 27 #[.pointer (some ⟨p, 0, none⟩)] w fun e w' => e = .returned (.bool (!q)) ∧ PD w' p F H s.power ∧ Grew F w w' := by
  rw [← hq]; exact power_any w p F H s n h hok
theorem has_at {x : Nm} {b : Bool} (hb : s.has x = b) (h : PD w p F H s.power) (hx : x.length ≤ maxLen) :
    Calls Try.prog 28 #[.pointer (some ⟨p, 0, none⟩), str x] w fun e w' => e = .returned (.bool b) ∧ PD w' p F H s.power ∧ Below w.heap.size w w' := by
  have := has_any w p F H s.power h x hx
  rw [power_has, hb] at this
  exact this.mono fun e w' ⟨h1, h2⟩ => ⟨h1, h.below h2, h2⟩
theorem set_at {x : Nm} {A : Option Addr} {l c sn : Nat} (v : FV) (hA : adr v.g = A) (hl : v.f.b.length = l) (hc : v.c = c) (hsn : v.f.s = sn) {sP : DK} (h : PD w p F H sP) (hok : sP.ok n) (hn : n < 1000000) (hx : x.length ≤ maxLen) (hv : FVat w F H v) (hvs : l ≤ 16777216) :
    Calls Try.prog 29 #[.pointer (some ⟨p, 0, none⟩), str x, .agg #[.slice A l c, .int .i64 (sn : Int)]] w fun e w' => e = .returned (.int .i64 0) ∧ PD w' p F H (sP.lay (putN sP.R x v.f)) ∧ Grew F w w' := by
  subst hA hl hc hsn
  exact set_any w p F H sP n h hok hn x hx v hv hvs
theorem Create_any (h : PD w p F H s) (hok : s.ok n) (hn : n < 1000000) (x : Nm) (hx : x.length ≤ maxLen) :
    Calls Try.prog 9 #[.pointer (some ⟨p, 0, none⟩), str x] w fun e w' => e = .returned (.int .i64 ((s.create x).1 : Int)) ∧ PD w' p F H (s.create x).2 ∧ Grew F w w' := by
  obtain ⟨q, hq⟩ : ∃ q, s.power.off = q := ⟨_, rfl⟩
  have hP := power_at w p F H s n hq h hok
  cases q with
  | true =>
    have e1 : s.create x = (34, s.power) := by simp [DK.create, hq]
    rw [e1]
    go_enter Try.func9, Try.ntmps9
    go_wp2_with (go_at_call 27; refine hP.mono ?_; rintro e w1 ⟨rfl, hp1, hg1⟩)
    go_ret
    exact ⟨rfl, hp1, hg1⟩
  | false =>
    obtain ⟨b, hb⟩ : ∃ b, s.has x = b := ⟨_, rfl⟩
    have hH := fun W hW => has_at W p F H s hb hW hx
    cases b with
    | true =>
      have e1 : s.create x = (32, s.power) := by simp [DK.create, hq, hb]
      rw [e1]
      go_enter Try.func9, Try.ntmps9
      go_wp2_with (first
        | (go_at_call 27; refine hP.mono ?_; rintro e w1 ⟨rfl, hp1, hg1⟩)
        | (go_at_call 28; refine (hH _ hp1).mono ?_; rintro e w2 ⟨rfl, hp2, hb2⟩))
      go_ret
      exact ⟨rfl, hp2, hg1.trans (Grew.below hb2) (fun _ _ => id)⟩
    | false =>
      have e1 : s.create x = (0, s.power.lay (putN s.power.R x DF.nil)) := by simp [DK.create, hq, hb, power_R]
      rw [e1]
      have hS := fun W hW => set_at W p F H n (x := x) (A := none) (l := 0) (c := 0) (sn := 0) ⟨DF.nil, none, 0⟩ rfl rfl rfl rfl (sP := s.power) hW hok.power hn hx (FVat.nil W F H 0) (by omega)
      go_enter Try.func9, Try.ntmps9
      go_wp2_with (first
        | (go_at_call 27; refine hP.mono ?_; rintro e w1 ⟨rfl, hp1, hg1⟩)
        | (go_at_call 28; refine (hH _ hp1).mono ?_; rintro e w2 ⟨rfl, hp2, hb2⟩)
        | (go_at_call 29; refine (hS _ hp2).mono ?_; rintro e w3 ⟨rfl, hp3, hg3⟩))
      go_ret
      exact ⟨rfl, hp3, (hg1.trans (Grew.below hb2) (fun _ _ => id)).trans hg3 (fun _ _ => id)⟩
end
end Go.Proofs.Ythnbnhlfiehihaa
/- Disks: the program's Create, may, Sync, Rename, Remove. -/
namespace Go.Proofs.Ythnbnhlfiehihaa
open Go.RowKit Go.Maps
set_option maxRecDepth 20000

section
variable (w : World) (p : Nat) (F H : Nat → Prop) (s : DK) (n : Nat)
theorem Sync_any (h : PD w p F H s) (hok : s.ok n) (hn : n < 1000000) (x : Nm) (hx : x.length ≤ maxLen) :
    Calls Try.prog 12 #[.pointer (some ⟨p, 0, none⟩), str x] w fun e w' => e = .returned (.int .i64 ((s.sync x).1 : Int)) ∧ PD w' p F H (s.sync x).2 ∧ Grew F w w' := by
  obtain ⟨q, hq⟩ : ∃ q, s.power.off = q := ⟨_, rfl⟩
  have hP := power_at w p F H s n hq h hok
  cases q with
  | true =>
    have e1 : s.sync x = (34, s.power) := by simp [DK.sync, hq]
    rw [e1]
    go_enter Try.func12, Try.ntmps12
    go_wp2_with (go_at_call 27; refine hP.mono ?_; rintro e w1 ⟨rfl, hp1, hg1⟩)
    go_ret
    exact ⟨rfl, hp1, hg1⟩
  | false =>
    obtain ⟨b, hb⟩ : ∃ b, s.has x = b := ⟨_, rfl⟩
    have hH := fun W hW => has_at W p F H s hb hW hx
    cases b with
    | false =>
      have e1 : s.sync x = (31, s.power) := by simp [DK.sync, hq, hb]
      rw [e1]
      go_enter Try.func12, Try.ntmps12
      go_wp2_with (first
        | (go_at_call 27; refine hP.mono ?_; rintro e w1 ⟨rfl, hp1, hg1⟩)
        | (go_at_call 28; refine (hH _ hp1).mono ?_; rintro e w2 ⟨rfl, hp2, hb2⟩))
      go_ret
      exact ⟨rfl, hp2, hg1.trans (Grew.below hb2) (fun _ _ => id)⟩
    | true =>
      have e1 : s.sync x = (0, s.power.lay (putN s.power.R x (s.power.fileOf x).sync)) := by
        simp only [DK.sync, hq, hb, mapR, power_R, DK.fileOf]
        unfold DK.has at hb
        cases hl : look s.R x with
        | none => rw [hl] at hb; cases hb
        | some f => simp
      rw [e1]
      have hol := old_le hok.power x
      have hou := hok.power.used
      have hor := hok.power.room
      go_enter Try.func12, Try.ntmps12
      go_wp2_with (first
        | (go_at_call 27; refine hP.mono ?_; rintro e w1 ⟨rfl, hp1, hg1⟩)
        | (go_at_call 28; refine (hH _ hp1).mono ?_; rintro e w2 ⟨rfl, hp2, hb2⟩; obtain ⟨mb, g, c, hA, hlk, _, hfv⟩ := hp2.tell x hx; replace hlk := hlk w2 (KB.refl _); have c0 := hA.c 0 rfl; clear hA))
      have hb3 : ∀ o, Below w2.heap.size w2 (w2.alloc o) := fun o => (Below.refl _ w2).alloc (Nat.le_refl _) o
      have hfv' : FVat w2 F H ⟨(s.power.fileOf x).sync, g, c⟩ := hfv
      refine (set_at _ p F H n ⟨(s.power.fileOf x).sync, g, c⟩ rfl rfl rfl rfl (hp2.below (hb3 _)) hok.power hn hx (FVat.grew (S := fun _ => False) hfv' (Grew.below (hb3 _)) (fun _ _ _ => id)) (show (s.power.fileOf x).b.length ≤ 16777216 by omega)).mono ?_
      rintro e w3 ⟨rfl, hp3, hg3⟩
      go_wp2
      go_ret
      exact ⟨rfl, hp3, ((hg1.trans (Grew.below hb2) (fun _ _ => id)).trans (Grew.below (hb3 _)) (fun _ _ h => h)).trans hg3 (fun _ _ => id)⟩
theorem Remove_any (h : PD w p F H s) (hok : s.ok n) (hn : n < 1000000) (x : Nm) (hx : x.length ≤ maxLen) :
    Calls Try.prog 47 #[.pointer (some ⟨p, 0, none⟩), str x] w fun e w' => e = .returned (.int .i64 ((s.remove x).1 : Int)) ∧ PD w' p F H (s.remove x).2 ∧ Grew F w w' := by
  obtain ⟨q, hq⟩ : ∃ q, s.power.off = q := ⟨_, rfl⟩
  have hP := power_at w p F H s n hq h hok
  cases q with
  | true =>
    have e1 : s.remove x = (34, s.power) := by simp [DK.remove, hq]
    rw [e1]
    go_enter Try.func47, Try.ntmps47
    go_wp2_with (go_at_call 27; refine hP.mono ?_; rintro e w1 ⟨rfl, hp1, hg1⟩)
    go_ret
    exact ⟨rfl, hp1, hg1⟩
  | false =>
    obtain ⟨b, hb⟩ : ∃ b, s.has x = b := ⟨_, rfl⟩
    have hH := fun W hW => has_at W p F H s hb hW hx
    cases b with
    | false =>
      have e1 : s.remove x = (31, s.power) := by simp [DK.remove, hq, hb]
      rw [e1]
      go_enter Try.func47, Try.ntmps47
      go_wp2_with (first
        | (go_at_call 27; refine hP.mono ?_; rintro e w1 ⟨rfl, hp1, hg1⟩)
        | (go_at_call 28; refine (hH _ hp1).mono ?_; rintro e w2 ⟨rfl, hp2, hb2⟩))
      go_ret
      exact ⟨rfl, hp2, hg1.trans (Grew.below hb2) (fun _ _ => id)⟩
    | true =>
      have e1 : s.remove x = (0, s.power.lay (delA s.power.R x)) := by simp [DK.remove, hq, hb, power_R]
      rw [e1]
      have hc0 := hok.power.files
      have hc1 := hok.power.calls
      have hwr : IntKind.i64.wrap (s.power.calls + 1) = s.power.calls + 1 := by rw [IntKind.wrap_i64]; omega
      go_enter Try.func47, Try.ntmps47
      go_wp2_with (first
        | (go_at_call 27; refine hP.mono ?_; rintro e w1 ⟨rfl, hp1, hg1⟩)
        | (go_at_call 28; refine (hH _ hp1).mono ?_; rintro e w2 ⟨rfl, hp2, hb2⟩)
        | (go_at_call 58; refine (gone_any _ p F H s.power n hp2 hok.power x hx).mono ?_; rintro e w3 ⟨rfl, hp3, hg3⟩; obtain ⟨mb, hA, _⟩ := hp3.box; have c3 := hA.c 3 rfl; have f3 := hA.f 3 rfl; clear hA))
      go_ret
      obtain ⟨hp4, hg4⟩ := hp3.rebox (s.power.lay (delA s.power.R x)) ((Grew.refl _ w3).putP _) (fun mb hA => hA.set 3 (.int .i64 (s.power.calls + 1)) (by simp [boxP])) rfl
      exact ⟨rfl, hp4, ((hg1.trans (Grew.below hb2) (fun _ _ => id)).trans hg3 (fun _ _ => id)).trans hg4 (fun _ _ => id)⟩
theorem Rename_any (h : PD w p F H s) (hok : s.ok n) (hn : n < 1000000) (x y : Nm) (hx : x.length ≤ maxLen) (hy : y.length ≤ maxLen) :
    Calls Try.prog 45 #[.pointer (some ⟨p, 0, none⟩), str x, str y] w fun e w' => e = .returned (.int .i64 ((s.rename x y).1 : Int)) ∧ PD w' p F H (s.rename x y).2 ∧ Grew F w w' := by
  obtain ⟨q, hq⟩ : ∃ q, s.power.off = q := ⟨_, rfl⟩
  have hP := power_at w p F H s n hq h hok
  cases q with
  | true =>
    have e1 : s.rename x y = (34, s.power) := by simp [DK.rename, hq]
    rw [e1]
    go_enter Try.func45, Try.ntmps45
    go_wp2_with (go_at_call 27; refine hP.mono ?_; rintro e w1 ⟨rfl, hp1, hg1⟩)
    go_ret
    exact ⟨rfl, hp1, hg1⟩
  | false =>
    obtain ⟨b, hb⟩ : ∃ b, s.has x = b := ⟨_, rfl⟩
    have hH := fun W hW => has_at W p F H s hb hW hx
    cases b with
    | false =>
      have e1 : s.rename x y = (31, s.power) := by simp [DK.rename, hq, hb]
      rw [e1]
      go_enter Try.func45, Try.ntmps45
      go_wp2_with (first
        | (go_at_call 27; refine hP.mono ?_; rintro e w1 ⟨rfl, hp1, hg1⟩)
        | (go_at_call 28; refine (hH _ hp1).mono ?_; rintro e w2 ⟨rfl, hp2, hb2⟩))
      go_ret
      exact ⟨rfl, hp2, hg1.trans (Grew.below hb2) (fun _ _ => id)⟩
    | true =>
      have e1 : s.rename x y = (0, ({ s.power with R := delA s.power.R x } : DK).lay (putN (delA s.power.R x) y (s.power.fileOf x))) := by
        simp only [DK.rename, hq, hb, renR, power_R, DK.fileOf]
        unfold DK.has at hb
        cases hl : look s.R x with
        | none => rw [hl] at hb; cases hb
        | some f => simp [DK.lay, hq]
      rw [e1]
      have hol := old_le hok.power x
      have hou := hok.power.used
      have hor := hok.power.room
      obtain ⟨k1, k2, k3, k4⟩ := del_facts hok.power.rise hok.power.sure x
      have hok2 := hok.power.withR k1 k2 (Nat.le_trans k3 hok.power.used) k4
      go_enter Try.func45, Try.ntmps45
      go_wp2_with (first
        | (go_at_call 27; refine hP.mono ?_; rintro e w1 ⟨rfl, hp1, hg1⟩)
        | (go_at_call 28; refine (hH _ hp1).mono ?_; rintro e w2 ⟨rfl, hp2, hb2⟩; obtain ⟨mb, g, c, hA, hlk, _, hfv⟩ := hp2.tell x hx; replace hlk := hlk w2 (KB.refl _); have c0 := hA.c 0 rfl; clear hA)
        | (go_at_call 58; refine (gone_any _ p F H s.power n (hp2.below ((Below.refl _ w2).alloc (Nat.le_refl _) _)) hok.power x hx).mono ?_; rintro e w3 ⟨rfl, hp3, hg3⟩; have hbx := (At.new w2 59 #[.slice (adr g) (s.power.fileOf x).b.length c, .int .i64 ((s.power.fileOf x).s : Int)]).grew hg3 (fun hk => absurd (hp2.lt _ (hp2.fh hk)) (Nat.lt_irrefl _)); have b0 := hbx.c 0 rfl; have b1 := hbx.c 1 rfl; clear hbx))
      have hb3 : ∀ o, Below w2.heap.size w2 (w2.alloc o) := fun o => (Below.refl _ w2).alloc (Nat.le_refl _) o
      have hfv3 := (FVat.grew (S := fun _ => False) hfv (Grew.below (hb3 _)) (fun _ _ _ => id)).grew hg3 (fun _ _ h => h)
      refine (set_at _ p F H n ⟨s.power.fileOf x, g, c⟩ rfl rfl rfl rfl hp3 hok2 hn hy hfv3 (show (s.power.fileOf x).b.length ≤ 16777216 by omega)).mono ?_
      rintro e w4 ⟨rfl, hp4, hg4⟩
      go_wp2
      go_ret
      exact ⟨rfl, hp4, (((hg1.trans (Grew.below hb2) (fun _ _ => id)).trans (Grew.below (hb3 _)) (fun _ _ h => h)).trans hg3 (fun _ _ => id)).trans hg4 (fun _ _ => id)⟩
end
end Go.Proofs.Ythnbnhlfiehihaa
