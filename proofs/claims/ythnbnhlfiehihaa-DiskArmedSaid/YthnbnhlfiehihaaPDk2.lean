/- Disks: what a call does (plain). -/
import Derived.Test.YthnbnhlfiehihaaPDk
namespace Go.Proofs.Ythnbnhlfiehihaa

/-- a file: its bytes, how many are sure -/
structure DF where
  b : List UInt8
  s : Nat
def DF.nil : DF := ⟨[], 0⟩
def DF.len (f : DF) : Nat := f.b.length
def DF.first (f : DF) (n : Nat) : DF := ⟨f.b.take n, min f.s n⟩
def DF.behind (f : DF) (b : List UInt8) : DF := ⟨f.b ++ b, f.s⟩
def DF.sync (f : DF) : DF := ⟨f.b, f.b.length⟩
abbrev DR := List (Nm × DF)
def usedR (R : DR) : Nat := sumN DF.len R
def mapR (R : DR) (x : Nm) (g : DF → DF) : DR := match look R x with
  | some f => putN R x (g f)
  | none => R
/-- a disk -/
structure DK where
  room : Nat
  calls : Int
  arm : Int
  keep : Int
  off : Bool
  R : DR
structure DK.ok (d : DK) (n : Nat) : Prop where
  room : d.room ≤ 16777216
  rise : RiseN d.R
  sure : ∀ p ∈ d.R, p.2.s ≤ p.2.b.length
  used : usedR d.R ≤ d.room
  arm0 : 0 ≤ d.arm
  arm1 : d.arm ≤ 9223372036854775807
  keep0 : -9223372036854775808 ≤ d.keep
  keep1 : d.keep ≤ 9223372036854775807
  files : (d.R.length : Int) ≤ d.calls
  calls : d.calls ≤ n
def DK.power (d : DK) : DK := if d.off then d else if 0 < d.arm then { d with arm := d.arm - 1, off := decide (d.arm - 1 = 0) } else d
def DK.has (d : DK) (x : Nm) : Bool := (look d.R x).isSome
def DK.roomy (d : DK) (x : Nm) (b : List UInt8) : Bool := d.has x && decide (b.length ≤ d.room - usedR d.R)
def DK.cutK (d : DK) (b : List UInt8) : List UInt8 := b.take d.keep.toNat
/-- a file laid, and a call counted -/
def DK.lay (d : DK) (R : DR) : DK := { d with R := R, calls := d.calls + 1 }
def DK.create (d : DK) (x : Nm) : Nat × DK := if d.power.off then (34, d.power) else if d.has x then (32, d.power) else (0, d.power.lay (putN d.R x DF.nil))
def DK.append (d : DK) (x : Nm) (b : List UInt8) : Nat × DK :=
  if d.power.off then (34, if d.off = false ∧ d.roomy x b = true then { d.power with R := mapR d.R x (·.behind (d.cutK b)) } else d.power)
  else if d.has x = false then (31, d.power) else if d.roomy x b = false then (33, d.power) else (0, d.power.lay (mapR d.R x (·.behind b)))
def DK.sync (d : DK) (x : Nm) : Nat × DK := if d.power.off then (34, d.power) else if d.has x = false then (31, d.power) else (0, d.power.lay (mapR d.R x DF.sync))
def DK.lenOf (d : DK) (x : Nm) : Nat := ((look d.R x).map DF.len).getD 0
def DK.truncate (d : DK) (x : Nm) (n : Int) : Nat × DK :=
  if d.power.off then (34, d.power) else if d.has x = false then (31, d.power) else if n < 0 ∨ (d.lenOf x : Int) < n then (24, d.power) else (0, d.power.lay (mapR d.R x (·.first n.toNat)))
def renR (R : DR) (x y : Nm) : DR := match look R x with
  | some f => putN (delA R x) y f
  | none => R
def DK.rename (d : DK) (x y : Nm) : Nat × DK := if d.power.off then (34, d.power) else if d.has x = false then (31, d.power) else (0, d.power.lay (renR d.R x y))
def DK.remove (d : DK) (x : Nm) : Nat × DK := if d.power.off then (34, d.power) else if d.has x = false then (31, d.power) else (0, d.power.lay (delA d.R x))
def DK.read (d : DK) (x : Nm) : List UInt8 × Bool := if d.off = true ∨ d.has x = false then ([], false) else (((look d.R x).map DF.b).getD [], true)
def DK.sureOf (d : DK) (x : Nm) : Nat := ((look d.R x).map DF.s).getD 0
def DK.names (d : DK) : List Nm := d.R.map (·.1)
def DK.armed (d : DK) (n k : Int) : DK := { d with arm := max n 0, keep := k }
/-- the power gone and given back: of each file's loose bytes as many as the next pick tells -/
def crashR : DR → List Int → DR
  | [], _ => []
  | (x, f) :: R, ps => if f.s < f.b.length then (x, (f.first (f.s + ((ps.headD 0) % ((f.b.length - f.s + 1 : Nat) : Int)).toNat)).sync) :: crashR R ps.tail else (x, f) :: crashR R ps
def DK.crash (d : DK) (ps : List Int) : DK := { d with arm := 0, off := false, R := crashR d.R ps }
def DK.new (room : Int) : DK := ⟨(min (max room 0) 16777216).toNat, 0, 0, 0, false, []⟩

theorem power_R (d : DK) : d.power.R = d.R := by unfold DK.power; split <;> (try split) <;> rfl
theorem power_room (d : DK) : d.power.room = d.room := by unfold DK.power; split <;> (try split) <;> rfl
theorem power_calls (d : DK) : d.power.calls = d.calls := by unfold DK.power; split <;> (try split) <;> rfl
theorem power_keep (d : DK) : d.power.keep = d.keep := by unfold DK.power; split <;> (try split) <;> rfl
theorem DK.ok.power {d : DK} {n : Nat} (h : d.ok n) : d.power.ok n := by
  obtain ⟨h1, h2, h3, h4, h5, h6, h7, h8, h9, h10⟩ := h
  unfold DK.power
  split
  · exact ⟨h1, h2, h3, h4, h5, h6, h7, h8, h9, h10⟩
  · split
    · exact ⟨h1, h2, h3, h4, by show 0 ≤ d.arm - 1; omega, by show d.arm - 1 ≤ _; omega, h7, h8, h9, h10⟩
    · exact ⟨h1, h2, h3, h4, h5, h6, h7, h8, h9, h10⟩
theorem DK.ok.more {d : DK} {n m : Nat} (h : d.ok n) (hm : n ≤ m) : d.ok m := by
  obtain ⟨h1, h2, h3, h4, h5, h6, h7, h8, h9, h10⟩ := h
  exact ⟨h1, h2, h3, h4, h5, h6, h7, h8, h9, by omega⟩
/-- other files -/
theorem DK.ok.withR {d : DK} {n : Nat} (h : d.ok n) {R : DR} (h1 : RiseN R) (h2 : ∀ p ∈ R, p.2.s ≤ p.2.b.length) (h3 : usedR R ≤ d.room) (h4 : R.length ≤ d.R.length) : ({ d with R := R } : DK).ok n := by
  obtain ⟨k1, k2, k3, k4, k5, k6, k7, k8, k9, k10⟩ := h
  exact ⟨k1, h1, h2, h3, k5, k6, k7, k8, by show (R.length : Int) ≤ d.calls; omega, k10⟩
theorem DK.ok.lay {d : DK} {n : Nat} (h : d.ok n) {R : DR} (h1 : RiseN R) (h2 : ∀ p ∈ R, p.2.s ≤ p.2.b.length) (h3 : usedR R ≤ d.room) (h4 : R.length ≤ d.R.length + 1) : (d.lay R).ok (n + 1) := by
  obtain ⟨k1, k2, k3, k4, k5, k6, k7, k8, k9, k10⟩ := h
  exact ⟨k1, h1, h2, h3, k5, k6, k7, k8, by show (R.length : Int) ≤ d.calls + 1; omega, by show d.calls + 1 ≤ _; omega⟩
theorem sure_put {R : DR} (h : ∀ p ∈ R, p.2.s ≤ p.2.b.length) {x : Nm} {f : DF} (hf : f.s ≤ f.b.length) : ∀ p ∈ putN R x f, p.2.s ≤ p.2.b.length := fun p hp => by
  rcases mem_putN hp with e | hp
  · rw [e]; exact hf
  · exact h p hp
theorem used_put {R : DR} (h : RiseN R) (x : Nm) (f : DF) : usedR (putN R x f) + ((look R x).map DF.len).getD 0 = usedR R + f.b.length := sumN_put DF.len h x f
theorem used_del {R : DR} (h : RiseN R) (x : Nm) : usedR (delA R x) + ((look R x).map DF.len).getD 0 = usedR R := sumN_del DF.len h.apart x
theorem sure_look {R : DR} (h : ∀ p ∈ R, p.2.s ≤ p.2.b.length) {x : Nm} {f : DF} (hf : look R x = some f) : f.s ≤ f.b.length := h (x, f) (look_mem hf)
/-- a file turned into one that takes at most k bytes more -/
theorem mapR_facts {R : DR} (hr : RiseN R) (hs : ∀ p ∈ R, p.2.s ≤ p.2.b.length) (x : Nm) (g : DF → DF) (k : Nat) (hg : ∀ f, f.s ≤ f.b.length → (g f).s ≤ (g f).b.length ∧ (g f).b.length ≤ f.b.length + k) :
    RiseN (mapR R x g) ∧ (∀ p ∈ mapR R x g, p.2.s ≤ p.2.b.length) ∧ usedR (mapR R x g) ≤ usedR R + k ∧ (mapR R x g).length = R.length := by
  unfold mapR
  cases hl : look R x with
  | none => exact ⟨hr, hs, Nat.le_add_right _ _, rfl⟩
  | some f =>
    obtain ⟨h1, h2⟩ := hg f (sure_look hs hl)
    refine ⟨rise_putN hr _ _, sure_put hs h1, ?_, ?_⟩
    · have := used_put hr x (g f)
      rw [hl] at this
      simp only [Option.map_some, Option.getD_some, DF.len] at this
      show usedR (putN R x (g f)) ≤ _
      omega
    · show (putN R x (g f)).length = _
      rw [len_putN hr, hl]
      rfl
theorem ren_facts {R : DR} (hr : RiseN R) (hs : ∀ p ∈ R, p.2.s ≤ p.2.b.length) (x y : Nm) :
    RiseN (renR R x y) ∧ (∀ p ∈ renR R x y, p.2.s ≤ p.2.b.length) ∧ usedR (renR R x y) ≤ usedR R ∧ (renR R x y).length ≤ R.length + 1 := by
  unfold renR
  cases hl : look R x with
  | none => exact ⟨hr, hs, Nat.le_refl _, Nat.le_add_right _ _⟩
  | some f =>
    refine ⟨rise_putN (rise_del hr x) _ _, sure_put (fun p hp => hs p (List.mem_filter.1 hp).1) (sure_look hs hl), ?_, ?_⟩
    · have h1 := used_put (rise_del hr x) y f
      have h2 := used_del hr x
      rw [hl] at h2
      simp only [Option.map_some, Option.getD_some, DF.len] at h2
      show usedR (putN (delA R x) y f) ≤ _
      omega
    · show (putN (delA R x) y f).length ≤ _
      rw [len_putN (rise_del hr x)]
      have : (delA R x).length ≤ R.length := List.length_filter_le _ _
      split <;> omega
theorem del_facts {R : DR} (hr : RiseN R) (hs : ∀ p ∈ R, p.2.s ≤ p.2.b.length) (x : Nm) :
    RiseN (delA R x) ∧ (∀ p ∈ delA R x, p.2.s ≤ p.2.b.length) ∧ usedR (delA R x) ≤ usedR R ∧ (delA R x).length ≤ R.length :=
  ⟨rise_del hr x, fun p hp => hs p (List.mem_filter.1 hp).1, by have := used_del hr x; omega, List.length_filter_le _ _⟩
theorem first_ok (f : DF) (n : Nat) : (f.first n).s ≤ (f.first n).b.length ∨ f.b.length < f.s := by
  simp only [DF.first, List.length_take]; omega
theorem crash_names : ∀ (R : DR) (ps : List Int), (crashR R ps).map (·.1) = R.map (·.1)
  | [], _ => rfl
  | (x, f) :: R, ps => by
    unfold crashR
    split <;> rw [List.map_cons, List.map_cons, crash_names R]
theorem crash_len (R : DR) (ps : List Int) : (crashR R ps).length = R.length := by
  have := congrArg List.length (crash_names R ps)
  simpa using this
theorem rise_names {β : Type} {R : List (Nm × β)} : RiseN R ↔ (R.map (·.1)).Pairwise (· < ·) := by
  unfold RiseN
  rw [List.pairwise_map]
theorem crash_rise {R : DR} (h : RiseN R) (ps : List Int) : RiseN (crashR R ps) := by
  rw [rise_names, crash_names, ← rise_names]; exact h
theorem crash_sure : ∀ (R : DR) (ps : List Int), (∀ p ∈ R, p.2.s ≤ p.2.b.length) → ∀ p ∈ crashR R ps, p.2.s = p.2.b.length
  | [], _, _, p, hp => by simp [crashR] at hp
  | (x, f) :: R, ps, h, p, hp => by
    have h0 := h (x, f) (by simp)
    unfold crashR at hp
    split at hp
    · rcases List.mem_cons.1 hp with e | hp
      · rw [e]; rfl
      · exact crash_sure R _ (fun q hq => h q (by simp [hq])) p hp
    · rename_i hn
      rcases List.mem_cons.1 hp with e | hp
      · rw [e]; dsimp only at h0 hn ⊢; omega
      · exact crash_sure R _ (fun q hq => h q (by simp [hq])) p hp
theorem crash_used : ∀ (R : DR) (ps : List Int), usedR (crashR R ps) ≤ usedR R
  | [], _ => Nat.le_refl _
  | (x, f) :: R, ps => by
    unfold crashR
    split
    · have := crash_used R ps.tail
      simp only [usedR, sumN, DF.len, DF.sync, DF.first, List.length_take] at this ⊢
      omega
    · have := crash_used R ps
      simp only [usedR, sumN] at this ⊢
      omega
theorem DK.ok.crash {d : DK} {n : Nat} (h : d.ok n) (ps : List Int) : (d.crash ps).ok n := by
  obtain ⟨k1, k2, k3, k4, k5, k6, k7, k8, k9, k10⟩ := h
  exact ⟨k1, crash_rise k2 ps, fun p hp => Nat.le_of_eq (crash_sure d.R ps k3 p hp), Nat.le_trans (crash_used d.R ps) k4, Int.le_refl 0, by show (0 : Int) ≤ _; omega, k7, k8, by show ((crashR d.R ps).length : Int) ≤ _; rw [crash_len]; exact k9, k10⟩
theorem DK.ok.armed {d : DK} {n : Nat} (h : d.ok n) {m k : Int} (hm : m ≤ 9223372036854775807) (hk : -9223372036854775808 ≤ k) (hk2 : k ≤ 9223372036854775807) : (d.armed m k).ok n := by
  obtain ⟨k1, k2, k3, k4, k5, k6, k7, k8, k9, k10⟩ := h
  exact ⟨k1, k2, k3, k4, by show 0 ≤ max m 0; omega, by show max m 0 ≤ _; omega, hk, hk2, k9, k10⟩
theorem DK.ok.new (room : Int) : (DK.new room).ok 0 :=
  ⟨by show (min (max room 0) 16777216).toNat ≤ _; omega, List.Pairwise.nil, fun p hp => (List.not_mem_nil hp).elim, Nat.zero_le _, Int.le_refl _, (by decide : (0 : Int) ≤ 9223372036854775807), (by decide : (-9223372036854775808 : Int) ≤ 0), (by decide : (0 : Int) ≤ 9223372036854775807), Int.le_refl _, Int.le_refl _⟩
theorem DK.ok.create {d : DK} {n : Nat} (h : d.ok n) (x : Nm) : (d.create x).2.ok (n + 1) := by
  unfold DK.create
  split
  · exact h.power.more (by omega)
  · split
    · exact h.power.more (by omega)
    · rename_i hh
      refine h.power.lay (rise_putN h.rise _ _) (sure_put h.sure (Nat.le_refl 0)) ?_ ?_
      · rw [power_room]
        have h1 := used_put h.rise x DF.nil
        have h2 := h.used
        simp only [DF.nil, List.length_nil] at h1
        exact Nat.le_trans (by show usedR (putN d.R x ⟨[], 0⟩) ≤ usedR d.R; omega) h2
      · rw [power_R, len_putN h.rise]
        split <;> omega
theorem DK.ok.append {d : DK} {n : Nat} (h : d.ok n) (x : Nm) (b : List UInt8) : (d.append x b).2.ok (n + 1) := by
  have key : ∀ c : List UInt8, c.length ≤ b.length → d.roomy x b = true → RiseN (mapR d.R x (·.behind c)) ∧ (∀ p ∈ mapR d.R x (·.behind c), p.2.s ≤ p.2.b.length) ∧ usedR (mapR d.R x (·.behind c)) ≤ d.room ∧ (mapR d.R x (·.behind c)).length = d.R.length := by
    intro c hc hr
    obtain ⟨h1, h2, h3, h4⟩ := mapR_facts h.rise h.sure x (·.behind c) c.length (fun f hf => by simp only [DF.behind, List.length_append]; omega)
    refine ⟨h1, h2, ?_, h4⟩
    simp only [DK.roomy, Bool.and_eq_true, decide_eq_true_eq] at hr
    have := h.used
    omega
  unfold DK.append
  split
  · show (if _ then _ else _ : DK).ok _
    split
    · rename_i hc
      obtain ⟨h1, h2, h3, h4⟩ := key (d.cutK b) (by simp only [DK.cutK, List.length_take]; omega) hc.2
      exact (h.power.withR h1 h2 (by rw [power_room]; exact h3) (by rw [power_R]; omega)).more (by omega)
    · exact h.power.more (by omega)
  · split
    · exact h.power.more (by omega)
    · split
      · exact h.power.more (by omega)
      · rename_i hr
        obtain ⟨h1, h2, h3, h4⟩ := key b (Nat.le_refl _) (by simpa using hr)
        exact h.power.lay h1 h2 (by rw [power_room]; exact h3) (by rw [power_R]; omega)
theorem DK.ok.sync {d : DK} {n : Nat} (h : d.ok n) (x : Nm) : (d.sync x).2.ok (n + 1) := by
  unfold DK.sync
  split
  · exact h.power.more (by omega)
  · split
    · exact h.power.more (by omega)
    · obtain ⟨h1, h2, h3, h4⟩ := mapR_facts h.rise h.sure x DF.sync 0 (fun f _ => ⟨Nat.le_refl _, Nat.le_refl _⟩)
      exact h.power.lay h1 h2 (by rw [power_room]; have := h.used; omega) (by rw [power_R]; omega)
theorem DK.ok.truncate {d : DK} {n : Nat} (h : d.ok n) (x : Nm) (k : Int) : (d.truncate x k).2.ok (n + 1) := by
  unfold DK.truncate
  split
  · exact h.power.more (by omega)
  · split
    · exact h.power.more (by omega)
    · split
      · exact h.power.more (by omega)
      · obtain ⟨h1, h2, h3, h4⟩ := mapR_facts h.rise h.sure x (·.first k.toNat) 0 (fun f hf => by simp only [DF.first, List.length_take]; omega)
        exact h.power.lay h1 h2 (by rw [power_room]; have := h.used; omega) (by rw [power_R]; omega)
theorem DK.ok.rename {d : DK} {n : Nat} (h : d.ok n) (x y : Nm) : (d.rename x y).2.ok (n + 1) := by
  unfold DK.rename
  split
  · exact h.power.more (by omega)
  · split
    · exact h.power.more (by omega)
    · obtain ⟨h1, h2, h3, h4⟩ := ren_facts h.rise h.sure x y
      exact h.power.lay h1 h2 (by rw [power_room]; have := h.used; omega) (by rw [power_R]; omega)
theorem DK.ok.remove {d : DK} {n : Nat} (h : d.ok n) (x : Nm) : (d.remove x).2.ok (n + 1) := by
  unfold DK.remove
  split
  · exact h.power.more (by omega)
  · split
    · exact h.power.more (by omega)
    · obtain ⟨h1, h2, h3, h4⟩ := del_facts h.rise h.sure x
      exact h.power.lay h1 h2 (by rw [power_room]; have := h.used; omega) (by rw [power_R]; omega)
end Go.Proofs.Ythnbnhlfiehihaa

