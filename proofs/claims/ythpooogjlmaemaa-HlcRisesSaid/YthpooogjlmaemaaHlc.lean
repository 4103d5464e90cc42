/- Clocks: the walks of New, Last, Peek, Next. -/
import Derived.Test.YthpooogjlmaemaaS3
namespace Go.Proofs.Ythpooogjlmaemaa
open Go.RowKit

/-- a clock -/
structure Clk where
  s : S3
  m : Int
  d : Int
def Clk.ok (c : Clk) : Prop := (-1 ≤ c.s.p ∧ c.s.p ≤ 281474976710655) ∧ (0 ≤ c.s.l ∧ c.s.l ≤ 65535) ∧ (0 ≤ c.m ∧ c.m ≤ 65535) ∧ (0 ≤ c.d ∧ c.d ≤ 281474976710655)
def Clk.cells (c : Clk) : Array Value := #[.int .i64 c.s.p, .int .i64 c.s.l, .int .i64 c.s.r, .int .i64 c.m, .int .i64 c.d]
def StandsC (w : World) (g : Nat) (c : Clk) : Prop := Stands w g c.s ∧ w.cell? ⟨g, 3, none⟩ = some (.int .i64 c.m) ∧ w.cell? ⟨g, 4, none⟩ = some (.int .i64 c.d)
theorem StandsC.below {w w' : World} {g : Nat} {c : Clk} (h : StandsC w g c) (hb : Below w.heap.size w w') : StandsC w' g c :=
  ⟨h.1.below hb, (hb.cell h.1.1).trans h.2.1, (hb.cell h.1.1).trans h.2.2⟩
theorem StandsC.belowB {w w' : World} {g B : Nat} {c : Clk} (h : StandsC w g c) (hg : g < B) (hb : Below B w w') (hs : w.heap.size ≤ w'.heap.size) : StandsC w' g c := by
  obtain ⟨⟨h1, h2, h3, h4, h5, h6, h7⟩, h8, h9⟩ := h
  exact ⟨⟨Nat.lt_of_lt_of_le h1 hs, (hb.cell hg).trans h2, (hb.cell hg).trans h3, (hb.cell hg).trans h4, (hb.frozen hg).trans h5, (hb.frozen hg).trans h6, (hb.frozen hg).trans h7⟩, (hb.cell hg).trans h8, (hb.cell hg).trans h9⟩
theorem StandsC.alloc {w : World} {g : Nat} {c : Clk} (h : StandsC w g c) (o : Obj) : StandsC (w.alloc o) g c := h.below (balloc (Below.refl _ _) o)
theorem StandsC.new (w : World) (t : TypeId) (c : Clk) : StandsC (w.alloc (.cells c.cells t)) w.heap.size c := by
  obtain ⟨b', o, e, _, _, h⟩ := (Sl.new w t c.cells (0, 0)).at_ (k := 0) (by simp [Clk.cells])
  cases e
  refine ⟨⟨by simp, ?_, ?_, ?_, by rw [frozen?_alloc_cells]; simp [World.frozen?], by rw [frozen?_alloc_cells]; simp [World.frozen?], by rw [frozen?_alloc_cells]; simp [World.frozen?]⟩, ?_, ?_⟩
  · exact h 0 _ rfl
  · exact h 1 _ rfl
  · exact h 2 _ rfl
  · exact h 3 _ rfl
  · exact h 4 _ rfl
theorem StandsC.put {w : World} {g : Nat} {c : Clk} (h : StandsC w g c) (s : S3) : StandsC (put3 w g s) g { c with s := s } := by
  refine ⟨h.1.put s, ?_, ?_⟩
  · unfold put3
    rw [setCell_other _ _ _ _ _ _ (.inr (by omega)), setCell_other _ _ _ _ _ _ (.inr (by omega)), setCell_other _ _ _ _ _ _ (.inr (by omega))]; exact h.2.1
  · unfold put3
    rw [setCell_other _ _ _ _ _ _ (.inr (by omega)), setCell_other _ _ _ _ _ _ (.inr (by omega)), setCell_other _ _ _ _ _ _ (.inr (by omega))]; exact h.2.2
theorem StandsC.put_other {w : World} {g g' : Nat} {c : Clk} (h : StandsC w g c) (s : S3) (hne : g' ≠ g) : StandsC (put3 w g' s) g c := by
  refine ⟨h.1.put_other s hne, ?_, ?_⟩
  · unfold put3
    rw [setCell_other _ _ _ _ _ _ (.inl hne), setCell_other _ _ _ _ _ _ (.inl hne), setCell_other _ _ _ _ _ _ (.inl hne)]; exact h.2.1
  · unfold put3
    rw [setCell_other _ _ _ _ _ _ (.inl hne), setCell_other _ _ _ _ _ _ (.inl hne), setCell_other _ _ _ _ _ _ (.inl hne)]; exact h.2.2
def timedB (v : Int) : Bool := decide (0 ≤ v ∧ v ≤ 281474976710655)
set_option maxRecDepth 100000 in
theorem timed_any (w : World) (v : Int) : Calls Try.prog 39 #[.int .i64 v] w fun e w' => e = .returned (.bool (timedB v)) ∧ w = w' := by
  go_enter Try.func39, Try.ntmps39
  go_wp2_with fail
  all_goals
    go_ret
    refine ⟨ret_b ?_, rfl⟩
    unfold timedB
    first | (rw [eq_comm, decide_eq_false_iff_not]; omega) | (rw [decide_eq_decide]; omega)
set_option maxRecDepth 100000 in
theorem Last_any (w : World) (g : Nat) (c : Clk) (h : StandsC w g c) : Calls Try.prog 25 #[.pointer (some ⟨g, 0, none⟩)] w fun e w' => e = .returned c.s.v ∧ Below w.heap.size w w' := by
  have h' := h.alloc (.cells #[.int .i64 0, .int .i64 0, .int .i64 0] 23)
  obtain ⟨⟨_, a0, a1, a2, _, _, _⟩, a3, a4⟩ := h'
  obtain ⟨⟨_, c0, c1, c2, _, _, _⟩, c3, c4⟩ := h
  go_enter Try.func25, Try.ntmps25
  go_wp2_with fail
  exact bodyPost_ret (v := .agg #[.int .i64 c.s.p, .int .i64 c.s.l, .int .i64 c.s.r]) (by simp [results, Try.results25, go_sem]) rfl ⟨rfl, (Below.refl _ _).alloc (Nat.le_refl _) _⟩
set_option maxRecDepth 100000 in
theorem New_ok (w : World) (r m d : Int) (hr : 0 ≤ r ∧ r < 64) (hm : 0 ≤ m ∧ m ≤ 65535) (hd : timedB d = true) :
    Calls Try.prog 23 #[.int .i64 r, .int .i64 m, .int .i64 d] w fun e w' => ∃ g, e = .returned (.tuple #[.pointer (some ⟨g, 0, none⟩), .int .i64 0]) ∧ w.heap.size ≤ g ∧ StandsC w' g ⟨⟨0, 0, r⟩, m, d⟩ ∧ Below w.heap.size w w' := by
  obtain ⟨r1, r2⟩ := hr
  obtain ⟨m1, m2⟩ := hm
  go_enter Try.func23, Try.ntmps23
  go_wp2_with fail
  refine (timed_any w d).mono ?_
  rw [hd]
  rintro e w1 ⟨rfl, rfl⟩
  go_wp2_with fail
  go_ret2
  exact ⟨w.heap.size, rfl, Nat.le_refl _, StandsC.new w _ ⟨⟨0, 0, r⟩, m, d⟩, (Below.refl _ _).alloc (Nat.le_refl _) _⟩
def stepS (c : Clk) (now : Int) : Option S3 := if c.s.p < now then some ⟨now, 0, c.s.r⟩ else if c.s.l < c.m then some ⟨c.s.p, c.s.l + 1, c.s.r⟩ else if c.s.p < 281474976710655 then some ⟨c.s.p + 1, 0, c.s.r⟩ else none
def endS (c : Clk) (now : Int) : Option S3 → S3 × Int
  | none => (⟨0, 0, 0⟩, 27)
  | some s => if now + c.d < s.p then (⟨0, 0, 0⟩, 28) else (s, 0)
def peekS (c : Clk) (now : Int) : S3 × Int := if timedB now = true then endS c now (stepS c now) else (⟨0, 0, 0⟩, 24)
set_option maxRecDepth 100000 in
set_option maxHeartbeats 1600000 in
theorem Peek_out (w : World) (g : Nat) (now : Int) (hn : timedB now = false) : Calls Try.prog 40 #[.pointer (some ⟨g, 0, none⟩), .int .i64 now] w fun e w' => e = .returned (.tuple #[S3.v ⟨0, 0, 0⟩, .int .i64 24]) ∧ Below w.heap.size w w' := by
  go_enter Try.func40, Try.ntmps40
  go_wp2_with fail
  refine (timed_any _ now).mono ?_
  rw [hn]
  rintro e w1 ⟨rfl, rfl⟩
  go_wp2_with fail
  exact bodyPost_ret (v := .tuple #[.agg #[.int .i64 0, .int .i64 0, .int .i64 0], .int .i64 24]) (by simp [results, Try.results40, go_sem]) rfl ⟨rfl, (Below.refl _ _).alloc (Nat.le_refl _) _⟩
set_option maxRecDepth 100000 in
set_option maxHeartbeats 3200000 in
theorem Peek_in (w : World) (g : Nat) (c : Clk) (now : Int) (h : StandsC w g c) (hc : c.ok) (hn : timedB now = true) : Calls Try.prog 40 #[.pointer (some ⟨g, 0, none⟩), .int .i64 now] w fun e w' => e = .returned (.tuple #[(endS c now (stepS c now)).1.v, .int .i64 (endS c now (stepS c now)).2]) ∧ Below w.heap.size w w' := by
  obtain ⟨⟨k1, k2⟩, ⟨k3, k4⟩, ⟨k5, k6⟩, ⟨k7, k8⟩⟩ := hc
  have hn' : 0 ≤ now ∧ now ≤ 281474976710655 := by simpa [timedB] using hn
  obtain ⟨n1, n2⟩ := hn'
  have kw : IntKind.i64.wrap (now + c.d) = now + c.d := by rw [IntKind.wrap_i64]; omega
  obtain ⟨⟨p, l, r⟩, m, d⟩ := c
  simp only at *
  have hA := h.alloc (.cells #[.int .i64 0, .int .i64 0, .int .i64 0] 23)
  have hb0 := balloc (Below.refl w.heap.size w) (.cells #[.int .i64 0, .int .i64 0, .int .i64 0] 23)
  obtain ⟨⟨_, a0, a1, a2, _, _, _⟩, a3, a4⟩ := hA
  simp only at *
  unfold stepS
  by_cases hA : p < now
  · simp only [if_pos hA]
    go_enter Try.func40, Try.ntmps40
    go_wp2_with fail
    refine (timed_any _ now).mono ?_
    rw [hn]
    rintro e w1 ⟨rfl, rfl⟩
    go_wp2_with fail
    have q := cell3 (w.alloc (.cells #[.int .i64 0, .int .i64 0, .int .i64 0] 23)) 23 (.int .i64 now) (.int .i64 0) (.int .i64 r)
    simp only [World.size_alloc] at q
    have e0 := cellB q.1
    have hA2 := (h.alloc (.cells #[.int .i64 0, .int .i64 0, .int .i64 0] 23)).alloc (.cells #[.int .i64 now, .int .i64 0, .int .i64 r] 23)
    have e1 := cellB hA2.2.2
    simp only at e1
    have hS0 : KB ((w.alloc (.cells #[.int .i64 0, .int .i64 0, .int .i64 0] 23)).alloc (.cells #[.int .i64 now, .int .i64 0, .int .i64 r] 23)).heap ((w.alloc (.cells #[.int .i64 0, .int .i64 0, .int .i64 0] 23)).alloc (.cells #[.int .i64 now, .int .i64 0, .int .i64 r] 23)).drew := KB.refl ((w.alloc (.cells #[.int .i64 0, .int .i64 0, .int .i64 0] 23)).alloc (.cells #[.int .i64 now, .int .i64 0, .int .i64 r] 23))
    refine bstartH (((w.alloc (.cells #[.int .i64 0, .int .i64 0, .int .i64 0] 23)).alloc (.cells #[.int .i64 now, .int .i64 0, .int .i64 r] 23)).heap) (by kernel_rfl) ?_
    refine btake 0 (oi := _) (v := ?_) (by simp only [List.getElem?_toArray, List.getElem?_cons_zero]; rfl) (by kernel_rfl) (by exact fun _ _ _ h => h) (by first | assumption | exact KB.refl _) (.inl ⟨by rfl, fun W hW => ?_⟩) ?_; rotate_left
    · (go_simp; first | done | with_reducible rfl)
    try simp only [Act.put, List.setIfInBounds_toArray, List.set_cons_zero, List.set_cons_succ]
    refine btake 1 (oi := _) (v := ?_) (by simp only [List.getElem?_toArray, List.getElem?_cons_succ, List.getElem?_cons_zero]; rfl) (by kernel_rfl) (by exact fun _ _ _ h => h) (by first | assumption | exact KB.refl _) (.inl ⟨by rfl, fun W hW => ?_⟩) ?_; rotate_left
    · (go_simp; first | done | with_reducible rfl)
    try simp only [Act.put, List.setIfInBounds_toArray, List.set_cons_zero, List.set_cons_succ]
    refine btake 2 (oi := _) (v := ?_) (by simp only [List.getElem?_toArray, List.getElem?_cons_succ, List.getElem?_cons_zero]; rfl) (by kernel_rfl) (by exact fun _ _ _ h => h) (by first | assumption | exact KB.refl _) (.inl ⟨by rfl, fun W hW => ?_⟩) ?_; rotate_left
    · (go_simp; first | done | with_reducible rfl)
    try simp only [Act.put, List.setIfInBounds_toArray, List.set_cons_zero, List.set_cons_succ]
    refine btake 3 (oi := _) (v := ?_) (by simp only [List.getElem?_toArray, List.getElem?_cons_succ, List.getElem?_cons_zero]; rfl) (by kernel_rfl) (by exact fun _ _ _ h => h) (by first | assumption | exact KB.refl _) (.inl ⟨by rfl, fun W hW => ?_⟩) ?_; rotate_left
    · (go_simp; first | done | with_reducible rfl)
    try simp only [Act.put, List.setIfInBounds_toArray, List.set_cons_zero, List.set_cons_succ]
    refine btake 4 (oi := _) (v := ?_) (by simp only [List.getElem?_toArray, List.getElem?_cons_succ, List.getElem?_cons_zero]; rfl) (by kernel_rfl) (by exact fun _ _ _ h => h) (by first | assumption | exact KB.refl _) (.inl ⟨by rfl, fun W hW => ?_⟩) ?_; rotate_left
    · (go_simp; first | done | with_reducible rfl)
    try simp only [Act.put, List.setIfInBounds_toArray, List.set_cons_zero, List.set_cons_succ]
    refine btake 5 (oi := _) (v := ?_) (by simp only [List.getElem?_toArray, List.getElem?_cons_succ, List.getElem?_cons_zero]; rfl) (by kernel_rfl) (by exact fun _ _ _ h => h) (by first | assumption | exact KB.refl _) (.inl ⟨by rfl, fun W hW => ?_⟩) ?_; rotate_left
    · (go_simp; first | done | with_reducible rfl)
    try simp only [Act.put, List.setIfInBounds_toArray, List.set_cons_zero, List.set_cons_succ]
    refine btake 6 (oi := _) (v := ?_) (by simp only [List.getElem?_toArray, List.getElem?_cons_succ, List.getElem?_cons_zero]; rfl) (by kernel_rfl) (by exact fun _ _ _ h => h) (by first | assumption | exact KB.refl _) (.inl ⟨by rfl, fun W hW => ?_⟩) ?_; rotate_left
    · (go_simp; first | done | with_reducible rfl)
    try simp only [Act.put, List.setIfInBounds_toArray, List.set_cons_zero, List.set_cons_succ]
    refine btake 7 (oi := _) (v := ?_) (by simp only [List.getElem?_toArray, List.getElem?_cons_succ, List.getElem?_cons_zero]; rfl) (by kernel_rfl) (by exact fun _ _ _ h => h) (by first | assumption | exact KB.refl _) (.inl ⟨by rfl, fun W hW => ?_⟩) ?_; rotate_left
    · (go_simp; first | done | with_reducible rfl)
    try simp only [Act.put, List.setIfInBounds_toArray, List.set_cons_zero, List.set_cons_succ]
    refine btake 8 (oi := _) (v := ?_) (by simp only [List.getElem?_toArray, List.getElem?_cons_succ, List.getElem?_cons_zero]; rfl) (by kernel_rfl) (by exact fun _ _ _ h => h) (by first | assumption | exact KB.refl _) (.inl ⟨by rfl, fun W hW => ?_⟩) ?_; rotate_left
    · (go_simp; first | done | with_reducible rfl)
    try simp only [Act.put, List.setIfInBounds_toArray, List.set_cons_zero, List.set_cons_succ]
    refine bdone (by kernel_rfl) ?_
    go_wp2_with fail
    all_goals first
      | (exfalso; omega)
      | (exact bodyPost_ret (v := .tuple #[.agg #[.int .i64 0, .int .i64 0, .int .i64 0], .int .i64 28]) (by simp [results, Try.results40, go_sem]) rfl ⟨by simp only [endS]; rw [if_pos (by omega)]; rfl, (by repeat (first | exact Below.refl _ _ | refine Below.drew ?_ | refine Below.alloc ?_ (by simp) _ | refine Below.setCell ?_ (by simp) _))⟩)
      | (exact bodyPost_ret (v := .tuple #[.agg #[.int .i64 (now), .int .i64 (0), .int .i64 r], .int .i64 0]) (by simp [results, Try.results40, go_sem]) rfl ⟨by simp only [endS]; rw [if_neg (by omega)]; rfl, (by repeat (first | exact Below.refl _ _ | refine Below.drew ?_ | refine Below.alloc ?_ (by simp) _ | refine Below.setCell ?_ (by simp) _))⟩)
  · simp only [if_neg hA]
    by_cases hB : l < m
    · simp only [if_pos hB]
      go_enter Try.func40, Try.ntmps40
      go_wp2_with fail
      refine (timed_any _ now).mono ?_
      rw [hn]
      rintro e w1 ⟨rfl, rfl⟩
      go_wp2_with fail
      have q0 := cell3 (w.alloc (.cells #[.int .i64 0, .int .i64 0, .int .i64 0] 23)) 23 (.int .i64 p) (.int .i64 l) (.int .i64 r)
      simp only [World.size_alloc] at q0
      have z1 := cellB q0.2.1
      have hA3 := (h.alloc (.cells #[.int .i64 0, .int .i64 0, .int .i64 0] 23)).alloc (.cells #[.int .i64 p, .int .i64 l, .int .i64 r] 23)
      have z3 := cellB hA3.2.1
      simp only at z3
      refine bstart (by kernel_rfl) ?_
      refine btake 0 (oi := _) (v := ?_) (by simp only [List.getElem?_toArray, List.getElem?_cons_zero]; rfl) (by kernel_rfl) (by exact fun _ _ _ h => h) (by first | assumption | exact KB.refl _) (.inl ⟨by rfl, fun W hW => ?_⟩) ?_; rotate_left
      · (go_simp; first | done | with_reducible rfl)
      try simp only [Act.put, List.setIfInBounds_toArray, List.set_cons_zero, List.set_cons_succ]
      refine btake 1 (oi := _) (v := ?_) (by simp only [List.getElem?_toArray, List.getElem?_cons_succ, List.getElem?_cons_zero]; rfl) (by kernel_rfl) (by exact fun _ _ _ h => h) (by first | assumption | exact KB.refl _) (.inl ⟨by rfl, fun W hW => ?_⟩) ?_; rotate_left
      · (go_simp; first | done | with_reducible rfl)
      try simp only [Act.put, List.setIfInBounds_toArray, List.set_cons_zero, List.set_cons_succ]
      refine btake 2 (oi := _) (v := ?_) (by simp only [List.getElem?_toArray, List.getElem?_cons_succ, List.getElem?_cons_zero]; rfl) (by kernel_rfl) (by exact fun _ _ _ h => h) (by first | assumption | exact KB.refl _) (.inl ⟨by rfl, fun W hW => ?_⟩) ?_; rotate_left
      · (go_simp; first | done | with_reducible rfl)
      try simp only [Act.put, List.setIfInBounds_toArray, List.set_cons_zero, List.set_cons_succ]
      refine btake 3 (oi := _) (v := ?_) (by simp only [List.getElem?_toArray, List.getElem?_cons_succ, List.getElem?_cons_zero]; rfl) (by kernel_rfl) (by exact fun _ _ _ h => h) (by first | assumption | exact KB.refl _) (.inl ⟨by rfl, fun W hW => ?_⟩) ?_; rotate_left
      · (go_simp; first | done | with_reducible rfl)
      try simp only [Act.put, List.setIfInBounds_toArray, List.set_cons_zero, List.set_cons_succ]
      refine btake 4 (oi := _) (v := ?_) (by simp only [List.getElem?_toArray, List.getElem?_cons_succ, List.getElem?_cons_zero]; rfl) (by kernel_rfl) (by exact fun _ _ _ h => h) (by first | assumption | exact KB.refl _) (.inl ⟨by rfl, fun W hW => ?_⟩) ?_; rotate_left
      · (go_simp; first | done | with_reducible rfl)
      try simp only [Act.put, List.setIfInBounds_toArray, List.set_cons_zero, List.set_cons_succ]
      refine btake 5 (oi := _) (v := ?_) (by simp only [List.getElem?_toArray, List.getElem?_cons_succ, List.getElem?_cons_zero]; rfl) (by kernel_rfl) (by exact fun _ _ _ h => h) (by first | assumption | exact KB.refl _) (.inl ⟨by rfl, fun W hW => ?_⟩) ?_; rotate_left
      · (go_simp; first | done | with_reducible rfl)
      try simp only [Act.put, List.setIfInBounds_toArray, List.set_cons_zero, List.set_cons_succ]
      refine btake 6 (oi := _) (v := ?_) (by simp only [List.getElem?_toArray, List.getElem?_cons_succ, List.getElem?_cons_zero]; rfl) (by kernel_rfl) (by exact fun _ _ _ h => h) (by first | assumption | exact KB.refl _) (.inl ⟨by rfl, fun W hW => ?_⟩) ?_; rotate_left
      · (go_simp; first | done | with_reducible rfl)
      try simp only [Act.put, List.setIfInBounds_toArray, List.set_cons_zero, List.set_cons_succ]
      refine btake 7 (oi := _) (v := ?_) (by simp only [List.getElem?_toArray, List.getElem?_cons_succ, List.getElem?_cons_zero]; rfl) (by kernel_rfl) (by exact fun _ _ _ h => h) (by first | assumption | exact KB.refl _) (.inl ⟨by rfl, fun W hW => ?_⟩) ?_; rotate_left
      · (go_simp; first | done | with_reducible rfl)
      try simp only [Act.put, List.setIfInBounds_toArray, List.set_cons_zero, List.set_cons_succ]
      refine bdone (by kernel_rfl) ?_
      go_wp2_with fail
      have q := cell3 (w.alloc (.cells #[.int .i64 0, .int .i64 0, .int .i64 0] 23)) 23 (.int .i64 p) (.int .i64 (l + 1)) (.int .i64 r)
      simp only [World.size_alloc] at q
      have e0 := cellB q.1
      have hA2 := (h.alloc (.cells #[.int .i64 0, .int .i64 0, .int .i64 0] 23)).alloc (.cells #[.int .i64 p, .int .i64 (l + 1), .int .i64 r] 23)
      have e1 := cellB hA2.2.2
      simp only at e1
      have hS0 : KB ((w.alloc (.cells #[.int .i64 0, .int .i64 0, .int .i64 0] 23)).alloc (.cells #[.int .i64 p, .int .i64 (l + 1), .int .i64 r] 23)).heap ((w.alloc (.cells #[.int .i64 0, .int .i64 0, .int .i64 0] 23)).alloc (.cells #[.int .i64 p, .int .i64 (l + 1), .int .i64 r] 23)).drew.drew := KB.refl ((w.alloc (.cells #[.int .i64 0, .int .i64 0, .int .i64 0] 23)).alloc (.cells #[.int .i64 p, .int .i64 (l + 1), .int .i64 r] 23))
      refine bstartH (((w.alloc (.cells #[.int .i64 0, .int .i64 0, .int .i64 0] 23)).alloc (.cells #[.int .i64 p, .int .i64 (l + 1), .int .i64 r] 23)).heap) (by kernel_rfl) ?_
      refine btake 0 (oi := _) (v := ?_) (by simp only [List.getElem?_toArray, List.getElem?_cons_zero]; rfl) (by kernel_rfl) (by exact fun _ _ _ h => h) (by first | assumption | exact KB.refl _) (.inl ⟨by rfl, fun W hW => ?_⟩) ?_; rotate_left
      · (go_simp; first | done | with_reducible rfl)
      try simp only [Act.put, List.setIfInBounds_toArray, List.set_cons_zero, List.set_cons_succ]
      refine btake 1 (oi := _) (v := ?_) (by simp only [List.getElem?_toArray, List.getElem?_cons_succ, List.getElem?_cons_zero]; rfl) (by kernel_rfl) (by exact fun _ _ _ h => h) (by first | assumption | exact KB.refl _) (.inl ⟨by rfl, fun W hW => ?_⟩) ?_; rotate_left
      · (go_simp; first | done | with_reducible rfl)
      try simp only [Act.put, List.setIfInBounds_toArray, List.set_cons_zero, List.set_cons_succ]
      refine btake 2 (oi := _) (v := ?_) (by simp only [List.getElem?_toArray, List.getElem?_cons_succ, List.getElem?_cons_zero]; rfl) (by kernel_rfl) (by exact fun _ _ _ h => h) (by first | assumption | exact KB.refl _) (.inl ⟨by rfl, fun W hW => ?_⟩) ?_; rotate_left
      · (go_simp; first | done | with_reducible rfl)
      try simp only [Act.put, List.setIfInBounds_toArray, List.set_cons_zero, List.set_cons_succ]
      refine btake 3 (oi := _) (v := ?_) (by simp only [List.getElem?_toArray, List.getElem?_cons_succ, List.getElem?_cons_zero]; rfl) (by kernel_rfl) (by exact fun _ _ _ h => h) (by first | assumption | exact KB.refl _) (.inl ⟨by rfl, fun W hW => ?_⟩) ?_; rotate_left
      · (go_simp; first | done | with_reducible rfl)
      try simp only [Act.put, List.setIfInBounds_toArray, List.set_cons_zero, List.set_cons_succ]
      refine btake 4 (oi := _) (v := ?_) (by simp only [List.getElem?_toArray, List.getElem?_cons_succ, List.getElem?_cons_zero]; rfl) (by kernel_rfl) (by exact fun _ _ _ h => h) (by first | assumption | exact KB.refl _) (.inl ⟨by rfl, fun W hW => ?_⟩) ?_; rotate_left
      · (go_simp; first | done | with_reducible rfl)
      try simp only [Act.put, List.setIfInBounds_toArray, List.set_cons_zero, List.set_cons_succ]
      refine btake 5 (oi := _) (v := ?_) (by simp only [List.getElem?_toArray, List.getElem?_cons_succ, List.getElem?_cons_zero]; rfl) (by kernel_rfl) (by exact fun _ _ _ h => h) (by first | assumption | exact KB.refl _) (.inl ⟨by rfl, fun W hW => ?_⟩) ?_; rotate_left
      · (go_simp; first | done | with_reducible rfl)
      try simp only [Act.put, List.setIfInBounds_toArray, List.set_cons_zero, List.set_cons_succ]
      refine btake 6 (oi := _) (v := ?_) (by simp only [List.getElem?_toArray, List.getElem?_cons_succ, List.getElem?_cons_zero]; rfl) (by kernel_rfl) (by exact fun _ _ _ h => h) (by first | assumption | exact KB.refl _) (.inl ⟨by rfl, fun W hW => ?_⟩) ?_; rotate_left
      · (go_simp; first | done | with_reducible rfl)
      try simp only [Act.put, List.setIfInBounds_toArray, List.set_cons_zero, List.set_cons_succ]
      refine btake 7 (oi := _) (v := ?_) (by simp only [List.getElem?_toArray, List.getElem?_cons_succ, List.getElem?_cons_zero]; rfl) (by kernel_rfl) (by exact fun _ _ _ h => h) (by first | assumption | exact KB.refl _) (.inl ⟨by rfl, fun W hW => ?_⟩) ?_; rotate_left
      · (go_simp; first | done | with_reducible rfl)
      try simp only [Act.put, List.setIfInBounds_toArray, List.set_cons_zero, List.set_cons_succ]
      refine btake 8 (oi := _) (v := ?_) (by simp only [List.getElem?_toArray, List.getElem?_cons_succ, List.getElem?_cons_zero]; rfl) (by kernel_rfl) (by exact fun _ _ _ h => h) (by first | assumption | exact KB.refl _) (.inl ⟨by rfl, fun W hW => ?_⟩) ?_; rotate_left
      · (go_simp; first | done | with_reducible rfl)
      try simp only [Act.put, List.setIfInBounds_toArray, List.set_cons_zero, List.set_cons_succ]
      refine bdone (by kernel_rfl) ?_
      go_wp2_with fail
      all_goals first
        | (exfalso; omega)
        | (exact bodyPost_ret (v := .tuple #[.agg #[.int .i64 0, .int .i64 0, .int .i64 0], .int .i64 28]) (by simp [results, Try.results40, go_sem]) rfl ⟨by simp only [endS]; rw [if_pos (by omega)]; rfl, (by repeat (first | exact Below.refl _ _ | refine Below.drew ?_ | refine Below.alloc ?_ (by simp) _ | refine Below.setCell ?_ (by simp) _))⟩)
        | (exact bodyPost_ret (v := .tuple #[.agg #[.int .i64 (p), .int .i64 ((l + 1)), .int .i64 r], .int .i64 0]) (by simp [results, Try.results40, go_sem]) rfl ⟨by simp only [endS]; rw [if_neg (by omega)]; rfl, (by repeat (first | exact Below.refl _ _ | refine Below.drew ?_ | refine Below.alloc ?_ (by simp) _ | refine Below.setCell ?_ (by simp) _))⟩)
    · simp only [if_neg hB]
      by_cases hC : p < 281474976710655
      · simp only [if_pos hC]
        go_enter Try.func40, Try.ntmps40
        go_wp2_with fail
        refine (timed_any _ now).mono ?_
        rw [hn]
        rintro e w1 ⟨rfl, rfl⟩
        go_wp2_with fail
        have q0 := cell3 (w.alloc (.cells #[.int .i64 0, .int .i64 0, .int .i64 0] 23)) 23 (.int .i64 p) (.int .i64 l) (.int .i64 r)
        simp only [World.size_alloc] at q0
        have z1 := cellB q0.2.1
        have hA3 := (h.alloc (.cells #[.int .i64 0, .int .i64 0, .int .i64 0] 23)).alloc (.cells #[.int .i64 p, .int .i64 l, .int .i64 r] 23)
        have z3 := cellB hA3.2.1
        simp only at z3
        refine bstart (by kernel_rfl) ?_
        refine btake 0 (oi := _) (v := ?_) (by simp only [List.getElem?_toArray, List.getElem?_cons_zero]; rfl) (by kernel_rfl) (by exact fun _ _ _ h => h) (by first | assumption | exact KB.refl _) (.inl ⟨by rfl, fun W hW => ?_⟩) ?_; rotate_left
        · (go_simp; first | done | with_reducible rfl)
        try simp only [Act.put, List.setIfInBounds_toArray, List.set_cons_zero, List.set_cons_succ]
        refine btake 1 (oi := _) (v := ?_) (by simp only [List.getElem?_toArray, List.getElem?_cons_succ, List.getElem?_cons_zero]; rfl) (by kernel_rfl) (by exact fun _ _ _ h => h) (by first | assumption | exact KB.refl _) (.inl ⟨by rfl, fun W hW => ?_⟩) ?_; rotate_left
        · (go_simp; first | done | with_reducible rfl)
        try simp only [Act.put, List.setIfInBounds_toArray, List.set_cons_zero, List.set_cons_succ]
        refine btake 2 (oi := _) (v := ?_) (by simp only [List.getElem?_toArray, List.getElem?_cons_succ, List.getElem?_cons_zero]; rfl) (by kernel_rfl) (by exact fun _ _ _ h => h) (by first | assumption | exact KB.refl _) (.inl ⟨by rfl, fun W hW => ?_⟩) ?_; rotate_left
        · (go_simp; first | done | with_reducible rfl)
        try simp only [Act.put, List.setIfInBounds_toArray, List.set_cons_zero, List.set_cons_succ]
        refine btake 3 (oi := _) (v := ?_) (by simp only [List.getElem?_toArray, List.getElem?_cons_succ, List.getElem?_cons_zero]; rfl) (by kernel_rfl) (by exact fun _ _ _ h => h) (by first | assumption | exact KB.refl _) (.inl ⟨by rfl, fun W hW => ?_⟩) ?_; rotate_left
        · (go_simp; first | done | with_reducible rfl)
        try simp only [Act.put, List.setIfInBounds_toArray, List.set_cons_zero, List.set_cons_succ]
        refine btake 4 (oi := _) (v := ?_) (by simp only [List.getElem?_toArray, List.getElem?_cons_succ, List.getElem?_cons_zero]; rfl) (by kernel_rfl) (by exact fun _ _ _ h => h) (by first | assumption | exact KB.refl _) (.inl ⟨by rfl, fun W hW => ?_⟩) ?_; rotate_left
        · (go_simp; first | done | with_reducible rfl)
        try simp only [Act.put, List.setIfInBounds_toArray, List.set_cons_zero, List.set_cons_succ]
        refine btake 5 (oi := _) (v := ?_) (by simp only [List.getElem?_toArray, List.getElem?_cons_succ, List.getElem?_cons_zero]; rfl) (by kernel_rfl) (by exact fun _ _ _ h => h) (by first | assumption | exact KB.refl _) (.inl ⟨by rfl, fun W hW => ?_⟩) ?_; rotate_left
        · (go_simp; first | done | with_reducible rfl)
        try simp only [Act.put, List.setIfInBounds_toArray, List.set_cons_zero, List.set_cons_succ]
        refine btake 6 (oi := _) (v := ?_) (by simp only [List.getElem?_toArray, List.getElem?_cons_succ, List.getElem?_cons_zero]; rfl) (by kernel_rfl) (by exact fun _ _ _ h => h) (by first | assumption | exact KB.refl _) (.inl ⟨by rfl, fun W hW => ?_⟩) ?_; rotate_left
        · (go_simp; first | done | with_reducible rfl)
        try simp only [Act.put, List.setIfInBounds_toArray, List.set_cons_zero, List.set_cons_succ]
        refine btake 7 (oi := _) (v := ?_) (by simp only [List.getElem?_toArray, List.getElem?_cons_succ, List.getElem?_cons_zero]; rfl) (by kernel_rfl) (by exact fun _ _ _ h => h) (by first | assumption | exact KB.refl _) (.inl ⟨by rfl, fun W hW => ?_⟩) ?_; rotate_left
        · (go_simp; first | done | with_reducible rfl)
        try simp only [Act.put, List.setIfInBounds_toArray, List.set_cons_zero, List.set_cons_succ]
        refine bdone (by kernel_rfl) ?_
        go_wp2_with fail
        have q := cell3 (w.alloc (.cells #[.int .i64 0, .int .i64 0, .int .i64 0] 23)) 23 (.int .i64 (p + 1)) (.int .i64 0) (.int .i64 r)
        simp only [World.size_alloc] at q
        have e0 := cellB q.1
        have hA2 := (h.alloc (.cells #[.int .i64 0, .int .i64 0, .int .i64 0] 23)).alloc (.cells #[.int .i64 (p + 1), .int .i64 0, .int .i64 r] 23)
        have e1 := cellB hA2.2.2
        simp only at e1
        have hS0 : KB ((w.alloc (.cells #[.int .i64 0, .int .i64 0, .int .i64 0] 23)).alloc (.cells #[.int .i64 (p + 1), .int .i64 0, .int .i64 r] 23)).heap ((w.alloc (.cells #[.int .i64 0, .int .i64 0, .int .i64 0] 23)).alloc (.cells #[.int .i64 (p + 1), .int .i64 0, .int .i64 r] 23)).drew.drew := KB.refl ((w.alloc (.cells #[.int .i64 0, .int .i64 0, .int .i64 0] 23)).alloc (.cells #[.int .i64 (p + 1), .int .i64 0, .int .i64 r] 23))
        refine bstartH (((w.alloc (.cells #[.int .i64 0, .int .i64 0, .int .i64 0] 23)).alloc (.cells #[.int .i64 (p + 1), .int .i64 0, .int .i64 r] 23)).heap) (by kernel_rfl) ?_
        refine btake 0 (oi := _) (v := ?_) (by simp only [List.getElem?_toArray, List.getElem?_cons_zero]; rfl) (by kernel_rfl) (by exact fun _ _ _ h => h) (by first | assumption | exact KB.refl _) (.inl ⟨by rfl, fun W hW => ?_⟩) ?_; rotate_left
        · (go_simp; first | done | with_reducible rfl)
        try simp only [Act.put, List.setIfInBounds_toArray, List.set_cons_zero, List.set_cons_succ]
        refine btake 1 (oi := _) (v := ?_) (by simp only [List.getElem?_toArray, List.getElem?_cons_succ, List.getElem?_cons_zero]; rfl) (by kernel_rfl) (by exact fun _ _ _ h => h) (by first | assumption | exact KB.refl _) (.inl ⟨by rfl, fun W hW => ?_⟩) ?_; rotate_left
        · (go_simp; first | done | with_reducible rfl)
        try simp only [Act.put, List.setIfInBounds_toArray, List.set_cons_zero, List.set_cons_succ]
        refine btake 2 (oi := _) (v := ?_) (by simp only [List.getElem?_toArray, List.getElem?_cons_succ, List.getElem?_cons_zero]; rfl) (by kernel_rfl) (by exact fun _ _ _ h => h) (by first | assumption | exact KB.refl _) (.inl ⟨by rfl, fun W hW => ?_⟩) ?_; rotate_left
        · (go_simp; first | done | with_reducible rfl)
        try simp only [Act.put, List.setIfInBounds_toArray, List.set_cons_zero, List.set_cons_succ]
        refine btake 3 (oi := _) (v := ?_) (by simp only [List.getElem?_toArray, List.getElem?_cons_succ, List.getElem?_cons_zero]; rfl) (by kernel_rfl) (by exact fun _ _ _ h => h) (by first | assumption | exact KB.refl _) (.inl ⟨by rfl, fun W hW => ?_⟩) ?_; rotate_left
        · (go_simp; first | done | with_reducible rfl)
        try simp only [Act.put, List.setIfInBounds_toArray, List.set_cons_zero, List.set_cons_succ]
        refine btake 4 (oi := _) (v := ?_) (by simp only [List.getElem?_toArray, List.getElem?_cons_succ, List.getElem?_cons_zero]; rfl) (by kernel_rfl) (by exact fun _ _ _ h => h) (by first | assumption | exact KB.refl _) (.inl ⟨by rfl, fun W hW => ?_⟩) ?_; rotate_left
        · (go_simp; first | done | with_reducible rfl)
        try simp only [Act.put, List.setIfInBounds_toArray, List.set_cons_zero, List.set_cons_succ]
        refine btake 5 (oi := _) (v := ?_) (by simp only [List.getElem?_toArray, List.getElem?_cons_succ, List.getElem?_cons_zero]; rfl) (by kernel_rfl) (by exact fun _ _ _ h => h) (by first | assumption | exact KB.refl _) (.inl ⟨by rfl, fun W hW => ?_⟩) ?_; rotate_left
        · (go_simp; first | done | with_reducible rfl)
        try simp only [Act.put, List.setIfInBounds_toArray, List.set_cons_zero, List.set_cons_succ]
        refine btake 6 (oi := _) (v := ?_) (by simp only [List.getElem?_toArray, List.getElem?_cons_succ, List.getElem?_cons_zero]; rfl) (by kernel_rfl) (by exact fun _ _ _ h => h) (by first | assumption | exact KB.refl _) (.inl ⟨by rfl, fun W hW => ?_⟩) ?_; rotate_left
        · (go_simp; first | done | with_reducible rfl)
        try simp only [Act.put, List.setIfInBounds_toArray, List.set_cons_zero, List.set_cons_succ]
        refine btake 7 (oi := _) (v := ?_) (by simp only [List.getElem?_toArray, List.getElem?_cons_succ, List.getElem?_cons_zero]; rfl) (by kernel_rfl) (by exact fun _ _ _ h => h) (by first | assumption | exact KB.refl _) (.inl ⟨by rfl, fun W hW => ?_⟩) ?_; rotate_left
        · (go_simp; first | done | with_reducible rfl)
        try simp only [Act.put, List.setIfInBounds_toArray, List.set_cons_zero, List.set_cons_succ]
        refine btake 8 (oi := _) (v := ?_) (by simp only [List.getElem?_toArray, List.getElem?_cons_succ, List.getElem?_cons_zero]; rfl) (by kernel_rfl) (by exact fun _ _ _ h => h) (by first | assumption | exact KB.refl _) (.inl ⟨by rfl, fun W hW => ?_⟩) ?_; rotate_left
        · (go_simp; first | done | with_reducible rfl)
        try simp only [Act.put, List.setIfInBounds_toArray, List.set_cons_zero, List.set_cons_succ]
        refine bdone (by kernel_rfl) ?_
        go_wp2_with fail
        all_goals first
          | (exfalso; omega)
          | (exact bodyPost_ret (v := .tuple #[.agg #[.int .i64 0, .int .i64 0, .int .i64 0], .int .i64 28]) (by simp [results, Try.results40, go_sem]) rfl ⟨by simp only [endS]; rw [if_pos (by omega)]; rfl, (by repeat (first | exact Below.refl _ _ | refine Below.drew ?_ | refine Below.alloc ?_ (by simp) _ | refine Below.setCell ?_ (by simp) _))⟩)
          | (exact bodyPost_ret (v := .tuple #[.agg #[.int .i64 ((p + 1)), .int .i64 (0), .int .i64 r], .int .i64 0]) (by simp [results, Try.results40, go_sem]) rfl ⟨by simp only [endS]; rw [if_neg (by omega)]; rfl, (by repeat (first | exact Below.refl _ _ | refine Below.drew ?_ | refine Below.alloc ?_ (by simp) _ | refine Below.setCell ?_ (by simp) _))⟩)
      · simp only [if_neg hC]
        go_enter Try.func40, Try.ntmps40
        go_wp2_with fail
        refine (timed_any _ now).mono ?_
        rw [hn]
        rintro e w1 ⟨rfl, rfl⟩
        go_wp2_with fail
        have q0 := cell3 (w.alloc (.cells #[.int .i64 0, .int .i64 0, .int .i64 0] 23)) 23 (.int .i64 p) (.int .i64 l) (.int .i64 r)
        simp only [World.size_alloc] at q0
        have z1 := cellB q0.2.1
        have hA3 := (h.alloc (.cells #[.int .i64 0, .int .i64 0, .int .i64 0] 23)).alloc (.cells #[.int .i64 p, .int .i64 l, .int .i64 r] 23)
        have z3 := cellB hA3.2.1
        simp only at z3
        refine bstart (by kernel_rfl) ?_
        refine btake 0 (oi := _) (v := ?_) (by simp only [List.getElem?_toArray, List.getElem?_cons_zero]; rfl) (by kernel_rfl) (by exact fun _ _ _ h => h) (by first | assumption | exact KB.refl _) (.inl ⟨by rfl, fun W hW => ?_⟩) ?_; rotate_left
        · (go_simp; first | done | with_reducible rfl)
        try simp only [Act.put, List.setIfInBounds_toArray, List.set_cons_zero, List.set_cons_succ]
        refine btake 1 (oi := _) (v := ?_) (by simp only [List.getElem?_toArray, List.getElem?_cons_succ, List.getElem?_cons_zero]; rfl) (by kernel_rfl) (by exact fun _ _ _ h => h) (by first | assumption | exact KB.refl _) (.inl ⟨by rfl, fun W hW => ?_⟩) ?_; rotate_left
        · (go_simp; first | done | with_reducible rfl)
        try simp only [Act.put, List.setIfInBounds_toArray, List.set_cons_zero, List.set_cons_succ]
        refine btake 2 (oi := _) (v := ?_) (by simp only [List.getElem?_toArray, List.getElem?_cons_succ, List.getElem?_cons_zero]; rfl) (by kernel_rfl) (by exact fun _ _ _ h => h) (by first | assumption | exact KB.refl _) (.inl ⟨by rfl, fun W hW => ?_⟩) ?_; rotate_left
        · (go_simp; first | done | with_reducible rfl)
        try simp only [Act.put, List.setIfInBounds_toArray, List.set_cons_zero, List.set_cons_succ]
        refine btake 3 (oi := _) (v := ?_) (by simp only [List.getElem?_toArray, List.getElem?_cons_succ, List.getElem?_cons_zero]; rfl) (by kernel_rfl) (by exact fun _ _ _ h => h) (by first | assumption | exact KB.refl _) (.inl ⟨by rfl, fun W hW => ?_⟩) ?_; rotate_left
        · (go_simp; first | done | with_reducible rfl)
        try simp only [Act.put, List.setIfInBounds_toArray, List.set_cons_zero, List.set_cons_succ]
        refine btake 4 (oi := _) (v := ?_) (by simp only [List.getElem?_toArray, List.getElem?_cons_succ, List.getElem?_cons_zero]; rfl) (by kernel_rfl) (by exact fun _ _ _ h => h) (by first | assumption | exact KB.refl _) (.inl ⟨by rfl, fun W hW => ?_⟩) ?_; rotate_left
        · (go_simp; first | done | with_reducible rfl)
        try simp only [Act.put, List.setIfInBounds_toArray, List.set_cons_zero, List.set_cons_succ]
        refine btake 5 (oi := _) (v := ?_) (by simp only [List.getElem?_toArray, List.getElem?_cons_succ, List.getElem?_cons_zero]; rfl) (by kernel_rfl) (by exact fun _ _ _ h => h) (by first | assumption | exact KB.refl _) (.inl ⟨by rfl, fun W hW => ?_⟩) ?_; rotate_left
        · (go_simp; first | done | with_reducible rfl)
        try simp only [Act.put, List.setIfInBounds_toArray, List.set_cons_zero, List.set_cons_succ]
        refine btake 6 (oi := _) (v := ?_) (by simp only [List.getElem?_toArray, List.getElem?_cons_succ, List.getElem?_cons_zero]; rfl) (by kernel_rfl) (by exact fun _ _ _ h => h) (by first | assumption | exact KB.refl _) (.inl ⟨by rfl, fun W hW => ?_⟩) ?_; rotate_left
        · (go_simp; first | done | with_reducible rfl)
        try simp only [Act.put, List.setIfInBounds_toArray, List.set_cons_zero, List.set_cons_succ]
        refine btake 7 (oi := _) (v := ?_) (by simp only [List.getElem?_toArray, List.getElem?_cons_succ, List.getElem?_cons_zero]; rfl) (by kernel_rfl) (by exact fun _ _ _ h => h) (by first | assumption | exact KB.refl _) (.inl ⟨by rfl, fun W hW => ?_⟩) ?_; rotate_left
        · (go_simp; first | done | with_reducible rfl)
        try simp only [Act.put, List.setIfInBounds_toArray, List.set_cons_zero, List.set_cons_succ]
        refine bdone (by kernel_rfl) ?_
        go_wp2_with fail
        exact bodyPost_ret (v := .tuple #[.agg #[.int .i64 0, .int .i64 0, .int .i64 0], .int .i64 27]) (by simp [results, Try.results40, go_sem]) rfl ⟨rfl, (by repeat (first | exact Below.refl _ _ | refine Below.drew ?_ | refine Below.alloc ?_ (by simp) _ | refine Below.setCell ?_ (by simp) _))⟩
theorem Peek_any (w : World) (g : Nat) (c : Clk) (now : Int) (h : StandsC w g c) (hc : c.ok) : Calls Try.prog 40 #[.pointer (some ⟨g, 0, none⟩), .int .i64 now] w fun e w' => e = .returned (.tuple #[(peekS c now).1.v, .int .i64 (peekS c now).2]) ∧ Below w.heap.size w w' := by
  unfold peekS
  by_cases hn : timedB now = true
  · rw [if_pos hn]; exact Peek_in w g c now h hc hn
  · rw [if_neg hn]; exact Peek_out w g now (by simpa using hn)
def nextC (c : Clk) (now : Int) : Clk := if (peekS c now).2 = 0 then { c with s := (peekS c now).1 } else c
set_option maxRecDepth 100000 in
set_option maxHeartbeats 1600000 in
theorem Next_any (w : World) (g : Nat) (c : Clk) (now : Int) (h : StandsC w g c) (hc : c.ok) : Calls Try.prog 26 #[.pointer (some ⟨g, 0, none⟩), .int .i64 now] w fun e w' => e = .returned (.tuple #[(peekS c now).1.v, .int .i64 (peekS c now).2]) ∧ StandsC w' g (nextC c now) ∧ w.grownBy w' (some g) := by
  have hA := h.alloc (.cells #[.int .i64 0, .int .i64 0, .int .i64 0] 23)
  have hb0 := balloc (Below.refl w.heap.size w) (.cells #[.int .i64 0, .int .i64 0, .int .i64 0] 23)
  have hst := Stands.new w 23 ⟨0, 0, 0⟩
  have hp := fun W hW => Peek_any W g c now hW hc
  obtain ⟨q, hq⟩ : ∃ q, peekS c now = q := ⟨_, rfl⟩
  have hnx : nextC c now = if q.2 = 0 then { c with s := q.1 } else c := by unfold nextC; rw [hq]
  rw [hq] at hp ⊢
  rw [hnx]
  clear hnx hq
  obtain ⟨s, er⟩ := q
  simp only at *
  have hgw := h.1.1
  have HP := Lib.hid hp
  clear hp
  by_cases he : er = 0
  · subst he
    rw [if_pos rfl]
    go_enter Try.func26, Try.ntmps26
    go_wp2_with fail
    generalize w.alloc (.cells #[.int .i64 0, .int .i64 0, .int .i64 0] 23) = w0 at *
    refine (HP.out w0 hA).mono ?_
    rintro e w1 ⟨rfl, hb1⟩
    have hA1 := hA.below hb1
    have hst1 := hst.below hb1
    have hb1' := hb0.trans (hb1.mono hb0.size)
    have hz1 := hb1'.size
    have hgz : g ≠ w.heap.size := by omega
    have r2 := hst1.alloc (.cells #[.int .i64 s.p, .int .i64 s.l, .int .i64 s.r] 23)
    have g2 := hA1.alloc (.cells #[.int .i64 s.p, .int .i64 s.l, .int .i64 s.r] 23)
    have v2 := Stands.new w1 23 s
    have hb2 := hb1'.alloc hb1'.size (.cells #[.int .i64 s.p, .int .i64 s.l, .int .i64 s.r] 23)
    have hw1 := hst1.1
    have r3 := r2.put_other (g' := g) s hgz
    have v3 := v2.put_other (g' := g) s (by omega)
    have g3 := g2.put s
    have r4 := r3.put s
    have g4 := g3.put_other (g' := w.heap.size) s (by omega)
    have hfin := grown_put3 (grown_put3 (grown_of_below hb2 (some g)) (.inl rfl) s) (g' := w.heap.size) (.inr (Nat.le_refl _)) s
    have FIN := Lib.hid (And.intro g4 hfin)
    have R4 := Lib.hid r4
    clear g3 g4 hfin r4
    obtain ⟨_, x0, x1, x2, x3, x4, x5⟩ := r3
    obtain ⟨_, y0, y1, y2, _, _, _⟩ := v3
    obtain ⟨⟨_, c0, c1, c2, c3, c4, c5⟩, _, _⟩ := g2
    unfold put3 at x0 x1 x2 x3 x4 x5 y0 y1 y2
    unfold S3.v
    clear r2 v2 hb2 hb1 hA1 hA hst hst1
    go_wp2_with fail
    obtain ⟨_, z0, z1, z2, _, _, _⟩ := R4.out
    unfold put3 at z0 z1 z2
    exact bodyPost_ret (v := .tuple #[.agg #[.int .i64 s.p, .int .i64 s.l, .int .i64 s.r], .int .i64 0]) (by simp [results, Try.results26, go_sem, z0, z1, z2]) rfl ⟨rfl, FIN.out⟩
  · rw [if_neg he]
    have hez : (er == 0) = false := by simpa using he
    go_enter Try.func26, Try.ntmps26
    go_wp2_with fail
    generalize w.alloc (.cells #[.int .i64 0, .int .i64 0, .int .i64 0] 23) = w0 at *
    refine (HP.out w0 hA).mono ?_
    rintro e w1 ⟨rfl, hb1⟩
    have hA1 := hA.below hb1
    have hst1 := hst.below hb1
    have hb1' := hb0.trans (hb1.mono hb0.size)
    have hz1 := hb1'.size
    have hgz : g ≠ w.heap.size := by omega
    have r3 := hst1.alloc (.cells #[.int .i64 s.p, .int .i64 s.l, .int .i64 s.r] 23)
    have g3 := hA1.alloc (.cells #[.int .i64 s.p, .int .i64 s.l, .int .i64 s.r] 23)
    have v3 := Stands.new w1 23 s
    have hb2 := hb1'.alloc hb1'.size (.cells #[.int .i64 s.p, .int .i64 s.l, .int .i64 s.r] 23)
    have r4 := r3.put s
    have g4 := g3.put_other (g' := w.heap.size) s (by omega)
    have hfin := grown_put3 (grown_of_below hb2 (some g)) (g' := w.heap.size) (.inr (Nat.le_refl _)) s
    have FIN := Lib.hid (And.intro g4 hfin)
    have R4 := Lib.hid r4
    clear g3 g4 hfin r4
    obtain ⟨_, x0, x1, x2, x3, x4, x5⟩ := r3
    obtain ⟨_, y0, y1, y2, _, _, _⟩ := v3
    unfold S3.v
    clear hb2 hb1 hA1 hA hst hst1
    go_wp2_with fail
    obtain ⟨_, z0, z1, z2, _, _, _⟩ := R4.out
    unfold put3 at z0 z1 z2
    exact bodyPost_ret (v := .tuple #[.agg #[.int .i64 s.p, .int .i64 s.l, .int .i64 s.r], .int .i64 er]) (by simp [results, Try.results26, go_sem, z0, z1, z2]) rfl ⟨rfl, FIN.out⟩
theorem nextC_ok {c : Clk} (hc : c.ok) (now : Int) : (nextC c now).ok := by
  obtain ⟨⟨k1, k2⟩, ⟨k3, k4⟩, k5, k6⟩ := hc
  unfold nextC
  split
  · rename_i h0
    unfold peekS at *
    by_cases hn : timedB now = true
    · rw [if_pos hn] at *
      have hn' : 0 ≤ now ∧ now ≤ 281474976710655 := by simpa [timedB] using hn
      cases hs : stepS c now with
      | none => rw [hs] at h0; simp [endS] at h0
      | some s =>
        rw [hs] at h0
        simp only [endS] at h0 ⊢
        split at h0
        · simp at h0
        · rename_i h1
          rw [if_neg h1]
          unfold stepS at hs
          split at hs
          · cases hs; exact ⟨⟨by simp only; omega, by simp only; omega⟩, ⟨by simp, by simp⟩, k5, k6⟩
          · split at hs
            · cases hs; exact ⟨⟨by simp only; omega, by simp only; omega⟩, ⟨by simp only; omega, by simp only; omega⟩, k5, k6⟩
            · split at hs
              · cases hs; exact ⟨⟨by simp only; omega, by simp only; omega⟩, ⟨by simp, by simp⟩, k5, k6⟩
              · cases hs
    · rw [if_neg hn] at h0; simp at h0
  · exact ⟨⟨k1, k2⟩, ⟨k3, k4⟩, k5, k6⟩
theorem Next_lit (w : World) (g : Nat) (c : Clk) (now : Int) (p l r er : Int) (c' : Clk) (h : StandsC w g c) (hc : c.ok) (hp : peekS c now = (⟨p, l, r⟩, er)) (hn : nextC c now = c') : Calls Try.prog 26 #[.pointer (some ⟨g, 0, none⟩), .int .i64 now] w fun e w' => e = .returned (.tuple #[.agg #[.int .i64 p, .int .i64 l, .int .i64 r], .int .i64 er]) ∧ StandsC w' g c' ∧ w.grownBy w' (some g) := by
  have := Next_any w g c now h hc
  rw [hp, hn] at this
  exact this
end Go.Proofs.Ythpooogjlmaemaa

