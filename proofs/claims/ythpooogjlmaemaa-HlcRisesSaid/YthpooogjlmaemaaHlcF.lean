/- Clocks: the walks of Floor, Check, Witness. -/
import Derived.Test.YthpooogjlmaemaaHlcK
import Derived.Test.YthpooogjlmaemaaStamp
namespace Go.Proofs.Ythpooogjlmaemaa
open Go.RowKit

def phS (x : Int) : Int := if x < 0 then 0 else if 281474976710655 < x then 281474976710655 else x
def floorC (c : Clk) (x : Int) : Clk := if c.s.lt ⟨phS x, c.m, c.s.r⟩ = true then { c with s := ⟨phS x, c.m, c.s.r⟩ } else c
theorem floorC_ok {c : Clk} (hc : c.ok) (x : Int) : (floorC c x).ok := by
  obtain ⟨⟨k1, k2⟩, ⟨k3, k4⟩, ⟨k5, k6⟩, k7⟩ := hc
  unfold floorC
  split
  · refine ⟨⟨?_, ?_⟩, ⟨k5, k6⟩, ⟨k5, k6⟩, k7⟩ <;> simp only [phS] <;> (repeat' split) <;> omega
  · exact ⟨⟨k1, k2⟩, ⟨k3, k4⟩, ⟨k5, k6⟩, k7⟩
set_option maxRecDepth 100000 in
set_option maxHeartbeats 1600000 in
theorem Floor_any (w : World) (g : Nat) (c : Clk) (x : Int) (h : StandsC w g c) : Calls Try.prog 24 #[.pointer (some ⟨g, 0, none⟩), .int .i64 x] w fun e w' => e = .returned (.tuple #[]) ∧ StandsC w' g (floorC c x) ∧ w.grownBy w' (some g) := by
  obtain ⟨M, hM⟩ : ∃ M : Int, (if (0 : Int) > x then (0 : Int) else x) = M := ⟨_, rfl⟩
  have hmx : ∀ W, (Builtin.max_ #[2, 2] 2 #[.int .i64 x, .int .i64 0]).run Try.prog W = .ok (.int .i64 M) W := fun W => by rw [run_max_int2, hM]
  have hmn : ∀ W, (Builtin.min_ #[2, 2] 2 #[.int .i64 M, .int .i64 281474976710655]).run Try.prog W = .ok (.int .i64 (phS x)) W := fun W => by
    rw [run_min_int2, ← hM]
    unfold phS
    congr 2
    (repeat' split) <;> omega
  clear hM
  unfold floorC
  generalize phS x = q at *
  obtain ⟨⟨p, l, r⟩, m, d⟩ := c
  simp only
  have hL := Lib.hid (fun W => Less_any W ⟨p, l, r⟩ ⟨q, m, r⟩)
  have hgw := h.1.1
  have c0 := cellB h.1.2.1
  have c1 := cellB h.1.2.2.1
  have c2 := cellB h.1.2.2.2.1
  have c3 := cellB h.2.1
  simp only at c0 c1 c2 c3
  obtain ⟨B, hB⟩ : ∃ B, (S3.lt ⟨p, l, r⟩ ⟨q, m, r⟩) = B := ⟨_, rfl⟩
  rw [hB] at hL
  rw [hB]
  clear hB
  go_enter Try.func24, Try.ntmps24
  go_wp2_with fail
  have hS0 : KB w.heap w.drew := KB.refl w
  refine bstartH (w.heap) (by kernel_rfl) ?_
  refine btake 0 (oi := _) (v := ?_) (by simp only [List.getElem?_toArray, List.getElem?_cons_zero]; rfl) (by kernel_rfl) (by exact fun _ _ _ h => h) (by first | assumption | exact KB.refl _) (.inl ⟨by rfl, fun W hW => ?_⟩) ?_; rotate_left
  · (go_simp; first | done | with_reducible rfl)
  try simp only [Act.put, List.setIfInBounds_toArray, List.set_cons_zero, List.set_cons_succ]
  refine btake 1 (oi := _) (v := ?_) (by simp only [List.getElem?_toArray, List.getElem?_cons_succ, List.getElem?_cons_zero]; rfl) (by kernel_rfl) (by exact fun _ _ _ h => h) (by first | assumption | exact KB.refl _) (.inl ⟨by rfl, fun W hW => ?_⟩) ?_; rotate_left
  · (go_simp; first | done | with_reducible rfl)
  try simp only [Act.put, List.setIfInBounds_toArray, List.set_cons_zero, List.set_cons_succ]
  refine btake 2 (oi := _) (v := ?_) (by simp only [List.getElem?_toArray, List.getElem?_cons_succ, List.getElem?_cons_zero]; rfl) (by kernel_rfl) (by exact fun _ _ _ h => h) (by first | assumption | exact KB.refl _) (.inl ⟨by rfl, fun W hW => ?_⟩) ?_; rotate_left
  · (go_simp; first | done | with_reducible rfl)
  try simp only [Act.put, List.setIfInBounds_toArray, List.set_cons_zero, List.set_cons_succ]
  refine btake 3 (oi := _) (v := ?_) (by simp only [List.getElem?_toArray, List.getElem?_cons_succ, List.getElem?_cons_zero]; rfl) (by kernel_rfl) (by exact fun _ _ _ h => h) (by first | assumption | exact KB.refl _) (.inl ⟨by rfl, fun W hW => ?_⟩) ?_; rotate_left
  · (go_simp; first | done | with_reducible rfl)
  try simp only [Act.put, List.setIfInBounds_toArray, List.set_cons_zero, List.set_cons_succ]
  refine btake 4 (oi := _) (v := ?_) (by simp only [List.getElem?_toArray, List.getElem?_cons_succ, List.getElem?_cons_zero]; rfl) (by kernel_rfl) (by exact fun _ _ _ h => h) (by first | assumption | exact KB.refl _) (.inl ⟨by rfl, fun W hW => ?_⟩) ?_; rotate_left
  · (go_simp; first | done | with_reducible rfl)
  try simp only [Act.put, List.setIfInBounds_toArray, List.set_cons_zero, List.set_cons_succ]
  refine btake 5 (oi := _) (v := ?_) (by simp only [List.getElem?_toArray, List.getElem?_cons_succ, List.getElem?_cons_zero]; rfl) (by kernel_rfl) (by exact fun _ _ _ h => h) (by first | assumption | exact KB.refl _) (.inl ⟨by rfl, fun W hW => ?_⟩) ?_; rotate_left
  · (go_simp; first | done | with_reducible rfl)
  try simp only [Act.put, List.setIfInBounds_toArray, List.set_cons_zero, List.set_cons_succ]
  refine btake 6 (oi := _) (v := ?_) (by simp only [List.getElem?_toArray, List.getElem?_cons_succ, List.getElem?_cons_zero]; rfl) (by kernel_rfl) (by exact fun _ _ _ h => h) (by first | assumption | exact KB.refl _) (.inl ⟨by rfl, fun W hW => ?_⟩) ?_; rotate_left
  · (go_simp; first | done | with_reducible rfl)
  try simp only [Act.put, List.setIfInBounds_toArray, List.set_cons_zero, List.set_cons_succ]
  refine btake 7 (oi := _) (v := ?_) (by simp only [List.getElem?_toArray, List.getElem?_cons_succ, List.getElem?_cons_zero]; rfl) (by kernel_rfl) (by exact fun _ _ _ h => h) (by first | assumption | exact KB.refl _) (.inl ⟨by rfl, fun W hW => ?_⟩) ?_; rotate_left
  · (go_simp; first | done | with_reducible rfl)
  try simp only [Act.put, List.setIfInBounds_toArray, List.set_cons_zero, List.set_cons_succ]
  refine btake 8 (oi := _) (v := ?_) (by simp only [List.getElem?_toArray, List.getElem?_cons_succ, List.getElem?_cons_zero]; rfl) (by kernel_rfl) (by exact fun _ _ _ h => h) (by first | assumption | exact KB.refl _) (.inl ⟨by rfl, fun W hW => ?_⟩) ?_; rotate_left
  · (go_simp; first | done | with_reducible rfl)
  try simp only [Act.put, List.setIfInBounds_toArray, List.set_cons_zero, List.set_cons_succ]
  refine btake 9 (oi := _) (v := ?_) (by simp only [List.getElem?_toArray, List.getElem?_cons_succ, List.getElem?_cons_zero]; rfl) (by kernel_rfl) (by exact fun _ _ _ h => h) (by first | assumption | exact KB.refl _) (.inl ⟨by rfl, fun W hW => ?_⟩) ?_; rotate_left
  · (go_simp; first | done | with_reducible rfl)
  try simp only [Act.put, List.setIfInBounds_toArray, List.set_cons_zero, List.set_cons_succ]
  refine btake 10 (oi := _) (v := ?_) (by simp only [List.getElem?_toArray, List.getElem?_cons_succ, List.getElem?_cons_zero]; rfl) (by kernel_rfl) (by exact fun _ _ _ h => h) (by first | assumption | exact KB.refl _) (.inl ⟨by rfl, fun W hW => ?_⟩) ?_; rotate_left
  · (go_simp; first | done | with_reducible rfl)
  try simp only [Act.put, List.setIfInBounds_toArray, List.set_cons_zero, List.set_cons_succ]
  -- 11: Op.alloc 23
  refine bopH 11 (o := _) (by simp only [List.getElem?_toArray, List.getElem?_cons_succ, List.getElem?_cons_zero]; rfl) (by kernel_rfl) (by first | assumption | exact KB.refl _) (by rfl) (fun K hK => ?_)
  go_simp
  have hkb : KB w.heap (w.alloc (.cells #[.int .i64 0, .int .i64 0, .int .i64 0] 23)).drew := KB.alloc w _
  refine hK.out _ _ hkb ?_; clear hK K
  try simp only [Act.put, List.setIfInBounds_toArray, List.set_cons_zero, List.set_cons_succ]
  -- 12: Op.store 23 (Operand.tmp 4) (Operand.tmp 20)
  refine bopH 12 (o := _) (by simp only [List.getElem?_toArray, List.getElem?_cons_succ, List.getElem?_cons_zero]; rfl) (by kernel_rfl) (by first | assumption | exact KB.refl _) (by rfl) (fun K hK => ?_)
  go_simp
  have hkb : KB w.heap (w.alloc (.cells #[.int .i64 q, .int .i64 m, .int .i64 r] 23)).drew := KB.alloc w _
  refine hK.out _ _ hkb ?_; clear hK K
  try simp only [Act.put, List.setIfInBounds_toArray, List.set_cons_zero, List.set_cons_succ]
  refine bdone (by kernel_rfl) ?_
  have v2 := Stands.new w 23 ⟨q, m, r⟩
  have g2 := h.alloc (.cells #[.int .i64 q, .int .i64 m, .int .i64 r] 23)
  have b2 := balloc (Below.refl w.heap.size w) (.cells #[.int .i64 q, .int .i64 m, .int .i64 r] 23)
  replace v2 := v2.below (Below.refl _ _).drew
  replace g2 := g2.below (Below.refl _ _).drew
  replace b2 := b2.drew
  generalize (w.alloc (.cells #[.int .i64 q, .int .i64 m, .int .i64 r] 23)).drew = w2 at *
  clear c0 c1 c2 c3 hkb hS0
  have e0 := cellB v2.2.1
  have e1 := cellB v2.2.2.1
  have e2 := cellB v2.2.2.2.1
  have e3 := cellB g2.1.2.1
  have e4 := cellB g2.1.2.2.1
  have e5 := cellB g2.1.2.2.2.1
  simp only at e0 e1 e2 e3 e4 e5
  go_wp2_with fail
  refine bstart (by kernel_rfl) ?_
  refine btake 0 (oi := _) (v := ?_) (by simp only [List.getElem?_toArray, List.getElem?_cons_zero]; rfl) (by kernel_rfl) (by exact fun _ _ _ h => h) (by first | assumption | exact KB.refl _) (.inl ⟨by rfl, fun W hW => ?_⟩) ?_; rotate_left
  · (go_simp; first | done | with_reducible rfl)
  try simp only [Act.put, List.setIfInBounds_toArray, List.set_cons_zero, List.set_cons_succ]
  refine btake 1 (oi := _) (v := ?_) (by simp only [List.getElem?_toArray, List.getElem?_cons_succ, List.getElem?_cons_zero]; rfl) (by kernel_rfl) (by exact fun _ _ _ h => h) (by first | assumption | exact KB.refl _) (.inl ⟨by rfl, fun W hW => ?_⟩) ?_; rotate_left
  · (go_simp; first | done | with_reducible rfl)
  try simp only [Act.put, List.setIfInBounds_toArray, List.set_cons_zero, List.set_cons_succ]
  refine btake 2 (oi := _) (v := ?_) (by simp only [List.getElem?_toArray, List.getElem?_cons_succ, List.getElem?_cons_zero]; rfl) (by kernel_rfl) (by exact fun _ _ _ h => h) (by first | assumption | exact KB.refl _) (.inl ⟨by rfl, fun W hW => ?_⟩) ?_; rotate_left
  · (go_simp; first | done | with_reducible rfl)
  try simp only [Act.put, List.setIfInBounds_toArray, List.set_cons_zero, List.set_cons_succ]
  refine btake 3 (oi := _) (v := ?_) (by simp only [List.getElem?_toArray, List.getElem?_cons_succ, List.getElem?_cons_zero]; rfl) (by kernel_rfl) (by exact fun _ _ _ h => h) (by first | assumption | exact KB.refl _) (.inl ⟨by rfl, fun W hW => ?_⟩) ?_; rotate_left
  · (go_simp; first | done | with_reducible rfl)
  try simp only [Act.put, List.setIfInBounds_toArray, List.set_cons_zero, List.set_cons_succ]
  refine btake 4 (oi := _) (v := ?_) (by simp only [List.getElem?_toArray, List.getElem?_cons_succ, List.getElem?_cons_zero]; rfl) (by kernel_rfl) (by exact fun _ _ _ h => h) (by first | assumption | exact KB.refl _) (.inl ⟨by rfl, fun W hW => ?_⟩) ?_; rotate_left
  · (go_simp; first | done | with_reducible rfl)
  try simp only [Act.put, List.setIfInBounds_toArray, List.set_cons_zero, List.set_cons_succ]
  -- 5: newsreel/stamp.Less
  refine bop 5 (o := _) (by simp only [List.getElem?_toArray, List.getElem?_cons_succ, List.getElem?_cons_zero]; rfl) (by kernel_rfl) (by first | assumption | exact KB.refl _) (by rfl) (fun K hK => ?_)
  go_simp
  refine (hL.out _).mono ?_
  rintro e w3 ⟨rfl, hb3⟩
  have hb3' : Below w2.heap.size w2 w3 := (Below.refl _ w2).drew.trans hb3
  have hkb := KB.of hb3
  refine hK.out _ _ hkb ?_; clear hK K
  try simp only [Act.put, List.setIfInBounds_toArray, List.set_cons_zero, List.set_cons_succ]
  refine bdone (by kernel_rfl) ?_
  have v3 := v2.below hb3'
  have g3 := g2.below hb3'
  have b3 := b2.trans (hb3'.mono b2.size)
  clear e0 e1 e2 e3 e4 e5 hkb hb3 hb3'
  cases B
  · go_wp2_with fail
    go_end0
    exact ⟨rfl, g3, grown_of_below b3 (some g)⟩
  · have g4 := g3.put ⟨q, m, r⟩
    have hfin := grown_put3 (grown_of_below b3 (some g)) (.inl rfl) ⟨q, m, r⟩
    obtain ⟨_, x0, x1, x2, _, _, _⟩ := v3
    obtain ⟨⟨_, y0, y1, y2, y3, y4, y5⟩, _, _⟩ := g3
    simp only at x0 x1 x2 y0 y1 y2
    go_wp2_with fail
    go_end0
    exact ⟨rfl, g4, hfin⟩
def checkS (c : Clk) (now : Int) (s : S3) : Int := if timedB now = true then if s.right = true then if now + c.d < s.p then 28 else 0 else 21 else 24
set_option maxRecDepth 100000 in
set_option maxHeartbeats 1600000 in
theorem Check_any (w : World) (g : Nat) (c : Clk) (now : Int) (s : S3) (h : StandsC w g c) (hc : c.ok) : Calls Try.prog 28 #[.pointer (some ⟨g, 0, none⟩), .int .i64 now, s.v] w fun e w' => e = .returned (.int .i64 (checkS c now s)) ∧ Below w.heap.size w w' := by
  have v1 := Stands.new w 23 s
  have g1 := h.alloc (.cells #[.int .i64 s.p, .int .i64 s.l, .int .i64 s.r] 23)
  have b1 := balloc (Below.refl w.heap.size w) (.cells #[.int .i64 s.p, .int .i64 s.l, .int .i64 s.r] 23)
  have HR := Lib.hid (fun W => Right_any W s)
  unfold checkS
  by_cases hn : timedB now = true
  · rw [if_pos hn]
    have hn' : 0 ≤ now ∧ now ≤ 281474976710655 := by simpa [timedB] using hn
    obtain ⟨n1, n2⟩ := hn'
    by_cases hr : s.right = true
    · rw [if_pos hr]
      rw [hr] at HR
      have kw : IntKind.i64.wrap (now + c.d) = now + c.d := by have := hc.2.2.2; rw [IntKind.wrap_i64]; omega
      have hd1 := hc.2.2.2.1
      have hd2 := hc.2.2.2.2
      clear hr
      unfold S3.v
      go_enter Try.func28, Try.ntmps28
      go_wp2_with fail
      refine (timed_any _ now).mono ?_
      rw [hn]
      rintro e w' ⟨rfl, rfl⟩
      generalize w.alloc (.cells #[.int .i64 s.p, .int .i64 s.l, .int .i64 s.r] 23) = w1 at *
      obtain ⟨_, f0, f1, f2, _, _, _⟩ := id v1
      go_wp2_with fail
      refine (HR.out _).mono ?_
      rintro e w2 ⟨rfl, hb2⟩
      replace v1 := v1.below hb2
      replace g1 := g1.below hb2
      replace b1 := b1.trans (hb2.mono b1.size)
      clear f0 f1 f2 hb2
      have e0 := cellB v1.2.1
      have e1 := cellB g1.2.2
      go_wp2_with fail
      refine bstart (by kernel_rfl) ?_
      refine btake 0 (oi := _) (v := ?_) (by simp only [List.getElem?_toArray, List.getElem?_cons_zero]; rfl) (by kernel_rfl) (by exact fun _ _ _ h => h) (by first | assumption | exact KB.refl _) (.inl ⟨by rfl, fun W hW => ?_⟩) ?_; rotate_left
      · (go_simp; first | done | with_reducible rfl)
      try simp only [Act.put, List.setIfInBounds_toArray, List.set_cons_zero, List.set_cons_succ]
      refine btake 1 (oi := _) (v := ?_) (by simp only [List.getElem?_toArray, List.getElem?_cons_succ, List.getElem?_cons_zero]; rfl) (by kernel_rfl) (by exact fun _ _ _ h => h) (by first | assumption | exact KB.refl _) (.inl ⟨by rfl, fun W hW => ?_⟩) ?_; rotate_left
      · (go_simp; first | done | with_reducible rfl)
      try simp only [Act.put, List.setIfInBounds_toArray, List.set_cons_zero, List.set_cons_succ]
      refine btake 2 (oi := _) (v := ?_) (by simp only [List.getElem?_toArray, List.getElem?_cons_succ, List.getElem?_cons_zero]; rfl) (by kernel_rfl) (by exact fun _ _ _ h => h) (by first | assumption | exact KB.refl _) (.inl ⟨by rfl, fun W hW => ?_⟩) ?_; rotate_left
      · (go_simp; first | done | with_reducible rfl)
      try simp only [Act.put, List.setIfInBounds_toArray, List.set_cons_zero, List.set_cons_succ]
      refine btake 3 (oi := _) (v := ?_) (by simp only [List.getElem?_toArray, List.getElem?_cons_succ, List.getElem?_cons_zero]; rfl) (by kernel_rfl) (by exact fun _ _ _ h => h) (by first | assumption | exact KB.refl _) (.inl ⟨by rfl, fun W hW => ?_⟩) ?_; rotate_left
      · (go_simp; first | done | with_reducible rfl)
      try simp only [Act.put, List.setIfInBounds_toArray, List.set_cons_zero, List.set_cons_succ]
      refine btake 4 (oi := _) (v := ?_) (by simp only [List.getElem?_toArray, List.getElem?_cons_succ, List.getElem?_cons_zero]; rfl) (by kernel_rfl) (by exact fun _ _ _ h => h) (by first | assumption | exact KB.refl _) (.inl ⟨by rfl, fun W hW => ?_⟩) ?_; rotate_left
      · (go_simp; first | done | with_reducible rfl)
      try simp only [Act.put, List.setIfInBounds_toArray, List.set_cons_zero, List.set_cons_succ]
      refine btake 5 (oi := _) (v := ?_) (by simp only [List.getElem?_toArray, List.getElem?_cons_succ, List.getElem?_cons_zero]; rfl) (by kernel_rfl) (by exact fun _ _ _ h => h) (by first | assumption | exact KB.refl _) (.inl ⟨by rfl, fun W hW => ?_⟩) ?_; rotate_left
      · (go_simp; first | done | with_reducible rfl)
      try simp only [Act.put, List.setIfInBounds_toArray, List.set_cons_zero, List.set_cons_succ]
      refine btake 6 (oi := _) (v := ?_) (by simp only [List.getElem?_toArray, List.getElem?_cons_succ, List.getElem?_cons_zero]; rfl) (by kernel_rfl) (by exact fun _ _ _ h => h) (by first | assumption | exact KB.refl _) (.inl ⟨by rfl, fun W hW => ?_⟩) ?_; rotate_left
      · (go_simp; first | done | with_reducible rfl)
      try simp only [Act.put, List.setIfInBounds_toArray, List.set_cons_zero, List.set_cons_succ]
      refine btake 7 (oi := _) (v := ?_) (by simp only [List.getElem?_toArray, List.getElem?_cons_succ, List.getElem?_cons_zero]; rfl) (by kernel_rfl) (by exact fun _ _ _ h => h) (by first | assumption | exact KB.refl _) (.inl ⟨by rfl, fun W hW => ?_⟩) ?_; rotate_left
      · (go_simp; first | done | with_reducible rfl)
      try simp only [Act.put, List.setIfInBounds_toArray, List.set_cons_zero, List.set_cons_succ]
      refine btake 8 (oi := _) (v := ?_) (by simp only [List.getElem?_toArray, List.getElem?_cons_succ, List.getElem?_cons_zero]; rfl) (by kernel_rfl) (by exact fun _ _ _ h => h) (by first | assumption | exact KB.refl _) (.inl ⟨by rfl, fun W hW => ?_⟩) ?_; rotate_left
      · (go_simp; first | done | with_reducible rfl)
      try simp only [Act.put, List.setIfInBounds_toArray, List.set_cons_zero, List.set_cons_succ]
      refine btake 9 (oi := _) (v := ?_) (by simp only [List.getElem?_toArray, List.getElem?_cons_succ, List.getElem?_cons_zero]; rfl) (by kernel_rfl) (by exact fun _ _ _ h => h) (by first | assumption | exact KB.refl _) (.inl ⟨by rfl, fun W hW => ?_⟩) ?_; rotate_left
      · (go_simp; first | done | with_reducible rfl)
      try simp only [Act.put, List.setIfInBounds_toArray, List.set_cons_zero, List.set_cons_succ]
      refine bdone (by kernel_rfl) ?_
      go_wp2_with fail
      all_goals
        go_ret
        refine ⟨ret_i ?_, b1.drew⟩
        first | rfl | rw [if_pos (by assumption)] | rw [if_neg (by omega)]
    · have hr' : s.right = false := by simpa using hr
      rw [if_neg hr]
      rw [hr'] at HR
      clear hr hr'
      unfold S3.v
      go_enter Try.func28, Try.ntmps28
      go_wp2_with fail
      refine (timed_any _ now).mono ?_
      rw [hn]
      rintro e w' ⟨rfl, rfl⟩
      generalize w.alloc (.cells #[.int .i64 s.p, .int .i64 s.l, .int .i64 s.r] 23) = w1 at *
      obtain ⟨_, f0, f1, f2, _, _, _⟩ := id v1
      go_wp2_with fail
      refine (HR.out _).mono ?_
      rintro e w2 ⟨rfl, hb2⟩
      replace b1 := b1.trans (hb2.mono b1.size)
      go_wp2_with fail
      go_ret
      exact ⟨rfl, b1⟩
  · have hn' : timedB now = false := by simpa using hn
    rw [if_neg hn]
    clear hn
    unfold S3.v
    go_enter Try.func28, Try.ntmps28
    go_wp2_with fail
    refine (timed_any _ now).mono ?_
    rw [hn']
    rintro e w' ⟨rfl, rfl⟩
    go_wp2_with fail
    go_ret
    exact ⟨rfl, b1⟩
theorem Stands.set2 {w : World} {g : Nat} {s : S3} (h : Stands w g s) (r : Int) : Stands (w.setCell ⟨g, 2, none⟩ (.int .i64 r)) g ⟨s.p, s.l, r⟩ := by
  obtain ⟨h1, h2, h3, h4, h5, h6, h7⟩ := h
  refine ⟨by simpa using h1, ?_, ?_, ?_, by simp only [setCell_frozen]; exact h5, by simp only [setCell_frozen]; exact h6, by simp only [setCell_frozen]; exact h7⟩
  · rw [setCell_other _ _ _ _ _ _ (.inr (by omega))]; exact h2
  · rw [setCell_other _ _ _ _ _ _ (.inr (by omega))]; exact h3
  · rw [World.cell?_setCell_same _ _ _ h4]
theorem Stands.set_other {w : World} {g g' o : Nat} {s : S3} (h : Stands w g s) (v : Value) (hne : g' ≠ g) : Stands (w.setCell ⟨g', o, none⟩ v) g s := by
  obtain ⟨h1, h2, h3, h4, h5, h6, h7⟩ := h
  refine ⟨by simpa using h1, ?_, ?_, ?_, by simp only [setCell_frozen]; exact h5, by simp only [setCell_frozen]; exact h6, by simp only [setCell_frozen]; exact h7⟩
  · rw [setCell_other _ _ _ _ _ _ (.inl hne)]; exact h2
  · rw [setCell_other _ _ _ _ _ _ (.inl hne)]; exact h3
  · rw [setCell_other _ _ _ _ _ _ (.inl hne)]; exact h4
theorem StandsC.set_other {w : World} {g g' o : Nat} {c : Clk} (h : StandsC w g c) (v : Value) (hne : g' ≠ g) : StandsC (w.setCell ⟨g', o, none⟩ v) g c :=
  ⟨h.1.set_other v hne, by rw [setCell_other _ _ _ _ _ _ (.inl hne)]; exact h.2.1, by rw [setCell_other _ _ _ _ _ _ (.inl hne)]; exact h.2.2⟩
def witC (c : Clk) (now : Int) (s : S3) : Clk := if checkS c now s = 0 then if c.s.lt ⟨s.p, s.l, c.s.r⟩ = true then { c with s := ⟨s.p, s.l, c.s.r⟩ } else c else c
theorem witC_ok {c : Clk} (hc : c.ok) (now : Int) (s : S3) : (witC c now s).ok := by
  obtain ⟨⟨k1, k2⟩, ⟨k3, k4⟩, k5, k7⟩ := hc
  unfold witC
  split
  · rename_i h0
    split
    · have hr : s.right = true := by
        unfold checkS at h0
        split at h0
        · split at h0
          · assumption
          · simp at h0
        · simp at h0
      unfold S3.right at hr
      have hr' := of_decide_eq_true hr
      exact ⟨⟨by simp only; omega, by simp only; omega⟩, ⟨by simp only; omega, by simp only; omega⟩, k5, k7⟩
    · exact ⟨⟨k1, k2⟩, ⟨k3, k4⟩, k5, k7⟩
  · exact ⟨⟨k1, k2⟩, ⟨k3, k4⟩, k5, k7⟩
set_option maxRecDepth 100000 in
set_option maxHeartbeats 3200000 in
theorem Witness_any (w : World) (g : Nat) (c : Clk) (now : Int) (s : S3) (h : StandsC w g c) (hc : c.ok) : Calls Try.prog 27 #[.pointer (some ⟨g, 0, none⟩), .int .i64 now, s.v] w fun e w' => e = .returned (.int .i64 (checkS c now s)) ∧ StandsC w' g (witC c now s) ∧ w.grownBy w' (some g) := by
  have v1 := Stands.new w 23 s
  have g1 := h.alloc (.cells #[.int .i64 s.p, .int .i64 s.l, .int .i64 s.r] 23)
  have b1 := balloc (Below.refl w.heap.size w) (.cells #[.int .i64 s.p, .int .i64 s.l, .int .i64 s.r] 23)
  have hgw := h.1.1
  have hck := fun W hW => Check_any W g c now s hW hc
  unfold witC
  obtain ⟨E, hE⟩ : ∃ E, checkS c now s = E := ⟨_, rfl⟩
  rw [hE] at hck ⊢
  have HC := Lib.hid hck
  clear hck hE
  by_cases h0 : E = 0
  · subst h0
    rw [if_pos rfl]
    obtain ⟨⟨p, l, r⟩, m, d⟩ := c
    simp only
    have hL := Lib.hid (fun W => Less_any W ⟨p, l, r⟩ ⟨s.p, s.l, r⟩)
    obtain ⟨B, hB⟩ : ∃ B, (S3.lt ⟨p, l, r⟩ ⟨s.p, s.l, r⟩) = B := ⟨_, rfl⟩
    rw [hB] at hL
    rw [hB]
    have hne : ⟨s.p, s.l, r⟩ = (⟨p, l, r⟩ : S3) → B = false := by
      rintro e
      rw [← hB, e]
      unfold S3.lt; simp
    clear hB
    unfold S3.v at HC ⊢
    go_enter Try.func27, Try.ntmps27
    go_wp2_with fail
    generalize w.alloc (.cells #[.int .i64 s.p, .int .i64 s.l, .int .i64 s.r] 23) = w1 at *
    refine (HC.out _ g1).mono ?_
    rintro e w2 ⟨rfl, hb2⟩
    replace v1 := v1.below hb2
    replace g1 := g1.below hb2
    replace b1 := b1.trans (hb2.mono b1.size)
    obtain ⟨_, x0, x1, x2, x3, x4, x5⟩ := id v1
    obtain ⟨⟨_, y0, y1, y2, y3, y4, y5⟩, _, _⟩ := id g1
    simp only at y0 y1 y2
    have v3 := v1.set2 r
    have g3 := g1.set_other (g' := w.heap.size) (o := 2) (.int .i64 r) (by omega)
    have b3 : Below w.heap.size w (w2.setCell ⟨w.heap.size, 2, none⟩ (.int .i64 r)) := b1.setCell (by simp) _
    go_wp2_with fail
    generalize w2.setCell ⟨w.heap.size, 2, none⟩ (.int .i64 r) = w3 at *
    have e0 := cellB v3.2.1
    have e1 := cellB v3.2.2.1
    have e2 := cellB v3.2.2.2.1
    have e3 := cellB g3.1.2.1
    have e4 := cellB g3.1.2.2.1
    have e5 := cellB g3.1.2.2.2.1
    simp only at e0 e1 e2 e3 e4 e5
    clear x0 x1 x2 x3 x4 x5 y0 y1 y2 y3 y4 y5 hb2 v1 g1 b1
    by_cases hes : (⟨s.p, s.l, r⟩ : S3) = ⟨p, l, r⟩
    · have hBf := hne hes
      subst hBf
      injection hes with q1 q2 _
      clear hne
      refine bstart (by kernel_rfl) ?_
      refine btake 0 (oi := _) (v := ?_) (by simp only [List.getElem?_toArray, List.getElem?_cons_zero]; rfl) (by kernel_rfl) (by exact fun _ _ _ h => h) (by first | assumption | exact KB.refl _) (.inl ⟨by rfl, fun W hW => ?_⟩) ?_; rotate_left
      · (go_simp; first | done | with_reducible rfl)
      try simp only [Act.put, List.setIfInBounds_toArray, List.set_cons_zero, List.set_cons_succ]
      refine btake 1 (oi := _) (v := ?_) (by simp only [List.getElem?_toArray, List.getElem?_cons_succ, List.getElem?_cons_zero]; rfl) (by kernel_rfl) (by exact fun _ _ _ h => h) (by first | assumption | exact KB.refl _) (.inl ⟨by rfl, fun W hW => ?_⟩) ?_; rotate_left
      · (go_simp; first | done | with_reducible rfl)
      try simp only [Act.put, List.setIfInBounds_toArray, List.set_cons_zero, List.set_cons_succ]
      refine btake 2 (oi := _) (v := ?_) (by simp only [List.getElem?_toArray, List.getElem?_cons_succ, List.getElem?_cons_zero]; rfl) (by kernel_rfl) (by exact fun _ _ _ h => h) (by first | assumption | exact KB.refl _) (.inl ⟨by rfl, fun W hW => ?_⟩) ?_; rotate_left
      · (go_simp; first | done | with_reducible rfl)
      try simp only [Act.put, List.setIfInBounds_toArray, List.set_cons_zero, List.set_cons_succ]
      refine btake 3 (oi := _) (v := ?_) (by simp only [List.getElem?_toArray, List.getElem?_cons_succ, List.getElem?_cons_zero]; rfl) (by kernel_rfl) (by exact fun _ _ _ h => h) (by first | assumption | exact KB.refl _) (.inl ⟨by rfl, fun W hW => ?_⟩) ?_; rotate_left
      · (go_simp; first | done | with_reducible rfl)
      try simp only [Act.put, List.setIfInBounds_toArray, List.set_cons_zero, List.set_cons_succ]
      refine btake 4 (oi := _) (v := ?_) (by simp only [List.getElem?_toArray, List.getElem?_cons_succ, List.getElem?_cons_zero]; rfl) (by kernel_rfl) (by exact fun _ _ _ h => h) (by first | assumption | exact KB.refl _) (.inl ⟨by rfl, fun W hW => ?_⟩) ?_; rotate_left
      · (go_simp; first | done | with_reducible rfl)
      try simp only [Act.put, List.setIfInBounds_toArray, List.set_cons_zero, List.set_cons_succ]
      refine btake 5 (oi := _) (v := ?_) (by simp only [List.getElem?_toArray, List.getElem?_cons_succ, List.getElem?_cons_zero]; rfl) (by kernel_rfl) (by exact fun _ _ _ h => h) (by first | assumption | exact KB.refl _) (.inl ⟨by rfl, fun W hW => ?_⟩) ?_; rotate_left
      · (go_simp; first | done | with_reducible rfl)
      try simp only [Act.put, List.setIfInBounds_toArray, List.set_cons_zero, List.set_cons_succ]
      refine btake 6 (oi := _) (v := ?_) (by simp only [List.getElem?_toArray, List.getElem?_cons_succ, List.getElem?_cons_zero]; rfl) (by kernel_rfl) (by exact fun _ _ _ h => h) (by first | assumption | exact KB.refl _) (.inl ⟨by rfl, fun W hW => ?_⟩) ?_; rotate_left
      · (go_simp; first | done | with_reducible rfl)
      try simp only [Act.put, List.setIfInBounds_toArray, List.set_cons_zero, List.set_cons_succ]
      refine btake 7 (oi := _) (v := undef) (by simp only [List.getElem?_toArray, List.getElem?_cons_succ, List.getElem?_cons_zero]; rfl) (by kernel_rfl) (by exact fun _ _ _ h => h) (by first | assumption | exact KB.refl _) (.inr ⟨by rfl, rfl⟩) ?_
      try simp only [Act.put, List.setIfInBounds_toArray, List.set_cons_zero, List.set_cons_succ]
      refine btake 8 (oi := _) (v := undef) (by simp only [List.getElem?_toArray, List.getElem?_cons_succ, List.getElem?_cons_zero]; rfl) (by kernel_rfl) (by exact fun _ _ _ h => h) (by first | assumption | exact KB.refl _) (.inr ⟨by rfl, rfl⟩) ?_
      try simp only [Act.put, List.setIfInBounds_toArray, List.set_cons_zero, List.set_cons_succ]
      refine btake 9 (oi := _) (v := undef) (by simp only [List.getElem?_toArray, List.getElem?_cons_succ, List.getElem?_cons_zero]; rfl) (by kernel_rfl) (by exact fun _ _ _ h => h) (by first | assumption | exact KB.refl _) (.inr ⟨by rfl, rfl⟩) ?_
      try simp only [Act.put, List.setIfInBounds_toArray, List.set_cons_zero, List.set_cons_succ]
      refine btake 10 (oi := _) (v := undef) (by simp only [List.getElem?_toArray, List.getElem?_cons_succ, List.getElem?_cons_zero]; rfl) (by kernel_rfl) (by exact fun _ _ _ h => h) (by first | assumption | exact KB.refl _) (.inr ⟨by rfl, rfl⟩) ?_
      try simp only [Act.put, List.setIfInBounds_toArray, List.set_cons_zero, List.set_cons_succ]
      refine btake 11 (oi := _) (v := undef) (by simp only [List.getElem?_toArray, List.getElem?_cons_succ, List.getElem?_cons_zero]; rfl) (by kernel_rfl) (by exact fun _ _ _ h => h) (by first | assumption | exact KB.refl _) (.inr ⟨by rfl, rfl⟩) ?_
      try simp only [Act.put, List.setIfInBounds_toArray, List.set_cons_zero, List.set_cons_succ]
      refine btake 12 (oi := _) (v := undef) (by simp only [List.getElem?_toArray, List.getElem?_cons_succ, List.getElem?_cons_zero]; rfl) (by kernel_rfl) (by exact fun _ _ _ h => h) (by first | assumption | exact KB.refl _) (.inr ⟨by rfl, rfl⟩) ?_
      try simp only [Act.put, List.setIfInBounds_toArray, List.set_cons_zero, List.set_cons_succ]
      refine btake 13 (oi := _) (v := ?_) (by simp only [List.getElem?_toArray, List.getElem?_cons_succ, List.getElem?_cons_zero]; rfl) (by kernel_rfl) (by exact fun _ _ _ h => h) (by first | assumption | exact KB.refl _) (.inl ⟨by rfl, fun W hW => ?_⟩) ?_; rotate_left
      · (go_simp; first | done | with_reducible rfl)
      try simp only [Act.put, List.setIfInBounds_toArray, List.set_cons_zero, List.set_cons_succ]
      refine bdone (by kernel_rfl) ?_
      go_wp2_with fail
      go_ret
      exact ⟨rfl, g3.below (Below.refl _ _).drew, grown_of_below b3.drew (some g)⟩
    · have hnn := fun W => ne3 W ⟨s.p, s.l, r⟩ ⟨p, l, r⟩
      unfold S3.v at hnn
      rw [show (!decide ((⟨s.p, s.l, r⟩ : S3) = ⟨p, l, r⟩)) = true by rw [decide_eq_false hes]; rfl] at hnn
      clear hne
      refine bstart (by kernel_rfl) ?_
      refine btake 0 (oi := _) (v := ?_) (by simp only [List.getElem?_toArray, List.getElem?_cons_zero]; rfl) (by kernel_rfl) (by exact fun _ _ _ h => h) (by first | assumption | exact KB.refl _) (.inl ⟨by rfl, fun W hW => ?_⟩) ?_; rotate_left
      · (go_simp; first | done | with_reducible rfl)
      try simp only [Act.put, List.setIfInBounds_toArray, List.set_cons_zero, List.set_cons_succ]
      refine btake 1 (oi := _) (v := ?_) (by simp only [List.getElem?_toArray, List.getElem?_cons_succ, List.getElem?_cons_zero]; rfl) (by kernel_rfl) (by exact fun _ _ _ h => h) (by first | assumption | exact KB.refl _) (.inl ⟨by rfl, fun W hW => ?_⟩) ?_; rotate_left
      · (go_simp; first | done | with_reducible rfl)
      try simp only [Act.put, List.setIfInBounds_toArray, List.set_cons_zero, List.set_cons_succ]
      refine btake 2 (oi := _) (v := ?_) (by simp only [List.getElem?_toArray, List.getElem?_cons_succ, List.getElem?_cons_zero]; rfl) (by kernel_rfl) (by exact fun _ _ _ h => h) (by first | assumption | exact KB.refl _) (.inl ⟨by rfl, fun W hW => ?_⟩) ?_; rotate_left
      · (go_simp; first | done | with_reducible rfl)
      try simp only [Act.put, List.setIfInBounds_toArray, List.set_cons_zero, List.set_cons_succ]
      refine btake 3 (oi := _) (v := ?_) (by simp only [List.getElem?_toArray, List.getElem?_cons_succ, List.getElem?_cons_zero]; rfl) (by kernel_rfl) (by exact fun _ _ _ h => h) (by first | assumption | exact KB.refl _) (.inl ⟨by rfl, fun W hW => ?_⟩) ?_; rotate_left
      · (go_simp; first | done | with_reducible rfl)
      try simp only [Act.put, List.setIfInBounds_toArray, List.set_cons_zero, List.set_cons_succ]
      refine btake 4 (oi := _) (v := ?_) (by simp only [List.getElem?_toArray, List.getElem?_cons_succ, List.getElem?_cons_zero]; rfl) (by kernel_rfl) (by exact fun _ _ _ h => h) (by first | assumption | exact KB.refl _) (.inl ⟨by rfl, fun W hW => ?_⟩) ?_; rotate_left
      · (go_simp; first | done | with_reducible rfl)
      try simp only [Act.put, List.setIfInBounds_toArray, List.set_cons_zero, List.set_cons_succ]
      refine btake 5 (oi := _) (v := ?_) (by simp only [List.getElem?_toArray, List.getElem?_cons_succ, List.getElem?_cons_zero]; rfl) (by kernel_rfl) (by exact fun _ _ _ h => h) (by first | assumption | exact KB.refl _) (.inl ⟨by rfl, fun W hW => ?_⟩) ?_; rotate_left
      · (go_simp; first | done | with_reducible rfl)
      try simp only [Act.put, List.setIfInBounds_toArray, List.set_cons_zero, List.set_cons_succ]
      refine btake 6 (oi := _) (v := ?_) (by simp only [List.getElem?_toArray, List.getElem?_cons_succ, List.getElem?_cons_zero]; rfl) (by kernel_rfl) (by exact fun _ _ _ h => h) (by first | assumption | exact KB.refl _) (.inl ⟨by rfl, fun W hW => ?_⟩) ?_; rotate_left
      · (go_simp; first | done | with_reducible rfl)
      try simp only [Act.put, List.setIfInBounds_toArray, List.set_cons_zero, List.set_cons_succ]
      refine btake 7 (oi := _) (v := ?_) (by simp only [List.getElem?_toArray, List.getElem?_cons_succ, List.getElem?_cons_zero]; rfl) (by kernel_rfl) (by exact fun _ _ _ h => h) (by first | assumption | exact KB.refl _) (.inl ⟨by rfl, fun W hW => ?_⟩) ?_; rotate_left
      · (go_simp; first | done | with_reducible rfl)
      try simp only [Act.put, List.setIfInBounds_toArray, List.set_cons_zero, List.set_cons_succ]
      refine btake 8 (oi := _) (v := ?_) (by simp only [List.getElem?_toArray, List.getElem?_cons_succ, List.getElem?_cons_zero]; rfl) (by kernel_rfl) (by exact fun _ _ _ h => h) (by first | assumption | exact KB.refl _) (.inl ⟨by rfl, fun W hW => ?_⟩) ?_; rotate_left
      · (go_simp; first | done | with_reducible rfl)
      try simp only [Act.put, List.setIfInBounds_toArray, List.set_cons_zero, List.set_cons_succ]
      refine btake 9 (oi := _) (v := ?_) (by simp only [List.getElem?_toArray, List.getElem?_cons_succ, List.getElem?_cons_zero]; rfl) (by kernel_rfl) (by exact fun _ _ _ h => h) (by first | assumption | exact KB.refl _) (.inl ⟨by rfl, fun W hW => ?_⟩) ?_; rotate_left
      · (go_simp; first | done | with_reducible rfl)
      try simp only [Act.put, List.setIfInBounds_toArray, List.set_cons_zero, List.set_cons_succ]
      refine btake 10 (oi := _) (v := ?_) (by simp only [List.getElem?_toArray, List.getElem?_cons_succ, List.getElem?_cons_zero]; rfl) (by kernel_rfl) (by exact fun _ _ _ h => h) (by first | assumption | exact KB.refl _) (.inl ⟨by rfl, fun W hW => ?_⟩) ?_; rotate_left
      · (go_simp; first | done | with_reducible rfl)
      try simp only [Act.put, List.setIfInBounds_toArray, List.set_cons_zero, List.set_cons_succ]
      refine btake 11 (oi := _) (v := ?_) (by simp only [List.getElem?_toArray, List.getElem?_cons_succ, List.getElem?_cons_zero]; rfl) (by kernel_rfl) (by exact fun _ _ _ h => h) (by first | assumption | exact KB.refl _) (.inl ⟨by rfl, fun W hW => ?_⟩) ?_; rotate_left
      · (go_simp; first | done | with_reducible rfl)
      try simp only [Act.put, List.setIfInBounds_toArray, List.set_cons_zero, List.set_cons_succ]
      -- 12: newsreel/stamp.Less
      refine bop 12 (o := _) (by simp only [List.getElem?_toArray, List.getElem?_cons_succ, List.getElem?_cons_zero]; rfl) (by kernel_rfl) (by first | assumption | exact KB.refl _) (by rfl) (fun K hK => ?_)
      go_simp
      refine (hL.out _).mono ?_
      rintro e w4 ⟨rfl, hb4⟩
      have hB4 : Below w3.heap.size w3 w4 := (Below.refl _ w3).drew.trans hb4
      have hkb := KB.of hb4
      refine hK.out _ _ hkb ?_; clear hK K
      try simp only [Act.put, List.setIfInBounds_toArray, List.set_cons_zero, List.set_cons_succ]
      refine btake 13 (oi := _) (v := ?_) (by simp only [List.getElem?_toArray, List.getElem?_cons_succ, List.getElem?_cons_zero]; rfl) (by kernel_rfl) (by exact fun _ _ _ h => h) (by first | assumption | exact KB.refl _) (.inl ⟨by rfl, fun W hW => ?_⟩) ?_; rotate_left
      · (go_simp; first | done | with_reducible rfl)
      try simp only [Act.put, List.setIfInBounds_toArray, List.set_cons_zero, List.set_cons_succ]
      refine bdone (by kernel_rfl) ?_
      have v4 := v3.below hB4
      have g4 := g3.below hB4
      have b4 := b3.trans (hB4.mono b3.size)
      clear e0 e1 e2 e3 e4 e5 hkb hb4 hB4
      cases B
      · go_wp2_with fail
        go_ret
        exact ⟨rfl, g4, grown_of_below b4 (some g)⟩
      · have g5 := g4.put ⟨s.p, s.l, r⟩
        have hfin := grown_put3 (grown_of_below b4 (some g)) (.inl rfl) ⟨s.p, s.l, r⟩
        obtain ⟨_, x0, x1, x2, _, _, _⟩ := v4
        obtain ⟨⟨_, y0, y1, y2, y3, y4, y5⟩, _, _⟩ := g4
        simp only at x0 x1 x2 y0 y1 y2
        go_wp2_with fail
        go_ret
        exact ⟨rfl, g5, hfin⟩
  · rw [if_neg h0]
    have hne : (E != 0) = true := by simpa using h0
    unfold S3.v at HC ⊢
    go_enter Try.func27, Try.ntmps27
    go_wp2_with fail
    generalize w.alloc (.cells #[.int .i64 s.p, .int .i64 s.l, .int .i64 s.r] 23) = w1 at *
    refine (HC.out _ g1).mono ?_
    rintro e w2 ⟨rfl, hb2⟩
    replace g1 := g1.below hb2
    replace b1 := b1.trans (hb2.mono b1.size)
    go_wp2_with fail
    go_ret
    exact ⟨rfl, g1, grown_of_below b1 (some g)⟩
end Go.Proofs.Ythpooogjlmaemaa

