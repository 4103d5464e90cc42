/- Flags: order of ids. -/
import Derived.Test.YtjijhmeagjhfoaaFl
import Derived.Sort.Grow
namespace Go.Proofs.Ytjijhmeagjhfoaa
open Go.RowKit Go.Maps
set_option maxRecDepth 20000

def cmpID (a b : ID) : Int := if a = b then 0 else if a.lt b then -1 else 1
def GrewI (w w' : World) : Prop := ∃ q os', w' = Go.Sort.grow (w.drewN q) os'
theorem grew2 (w : World) (a b : Obj) : GrewI w ((w.alloc a).alloc b) := ⟨0, _, by rw [Go.Sort.alloc_eq_grow, Go.Sort.alloc_eq_grow, Go.Sort.grow_grow]; rfl⟩
theorem grew4 (w : World) (a b c d : Obj) : GrewI w ((((w.alloc a).alloc b).alloc c).alloc d).drew := ⟨1, _, by
  rw [Go.Sort.alloc_eq_grow, Go.Sort.alloc_eq_grow, Go.Sort.alloc_eq_grow, Go.Sort.alloc_eq_grow, Go.Sort.grow_grow, Go.Sort.grow_grow, Go.Sort.grow_grow, Go.Sort.drew_grow]; rfl⟩
set_option maxHeartbeats 1600000 in
theorem order_any (w : World) (x y : ID) : Calls Try.prog 32 #[x.v, y.v] w fun e w' => e = .returned (.int .i64 (cmpID x y)) ∧ GrewI w w' := by
  obtain ⟨c, hc⟩ : ∃ c, c = cmpID x y := ⟨_, rfl⟩
  rw [← hc]
  have HC := Lib.hid hc
  clear hc
  have hlt := IdLt_ex
  have HX := Lib.hid (And.intro x.h y.h)
  have a1 := (At.new w 25 (bv x.l).toArray).alloc (.cells (bv y.l).toArray 25)
  have a2 := At.new (w.alloc (.cells (bv x.l).toArray 25)) 25 (bv y.l).toArray
  rw [World.size_alloc] at a2
  have hb : Below w.heap.size w ((w.alloc (.cells (bv x.l).toArray 25)).alloc (.cells (bv y.l).toArray 25)) := ((Below.refl _ w).alloc (Nat.le_refl _) _).alloc (by simp) _
  have HL := Lib.hid (And.intro (show (bv x.l).length = 32 by rw [bv_len, x.h]) (show (bv y.l).length = 32 by rw [bv_len, y.h]))
  have HA := Lib.hid (And.intro a1 a2)
  have HLT := Lib.hid (hlt ((w.alloc (.cells (bv x.l).toArray 25)).alloc (.cells (bv y.l).toArray 25)) x.l y.l x.h y.h)
  clear hlt a1 a2
  unfold ID.v
  obtain ⟨q, hq⟩ : ∃ q, decide (x.l = y.l) = q := ⟨_, rfl⟩
  have HQ := Lib.hid hq
  clear hq
  obtain ⟨lt, hlt⟩ : ∃ lt, lt = ltB x.l y.l := ⟨_, rfl⟩
  have HT := Lib.hid hlt
  rw [← hlt] at HLT
  clear hlt
  have hcv : cmpID x y = if q then 0 else if lt then -1 else 1 := by
    rw [HT.out, ← HQ.out]
    unfold cmpID ID.lt
    by_cases e : x = y
    · subst e; simp
    · have : ¬ x.l = y.l := fun h => e (ID.ext' h)
      simp [e, this]
  have HV := Lib.hid (HC.out.trans hcv)
  clear hcv
  cases q with
  | true =>
    go_enter Try.func32, Try.ntmps32
    go_wp2_with (first
      | (refine opVal rfl (ex_box32 rfl rfl) ?_; simp only [Act.put, List.setIfInBounds_toArray, List.set_cons_zero, List.set_cons_succ, World.size_alloc])
      | (refine opVal rfl (ex_ld32 rfl rfl HA.out.1 HL.out.1) ?_; simp only [Act.put, List.setIfInBounds_toArray, List.set_cons_zero, List.set_cons_succ])
      | (refine opVal rfl (ex_ld32 rfl rfl HA.out.2 HL.out.2) ?_; simp only [Act.put, List.setIfInBounds_toArray, List.set_cons_zero, List.set_cons_succ])
      | (refine opVal rfl (ex_eq32q (by rfl) (by rfl) (by rfl) HX.out.1 HX.out.2 HQ.out) ?_; simp only [Act.put, List.setIfInBounds_toArray, List.set_cons_zero, List.set_cons_succ]))
    go_ret
    exact ⟨by rw [HV.out]; rfl, grew2 _ _ _⟩
  | false =>
    go_enter Try.func32, Try.ntmps32
    go_wp2_with (first
      | (refine opVal rfl (ex_box32 rfl rfl) ?_; simp only [Act.put, List.setIfInBounds_toArray, List.set_cons_zero, List.set_cons_succ, World.size_alloc])
      | (refine opVal rfl (ex_ld32 rfl rfl HA.out.1 HL.out.1) ?_; simp only [Act.put, List.setIfInBounds_toArray, List.set_cons_zero, List.set_cons_succ])
      | (refine opVal rfl (ex_ld32 rfl rfl HA.out.2 HL.out.2) ?_; simp only [Act.put, List.setIfInBounds_toArray, List.set_cons_zero, List.set_cons_succ])
      | (refine opVal rfl (ex_eq32q (by rfl) (by rfl) (by rfl) HX.out.1 HX.out.2 HQ.out) ?_; simp only [Act.put, List.setIfInBounds_toArray, List.set_cons_zero, List.set_cons_succ]))
    refine HLT.out.mono ?_
    rintro e w3 ⟨rfl, rfl⟩
    cases lt with
    | true =>
      go_wp2
      go_ret
      exact ⟨by rw [HV.out]; rfl, grew4 _ _ _ _ _⟩
    | false =>
      go_wp2
      go_ret
      exact ⟨by rw [HV.out]; rfl, grew4 _ _ _ _ _⟩
end Go.Proofs.Ytjijhmeagjhfoaa

