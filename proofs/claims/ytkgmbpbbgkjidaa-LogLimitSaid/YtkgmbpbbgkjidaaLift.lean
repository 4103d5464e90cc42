/- A region that draws its order, walked as anywhere, stands in a round, too. -/
import Derived.Test.YtkgmbpbbgkjidaaRan
import Derived.Test.YtkgmbpbbgkjidaaRegS
namespace Go.Proofs.Ytkgmbpbbgkjidaa
open Go.RowKit

section
variable {P : Program} {ops : Array Oper} {Q : Exit → Act → World → Prop}
theorem upon_lift {l n : Nat} {o : Oper} {a : Act} {K : Act → World → Prop} (r : Result Next) (h : o.upon P a K Q r) : o.uponIn (Fence.wide.inRound l) n P a K Q r := by
  have hd : (Fence.wide.inRound l).depth.isSome = true → 1 ≤ n := fun h' => absurd h' (by simp [Fence.wide, Fence.inRound])
  cases r with
  | ok x w' =>
    cases x with
    | enter f args => exact ⟨hd, CallsIn.inRound l (callsIn_wide.2 h)⟩
    | row r args => exact ⟨hd, fun c cs _ => let ⟨v, w', q, s⟩ := h c cs; ⟨v, w', q, stepsIn_wide.2 s⟩⟩
    | _ => first | exact h | exact h.elim
  | halt x w' => cases x <;> first | exact h | exact h.elim
theorem wp_lift {l n : Nat} {o : Oper} {a : Act} {w : World} {K : Act → World → Prop} (hnd : ∀ c, o.op ≠ .defer c) (h : o.wp P a w K Q) : o.wpIn (Fence.wide.inRound l) n P a w K Q := by
  refine ⟨fun _ _ => trivial, ?_⟩
  rw [show (Fence.wide.inRound l).round = some l from rfl, Oper.semAt_some l _ o hnd]
  exact upon_lift _ h
theorem any_lift {l n : Nat} {S : World → Prop} (hnd : ∀ o ∈ ops, ∀ c, o.op ≠ .defer c) (hQ : ¬ LetsOut Q) : ∀ (fuel : Nat) (listed : Array Bool) (a : Act) (w : World), wpAnyH P .any ops Q S fuel listed a w → wpAnyIn (Fence.wide.inRound l) n P .any ops Q fuel listed a w
  | 0, _, _, _, h => h
  | fuel + 1, listed, a, w, h => by
    refine ⟨h.1, fun i hi => ?_⟩
    have h2 := h.2 i hi
    unfold wpOp at h2
    unfold wpOpIn
    cases ho : ops[i]? with
    | none => rw [ho] at h2; exact any_lift hnd hQ fuel _ _ _ h2.2
    | some o =>
      rw [ho] at h2
      simp only at h2 ⊢
      have hm : o ∈ ops := Array.mem_of_getElem? ho
      by_cases hw : Region.wanted o (yielded ops a.tmps) = true
      · rw [if_pos hw] at h2 ⊢
        rcases h2 with h2 | ⟨_, h2⟩
        · exact Oper.wpIn_mono (fun a' w' h' => any_lift hnd hQ fuel _ _ _ h'.2) (wp_lift (hnd o hm) h2)
        · exact absurd h2 hQ
      · rw [if_neg hw] at h2 ⊢
        exact ⟨fun _ _ => trivial, any_lift hnd hQ fuel _ _ _ h2.2⟩
/-- so a region in a round is begun -/
theorem bstartIn (S : World → Prop) {id l n : Nat} {a : Act} {w : World} (hm : P.follows .mixedOrders = true) (hnd : ∀ o ∈ ops, ∀ c, o.op ≠ .defer c) (hQ : ¬ LetsOut Q)
    (hh : wpS P ops Q S ops.size (Array.replicate ops.size false) a w.drew) : (Code.region id ops true).wpIn (Fence.wide.inRound l) n P Q a w :=
  wpIn_region_any hm (any_lift hnd hQ _ _ _ _ hh)
/-! the same where calls may be marked, outside of any round -/
theorem upon_liftW {n : Nat} {o : Oper} {a : Act} {K : Act → World → Prop} (r : Result Next) (h : o.upon P a K Q r) : o.uponIn Fence.wide n P a K Q r := by
  have hd : Fence.wide.depth.isSome = true → 1 ≤ n := fun h' => absurd h' (by simp [Fence.wide])
  cases r with
  | ok x w' =>
    cases x with
    | enter f args => exact ⟨hd, callsIn_wide.2 h⟩
    | row r args => exact ⟨hd, fun c cs _ => let ⟨v, w', q, s⟩ := h c cs; ⟨v, w', q, stepsIn_wide.2 s⟩⟩
    | _ => first | exact h | exact h.elim
  | halt x w' => cases x <;> first | exact h | exact h.elim
theorem wp_liftW {n : Nat} {o : Oper} {a : Act} {w : World} {K : Act → World → Prop} (h : o.wp P a w K Q) : o.wpIn Fence.wide n P a w K Q :=
  ⟨fun _ _ => trivial, upon_liftW _ h⟩
theorem any_liftW {n : Nat} {S : World → Prop} (hQ : ¬ LetsOut Q) : ∀ (fuel : Nat) (listed : Array Bool) (a : Act) (w : World), wpAnyH P .any ops Q S fuel listed a w → wpAnyIn Fence.wide n P .any ops Q fuel listed a w
  | 0, _, _, _, h => h
  | fuel + 1, listed, a, w, h => by
    refine ⟨h.1, fun i hi => ?_⟩
    have h2 := h.2 i hi
    unfold wpOp at h2
    unfold wpOpIn
    cases ho : ops[i]? with
    | none => rw [ho] at h2; exact any_liftW hQ fuel _ _ _ h2.2
    | some o =>
      rw [ho] at h2
      simp only at h2 ⊢
      by_cases hw : Region.wanted o (yielded ops a.tmps) = true
      · rw [if_pos hw] at h2 ⊢
        rcases h2 with h2 | ⟨_, h2⟩
        · exact Oper.wpIn_mono (fun a' w' h' => any_liftW hQ fuel _ _ _ h'.2) (wp_liftW h2)
        · exact absurd h2 hQ
      · rw [if_neg hw] at h2 ⊢
        exact ⟨fun _ _ => trivial, any_liftW hQ fuel _ _ _ h2.2⟩
theorem bstartW (S : World → Prop) {id n : Nat} {a : Act} {w : World} (hm : P.follows .mixedOrders = true) (hQ : ¬ LetsOut Q)
    (hh : wpS P ops Q S ops.size (Array.replicate ops.size false) a w.drew) : (Code.region id ops true).wpIn Fence.wide n P Q a w :=
  wpIn_region_any hm (any_liftW hQ _ _ _ _ hh)
theorem bstartWB {id n : Nat} {a : Act} {w : World} (hm : P.follows .mixedOrders = true) (hQ : ¬ LetsOut Q)
    (hh : wpB P ops Q w.heap ops.size (Array.replicate ops.size false) a w.drew) : (Code.region id ops true).wpIn Fence.wide n P Q a w := bstartW (KB w.heap) hm hQ hh
def onlyN (Q : Exit → Act → World → Prop) : Exit → Act → World → Prop
  | .normal, a, w => Q .normal a w
  | _, _, _ => False
theorem wpIn_onlyN {F : Fence} {n : Nat} {c : Code} {a : Act} {w : World} (h : c.wpIn F n P (onlyN Q) a w) : c.wpIn F n P Q a w :=
  wpIn_mono h (by intro e a w h; cases e <;> first | exact h | exact h.elim)
end
end Go.Proofs.Ytkgmbpbbgkjidaa

