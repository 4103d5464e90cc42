/- A region that draws its order, held by whatever is said of memory. -/
import Derived.Test.YthnbnhlfiehihaaAt
namespace Go.Proofs.Ythnbnhlfiehihaa
open Go.RowKit

def AtS (g : Nat) (vs : List Value) (W : World) : Prop := At W g vs
theorem AtS.e {g : Nat} {vs : List Value} (i : Nat) {v : Value} (hv : vs[i]? = some v) : ∀ W, AtS g vs W → W.cell? ⟨g, i, none⟩ = some v := fun _ h => h.c i hv
def wpS (P : Program) (ops : Array Oper) (Q : Exit → Act → World → Prop) (S : World → Prop) (fuel : Nat) (listed : Array Bool) (a : Act) (w : World) : Prop := wpAnyH P .any ops Q S fuel listed a w
section
variable {P : Program} {ops : Array Oper} {Q : Exit → Act → World → Prop}
theorem bstartS (S : World → Prop) {id : Nat} {a : Act} {w : World} (hm : P.follows .mixedOrders = true) (hh : wpS P ops Q S ops.size (Array.replicate ops.size false) a w.drew) : (Code.region id ops true).wp P Q a w := wp_region_held hm hh
theorem btakeS (i : Nat) {oi : Oper} {v : Value} {S : World → Prop} {fuel : Nat} {listed : Array Bool} {a : Act} {w : World} (hi : ops[i]? = some oi) (hok : okTake ops listed i = true)
    (hQ : ∀ c a w, Q (.panic c) (a.put oi.dst v) w → Q (.panic c) a w) (hS : S w)
    (hy : (Region.wanted oi (yielded ops a.tmps) = true ∧ ∀ W, S W → (execOp a.eval oi).run P W = .ok (.value v) W) ∨ (Region.wanted oi (yielded ops a.tmps) = false ∧ v = undef))
    (hr : wpS P ops Q S fuel (listed.setIfInBounds i true) (a.put oi.dst v) w) : wpS P ops Q S (fuel + 1) listed a w := by
  simp only [okTake, Bool.and_eq_true] at hok
  exact wpAnyH_take hi hok.1.1 hok.1.2 hok.2 hQ hy hS hr
theorem bopS (i : Nat) {o : Oper} {S : World → Prop} {fuel : Nat} {listed : Array Bool} {a : Act} {w : World} (hi : ops[i]? = some o) (hok : okOp ops listed i = true)
    (hw : Region.wanted o (yielded ops a.tmps) = true)
    (hr : ∀ K : Act → World → Prop, Shut (∀ a' w', S w' → wpS P ops Q S fuel (listed.setIfInBounds i true) a' w' → K a' w') → o.wp P a w K Q) : wpS P ops Q S (fuel + 1) listed a w := by
  have hok' : Region.ready .any ops listed = [i] := by simpa [okOp] using hok
  refine wpAnyH_all hok' (by simp) fun j hj => ?_
  obtain rfl : j = i := by simpa using hj
  unfold wpOp
  simp only [hi, hw, if_true]
  exact .inl (hr _ (fun a' w' hk hb => ⟨hk, hb⟩))
theorem bdoneS {S : World → Prop} {fuel : Nat} {listed : Array Bool} {a : Act} {w : World} (hr : Region.ready .any ops listed = []) (hq : Q .normal a w) : wpS P ops Q S fuel listed a w := wpAnyH_done hr hq fuel
end
end Go.Proofs.Ythnbnhlfiehihaa

