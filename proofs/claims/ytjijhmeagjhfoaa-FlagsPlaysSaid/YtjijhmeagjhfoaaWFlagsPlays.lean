/- 'FlagsPlays': the walk of the law, both ways of the second argument. -/
import Derived.Test.YtjijhmeagjhfoaaWFlagsPlays0
import Derived.Test.YtjijhmeagjhfoaaWFlagsPlays1
namespace Go.Proofs.Ytjijhmeagjhfoaa
open Go.RowKit

theorem FlagsPlays_walk (w : World) (A0 : Option Addr) (c0 : Nat) (l : List FA) (s0 : Sl w w.heap.size A0 (fa l)) (hok : ∀ a ∈ l, a.ok) (near : Bool) :
    Calls Try.prog 4 #[.slice A0 l.length c0, .bool near] w fun e w' => e = .returned (.bool true) ∧ Below w.heap.size w w' := by
  cases near
  · exact FlagsPlays0_walk w A0 c0 l s0 hok
  · exact FlagsPlays1_walk w A0 c0 l s0 hok
end Go.Proofs.Ytjijhmeagjhfoaa

