/- 'StampOrder': the walk of the law. -/
import Derived.Test.YthpooogjlmaemaaWStampOrder0
import Derived.Test.YthpooogjlmaemaaWStampOrder1
import Derived.Test.YthpooogjlmaemaaWStampOrder2
namespace Go.Proofs.Ythpooogjlmaemaa
open Go.RowKit
theorem StampOrder_walk (w : World) (a : S3) (ha : a.ok) (b : S3) (hb : b.ok) (c : S3) (hc : c.ok) (k : Nat) (hk : k < 256) :
    Calls Try.prog 3 #[a.v, b.v, c.v, .int .u8 (k : Int)] w fun e w' => e = .returned (.bool true) ∧ Below w.heap.size w w' := by
  obtain h | h | h : k % 3 = 0 ∨ k % 3 = 1 ∨ k % 3 = 2 := by omega
  · exact StampOrder_walk0 w a ha b hb c hc k hk h
  · exact StampOrder_walk1 w a ha b hb c hc k hk h
  · exact StampOrder_walk2 w a ha b hb c hc k hk h
end Go.Proofs.Ythpooogjlmaemaa

