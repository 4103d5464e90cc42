/- cmp.Compare at int64. -/
import Derived.Test.YtdpkmabojlihmaaTwo
import Derived.Sort.Grow
namespace Go.Proofs.Ytdpkmabojlihmaa
open Go.RowKit Go.Sort

def cmp3 (a b : Int) : Int := if a < b then -1 else if b < a then 1 else 0
set_option maxRecDepth 100000 in
theorem isNaN_int64 (w : World) (a : Int) : Calls Try.prog 38 #[.int .i64 a] w fun e w' => e = .returned (.bool false) ∧ w = w' := by
  go_enter Try.func38, Try.ntmps38
  go_wp2_with fail
  go_ret
  exact ⟨rfl, rfl⟩
set_option maxRecDepth 100000 in
theorem Compare_int64 (w : World) (a b : Int) : Calls Try.prog 34 #[.int .i64 a, .int .i64 b] w fun e w' => e = .returned (.int .i64 (cmp3 a b)) ∧ w = w' := by
  go_enter Try.func34, Try.ntmps34
  go_wp2_with (go_at_call 38; refine (isNaN_int64 _ _).mono ?_; rintro e w' ⟨rfl, rfl⟩)
  all_goals
    go_ret
    refine ⟨ret_i ?_, rfl⟩
    unfold cmp3
    first | (rw [if_pos (by omega)]) | (rw [if_neg (by omega), if_pos (by omega)]) | (rw [if_neg (by omega), if_neg (by omega)])
def Grew (w w' : World) : Prop := ∃ q os', w' = grow (w.drewN q) os'
end Go.Proofs.Ytdpkmabojlihmaa

