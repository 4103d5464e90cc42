/- 'CrcSums': the walk of the law. -/
import Derived.Test.YtandbancbgojjaaCrcK
import Derived.Test.YtandbancbgojjaaMatF
namespace Go.Proofs.Ytandbancbgojjaa
open Go.RowKit Go.Proofs.Ytandbancbgojjaa.Pc Go.Proofs.Ytandbancbgojjaa.Pl

def SumsRel (L : Nat) (x : Value) : Prop := ∃ k : Nat, k ≤ L ∧ x = .int .i64 (k : Int)
set_option maxRecDepth 100000 in
set_option maxHeartbeats 3200000 in
theorem CrcSums_walk (w : World) (A : Option Addr) (c : Nat) (ls : List (List UInt8)) (hb : Mat w A ls) (hc : ls.length ≤ c) (hm : c ≤ maxLen) :
    Calls Try.prog 3 #[.slice A ls.length c] w fun e w' => e = .returned (.bool true) ∧ Below w.heap.size w w' := by
  have hm' : ls.length ≤ maxLen := by omega
  have hmn : ls.length ≤ 9223372036854775807 := by simpa [maxLen] using hm'
  go_enter Try.func3, Try.ntmps3
  go_wp2_with fail
  refine (known_any w).mono ?_
  rintro e w1 ⟨rfl, hb1⟩
  have hM := hb.below hb1
  go_wp2_with fail
  go_loop [3] (fun x3 => SumsRel ls.length x3) (fun x3 => ls.length - (intOf x3).toNat)
  case atStart => exact ⟨0, Nat.zero_le _, rfl⟩
  case round =>
    obtain ⟨k, hk, rfl⟩ := hrel
    by_cases hlt : k < ls.length
    · obtain ⟨b, o, A', c', rfl, hbW, hck, h1, h2, h3⟩ := hM.at_ hlt
      have hle : (ls[k]?.getD []).length ≤ 9223372036854775807 := by simp only [maxLen] at h3; omega
      generalize ls[k]?.getD [] = l at *
      clear hb hM
      by_cases hbig : 2000 < l.length
      · go_wp2_with fail
        go_ret
        exact ⟨rfl, hb1⟩
      · go_wp2_with fail
        go_round
        case rel => exact ⟨k + 1, hlt, by go_num⟩
        case measure => simp [intOf]; omega
    · by_cases hbig : 100 < ls.length
      · go_wp2_with fail
        go_ret
        exact ⟨rfl, hb1⟩
      · go_wp2_with fail
        refine (Sum_any w1 A _ c ls hM rfl hm').mono ?_
        rintro e w2 ⟨rfl, hb2⟩
        have hM2 := hM.below hb2
        go_wp2_with fail
        refine (RefSum_any w2 A _ c ls hM2 rfl hm').mono ?_
        rintro e w3 ⟨rfl, hb3⟩
        go_wp2_with fail
        go_ret
        exact ⟨rfl, bstep (bstep hb1 hb2) hb3⟩
end Go.Proofs.Ytandbancbgojjaa

