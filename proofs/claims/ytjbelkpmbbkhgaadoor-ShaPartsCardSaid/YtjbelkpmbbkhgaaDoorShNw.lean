/- Digests: a new hash, its cells. -/
import Derived.Test.YtjbelkpmbbkhgaaDoorShX
namespace Go.Proofs.YtjbelkpmbbkhgaaDoor
open Go.RowKit Go.Proofs.YtjbelkpmbbkhgaaDoor.Sh

set_option maxRecDepth 100000 in
theorem New_any2 (w : World) : Calls Tryd.prog 9 #[] w fun e w' => e = .returned (.pointer (some ⟨w.heap.size, 0, none⟩)) ∧ At w' w.heap.size (u32s Sh.start ++ [Value.slice none 0 0, Value.int .u64 0]) ∧ Below w.heap.size w w' := by
  have hA := At.new w 45 (u32s Sh.start ++ [Value.slice none 0 0, Value.int .u64 0]).toArray
  have hb := balloc (Below.refl w.heap.size w) (.cells (u32s Sh.start ++ [Value.slice none 0 0, Value.int .u64 0]).toArray 45)
  go_enter Tryd.func9, Tryd.ntmps9
  go_wp2_with fail
  go_ret
  exact ⟨rfl, hA, hb⟩
theorem new_stands {w : World} {g lo : Nat} (h : At w g (u32s Sh.start ++ [Value.slice none 0 0, Value.int .u64 0])) (h1 : g < lo) (h2 : lo ≤ w.heap.size) : HStands w g lo new0 :=
  ⟨h1, h2, none, 0, h, .inl rfl, (fun a h => (by cases h)), by simp [new0], by simp [maxLen]⟩
theorem HStands.lt {w : World} {g lo : Nat} {s : Hs} (h : HStands w g lo s) : g < w.heap.size := Nat.lt_of_lt_of_le h.1 h.2.1
end Go.Proofs.YtjbelkpmbbkhgaaDoor

