/- Digests: a hash's box; New, Write. -/
import Derived.Test.YtjbelkpmbbkhgaaShN
import Derived.Test.YtjbelkpmbbkhgaaMat
namespace Go.Proofs.Ytjbelkpmbbkhgaa
open Go.RowKit Go.Proofs.Ytjbelkpmbbkhgaa.Sh

structure Hs where
  h : List Nat
  r : List UInt8
  n : Nat
def mixK (h : List Nat) (b : List UInt8) : Nat → List Nat
  | 0 => h
  | k + 1 => mixS (mixK h b k) (b.drop (64 * k))
theorem mixK_ok {h : List Nat} (hh : Ok8 h) (b : List UInt8) : ∀ k, Ok8 (mixK h b k)
  | 0 => hh
  | k + 1 => mixS_ok (mixK_ok hh b k) _
def Hs.write (s : Hs) (l : List UInt8) : Hs := ⟨mixK s.h (s.r ++ l) ((s.r ++ l).length / 64), (s.r ++ l).drop (64 * ((s.r ++ l).length / 64)), (s.n + l.length) % 18446744073709551616⟩
def Hs.ok (s : Hs) : Prop := Ok8 s.h ∧ s.r.length < 64 ∧ s.n < 18446744073709551616
theorem Hs.write_ok {s : Hs} (h : s.ok) (l : List UInt8) : (s.write l).ok := by
  refine ⟨mixK_ok h.1 _ _, ?_, Nat.mod_lt _ (by omega)⟩
  simp only [Hs.write, List.length_drop]
  omega
def new0 : Hs := ⟨Sh.start, [], 0⟩
theorem new0_ok : new0.ok := ⟨⟨rfl, by unfold new0; decide⟩, by simp [new0], by simp [new0]⟩
/-- a hash stands in its box; its bytes lie in blocks from `lo` on -/
def HStands (w : World) (g lo : Nat) (s : Hs) : Prop := g < lo ∧ lo ≤ w.heap.size ∧ ∃ A c, At w g (u32s s.h ++ [.slice A s.r.length c, .int .u64 (s.n : Int)]) ∧ Sl w w.heap.size A (bv s.r) ∧ (∀ a, A = some a → lo ≤ a.block) ∧ s.r.length ≤ c ∧ c ≤ maxLen
theorem At.putM {g : Nat} : ∀ (us pre old rest : List Value) (w : World), At w g (pre ++ old ++ rest) → us.length = old.length → At (Go.Proofs.Ytjbelkpmbbkhgaa.putL w g pre.length us) g (pre ++ us ++ rest)
  | [], pre, old, rest, w, h, hl => by
    have : old = [] := List.eq_nil_of_length_eq_zero (by simpa using hl.symm)
    subst this
    exact h
  | u :: us, pre, [], rest, w, h, hl => by simp at hl
  | u :: us, pre, r :: old, rest, w, h, hl => by
    have h1 := h.set pre.length u (by simp)
    rw [List.append_assoc, List.set_append, if_neg (by omega), Nat.sub_self, List.cons_append, List.set_cons_zero] at h1
    have h2 := At.putM us (pre ++ [u]) old rest (w.setCell ⟨g, pre.length, none⟩ u) (by simpa using h1) (by simpa using hl)
    simpa [Go.Proofs.Ytjbelkpmbbkhgaa.putL] using h2
theorem At.putF {w : World} {g : Nat} {old rest : List Value} (h : At w g (old ++ rest)) (us : List Value) (hl : us.length = old.length) : At (Go.Proofs.Ytjbelkpmbbkhgaa.putL w g 0 us) g (us ++ rest) := by
  have := At.putM us [] old rest w (by simpa using h) hl
  simpa using this
theorem HStands.grown {w w' : World} {g lo : Nat} {s : Hs} (h : HStands w g lo s) {row : Option Nat} (hg : w.grownBy w' row) (hne : row ≠ some g) (hr : ∀ b, row = some b → b < lo) : HStands w' g lo s := by
  obtain ⟨h1, h2, A, c, h3, h4, h5, h6⟩ := h
  refine ⟨h1, Nat.le_trans h2 hg.size, A, c, h3.grown hg hne, ?_, h5, h6⟩
  rcases h4 with h4 | ⟨b, o, e, hb, hb2, hc⟩
  · exact .inl h4
  · refine .inr ⟨b, o, e, Nat.lt_of_lt_of_le hb hg.size, Nat.lt_of_lt_of_le hb hg.size, fun j u hu => ?_⟩
    have hlo := h5 _ e
    have hbk := hg.block b hb (fun hh => by have := hr b hh.symm; simp only at hlo; omega)
    exact (World.cell?_of_block (w := w) hbk).trans (hc j u hu)
theorem HStands.below {w w' : World} {g lo : Nat} {s : Hs} (h : HStands w g lo s) (hb : Below w.heap.size w w') : HStands w' g lo s := by
  obtain ⟨h1, h2, A, c, h3, h4, h5, h6⟩ := h
  exact ⟨h1, Nat.le_trans h2 hb.size, A, c, h3.below hb, (h4.below hb).more hb.size, h5, h6⟩
set_option maxRecDepth 100000 in
theorem New_any (w : World) : Calls Try.prog 13 #[] w fun e w' => e = .returned (.pointer (some ⟨w.heap.size, 0, none⟩)) ∧ HStands w' w.heap.size (w.heap.size + 1) new0 ∧ Below w.heap.size w w' := by
  have hA := At.new w 49 (u32s Sh.start ++ [Value.slice none 0 0, Value.int .u64 0]).toArray
  have hb := balloc (Below.refl w.heap.size w) (.cells (u32s Sh.start ++ [Value.slice none 0 0, Value.int .u64 0]).toArray 49)
  go_enter Try.func13, Try.ntmps13
  go_wp2_with fail
  go_ret
  exact ⟨rfl, ⟨by omega, by simp, none, 0, hA, .inl rfl, (fun a h => (by cases h)), by simp [new0], by simp [maxLen]⟩, hb⟩
end Go.Proofs.Ytjbelkpmbbkhgaa

