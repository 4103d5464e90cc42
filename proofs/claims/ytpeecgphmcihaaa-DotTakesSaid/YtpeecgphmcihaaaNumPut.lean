/- Numbers as bytes: Size, Put, and the document's Put. -/
import Derived.Test.YtpeecgphmcihaaaNumW
namespace Go.Proofs.Ytpeecgphmcihaaa
open Go.RowKit Go.Proofs.Ytpeecgphmcihaaa.Pl

theorem one_nil (w : World) (v : Nat) (hv : U64 v) : Calls Try.prog 41 #[.slice none 0 0, .int .u64 (v : Int)] w (Fresh w (enc v)) := by
  refine (one_any w w.heap.size (.slice none 0 0) [] v hv (OwnB.nil w _) (Nat.le_refl _) (by simp)).mono ?_
  rintro e w' ⟨s', rfl, h1, h2, h3⟩
  rw [List.nil_append] at h1
  obtain ⟨A, c, rfl, _⟩ := h1.form
  exact ⟨A, c, rfl, h1, below_of_grown h2 (by simp [Value.ownBlock]) (Nat.le_refl _)⟩

def PutRel (w : World) (bs : List UInt8) (ls : List Nat) (x5 x19 : Value) (wr : World) : Prop :=
  ∃ k : Nat, k ≤ ls.length ∧ x19 = .int .i64 (k : Int) ∧ OwnB wr w.heap.size x5 (bs ++ encs (ls.take k)) ∧ Below w.heap.size w wr
theorem encs_take_len (ls : List Nat) (k : Nat) : (encs (ls.take k)).length ≤ 10 * k := by
  have := encs_len (ls.take k)
  have h2 : (ls.take k).length ≤ k := by rw [List.length_take]; omega
  omega
theorem encs_take_succ (ls : List Nat) (k : Nat) (h : k < ls.length) : encs (ls.take (k + 1)) = encs (ls.take k) ++ enc (ls[k]?.getD 0) := by
  rw [List.take_add_one, List.getElem?_eq_getElem h]
  exact encs_snoc _ _
set_option maxRecDepth 100000 in
set_option maxHeartbeats 400000 in
theorem Put_any (w : World) (A A' : Option Addr) (c c' : Nat) (bs : List UInt8) (ls : List Nat) (hb : Sl w w.heap.size A (bv bs)) (hl : Sl w w.heap.size A' (uv ls)) (hu : ∀ x ∈ ls, U64 x)
    (hbound : bs.length + 10 * ls.length ≤ 140737488355328) :
    Calls Try.prog 31 #[.slice A bs.length c, .slice A' ls.length c'] w (Fresh w (bs ++ encs ls)) := by
  go_enter Try.func31, Try.ntmps31
  go_wp2_with (first
    | (at_make; refine mkB (n := bs.length + 10 * ls.length) rfl rfl rfl rfl (by omega) (by omega) ?_; intro w1 hown1 hg1)
    | (at_builtin; refine app rfl rfl hown1 (hb.grown hg1 (by simp)) rfl rfl rfl (by simp; omega) hg1.size ?_; intro s2 w2 hown2 hg2 hat2))
  have hb2 : Below w.heap.size w w2 := own_below (below_of_grown hg1 (by simp) (Nat.le_refl _)) hg1.size hown1 hg2
  rw [List.nil_append] at hown2
  clear hown1 hg1 hat2 hg2
  go_loopw [5, 19] (fun x5 x19 wr => PutRel w bs ls x5 x19 wr) (fun _ x19 _ => ls.length - (intOf x19).toNat)
  case atStart => exact ⟨0, Nat.zero_le _, rfl, by simpa [encs] using hown2, hb2⟩
  case round =>
    obtain ⟨k, hk, rfl, hown, hbel⟩ := hrel
    have hs := hbel.size
    have hlen := encs_take_len ls k
    by_cases hlt : k < ls.length
    · obtain ⟨b, o, rfl, hbB, hbW, hcell⟩ := (hl.below hbel).at_ (k := k) (by simpa using hlt)
      have hck := hcell k _ (uv_get ls k hlt)
      have hxu : U64 (ls[k]?.getD 0) := hu _ (by rw [List.getElem?_eq_getElem hlt]; exact List.getElem_mem hlt)
      have hsucc := encs_take_succ ls k hlt
      generalize ls[k]?.getD 0 = x at hck hxu hsucc
      have Hl := Lib.hid hl
      have Hb := Lib.hid hb
      have Hsucc := Lib.hid hsucc
      clear hcell hl hb hsucc
      go_wp2_with (go_at_call 41; refine (one_any _ w.heap.size _ _ _ hxu hown hs (by rw [List.length_append]; omega)).mono ?_; rintro e w3 ⟨s3, rfl, h1, h2, h3⟩)
      go_roundw
      case rel =>
        refine ⟨k + 1, hlt, by go_num, ?_, own_below hbel hs hown h2⟩
        rw [Hsucc.out, ← List.append_assoc]
        exact h1
      case measure => simp [intOf]; omega
    · go_wp2_with fail
      go_ret
      have hk' : ls.take k = ls := List.take_of_length_le (by omega)
      rw [hk'] at hown
      obtain ⟨A2, c2, rfl, _⟩ := hown.form
      exact ⟨A2, c2, rfl, hown, hbel⟩
end Go.Proofs.Ytpeecgphmcihaaa

