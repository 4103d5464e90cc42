/- Frames: what is read of a frame's bytes, of less of them, of more, and of spoilt ones: plain. -/
import Derived.Test.YtkgmbpbbgkjidaaFrU
namespace Go.Proofs.Ytkgmbpbbgkjidaa
open Go.RowKit Go.Proofs.Ytkgmbpbbgkjidaa.Pl Go.Proofs.Ytkgmbpbbgkjidaa.Pc

def tailB (x : Fr) (t : List UInt8) : List UInt8 := enc x.p.length ++ (x.p ++ (fixF (sum x.body).toNat 4 ++ t))
theorem bytes_app (x : Fr) (t : List UInt8) : x.bytes ++ t = x.head ++ tailB x t := by
  unfold Fr.bytes sealS tailB
  rw [show x.body = x.head ++ enc x.p.length ++ x.p from rfl]
  simp only [List.append_assoc]
theorem head_nine (x : Fr) : x.head.length = 9 := by unfold Fr.head; simp [fixF_len]
theorem fix4 (g : Nat) : ∃ a b c d, fixF g 4 = [a, b, c, d] := by
  have h := fixF_len g 4
  match fixF g 4, h with
  | [a, b, c, d], _ => exact ⟨a, b, c, d, rfl⟩
theorem ofNat_small {n : Int} (h0 : 0 ≤ n) (h1 : n < 256) : (((UInt8.ofNat n.toNat).toNat : Nat) : Int) = n := by
  rw [UInt8.toNat_ofNat', Nat.mod_eq_of_lt (show n.toNat < 2 ^ 8 by omega)]
  omega
theorem head_at (x : Fr) (hr : x.right = true) (s : List UInt8) : (at_ (x.head ++ s) 2 : Int) = x.k ∧ (at_ (x.head ++ s) 7 : Int) = x.f ∧ (at_ (x.head ++ s) 8 : Int) = x.t ∧ (x.head ++ s).take 2 = [78, 82] ∧ ((x.head ++ s).drop 3).take 4 = fixF x.g 4 := by
  obtain ⟨h1, h2, h3⟩ := right_num hr
  obtain ⟨a, b, c, d, hg⟩ := fix4 x.g
  unfold Fr.head
  rw [hg]
  refine ⟨?_, ?_, ?_, by simp, by simp⟩
  · show (((UInt8.ofNat x.k.toNat).toNat : Nat) : Int) = x.k
    exact ofNat_small (by omega) (by omega)
  · show (((UInt8.ofNat x.f.toNat).toNat : Nat) : Int) = x.f
    exact ofNat_small (by omega) (by omega)
  · show (((UInt8.ofNat x.t.toNat).toNat : Nat) : Int) = x.t
    exact ofNat_small (by omega) (by omega)
theorem head_right (x : Fr) (hr : x.right = true) (s : List UInt8) : rightB (x.head ++ s) = true := by
  obtain ⟨h1, h2, h3, _⟩ := head_at x hr s
  unfold rightB
  rw [h1, h2, h3]
  exact hr
theorem head_of (x : Fr) (hr : x.right = true) (s : List UInt8) (limit : Int) : headS (x.head ++ s) limit =
    if (takeS s).2.2 = 0 then if (takeS s).1 ≤ 65536 ∧ 9 + (takeS s).2.1 + (takeS s).1 + 4 ≤ heldN limit then ((takeS s).2.1, (takeS s).1, 0) else (0, 0, 23) else (0, 0, (takeS s).2.2) := by
  have hl : (x.head ++ s).length = 9 + s.length := by rw [List.length_append, head_nine]
  have hd : (x.head ++ s).drop 9 = s := by rw [← head_nine x, List.drop_left]
  obtain ⟨_, _, _, h4, _⟩ := head_at x hr s
  rw [headS_num _ limit (by rw [h4, List.take_of_length_le (by rw [hl]; simp; omega)]) (by omega) (head_right x hr s), hd]
theorem head_full (x : Fr) (hr : x.right = true) (hp : x.p.length ≤ 65536) (t : List UInt8) (limit : Int) : headS (x.bytes ++ t) limit = if x.len ≤ heldN limit then ((enc x.p.length).length, x.p.length, 0) else (0, 0, 23) := by
  have ht : takeS (tailB x t) = (x.p.length, (enc x.p.length).length, 0) := take_enc _ (by omega) _
  rw [bytes_app, head_of x hr, ht, if_pos rfl]
  simp only
  have : (x.p.length ≤ 65536 ∧ 9 + (enc x.p.length).length + x.p.length + 4 ≤ heldN limit) ↔ x.len ≤ heldN limit := by unfold Fr.len; omega
  by_cases h : x.len ≤ heldN limit
  · rw [if_pos h, if_pos (this.2 h)]
  · rw [if_neg h, if_neg (fun g => h (this.1 g))]
theorem frOf_full (x : Fr) (hr : x.right = true) (hg : x.g < 4294967296) (t : List UInt8) : frOf (x.bytes ++ t) (enc x.p.length).length x.p.length = x := by
  unfold frOf
  have hd : (x.bytes ++ t).drop (9 + (enc x.p.length).length) = x.p ++ (fixF (sum x.body).toNat 4 ++ t) := by
    rw [bytes_app, ← head_nine x, ← List.drop_drop, List.drop_left]
    unfold tailB
    rw [List.drop_left]
  rw [hd, List.take_left]
  obtain ⟨h1, h2, h3, _, h5⟩ := head_at x hr (tailB x t)
  rw [bytes_app, h1, h2, h3, h5, bigF_fixF]
  simp only [Nat.zero_mul, Nat.zero_add]
  rw [Nat.mod_eq_of_lt (by omega)]
theorem read_full (x : Fr) (hr : x.right = true) (hp : x.p.length ≤ 65536) (hg : x.g < 4294967296) (limit : Int) (hl : x.len ≤ heldN limit) : readF x.bytes limit = (x, 0) := by
  have h := head_full x hr hp [] limit
  rw [List.append_nil, if_pos hl] at h
  unfold readF
  rw [h, if_pos rfl]
  unfold bodyF
  have hb : x.bytes.length = 9 + (enc x.p.length).length + x.p.length + 4 := bytes_len x
  simp only
  rw [if_neg (by omega), if_neg (by omega)]
  have ho : openS x.bytes = some x.body := open_seal _
  rw [ho, if_neg (by simp)]
  have := frOf_full x hr hg []
  rw [List.append_nil] at this
  rw [this]
theorem read_big (x : Fr) (hr : x.right = true) (hp : x.p.length ≤ 65536) (limit : Int) (hl : heldN limit < x.len) : readF x.bytes limit = (zeroF, 23) := by
  have h := head_full x hr hp [] limit
  rw [List.append_nil, if_neg (by omega)] at h
  unfold readF
  rw [h, if_neg (by simp)]
theorem cut_full (x : Fr) (hr : x.right = true) (hp : x.p.length ≤ 65536) (t : List UInt8) (limit : Int) (hl : x.len ≤ heldN limit) : cutF (x.bytes ++ t) limit = (x.bytes.length, 0) := by
  unfold cutF
  rw [head_full x hr hp t limit, if_pos hl, if_pos rfl, bytes_len]
  rfl
theorem read_more (x : Fr) (hr : x.right = true) (hp : x.p.length ≤ 65536) (t : List UInt8) (ht : t ≠ []) (limit : Int) (hl : x.len ≤ heldN limit) : readF (x.bytes ++ t) limit = (zeroF, 21) := by
  have ht' : 0 < t.length := List.length_pos_iff.2 ht
  unfold readF
  rw [head_full x hr hp t limit, if_pos hl, if_pos rfl]
  unfold bodyF
  have hb : (x.bytes ++ t).length = 9 + (enc x.p.length).length + x.p.length + 4 + t.length := by rw [List.length_append, bytes_len]; rfl
  simp only
  rw [if_neg (by omega), if_pos (by omega)]
/-- less of it -/
theorem head_less (x : Fr) (hr : x.right = true) (hp : x.p.length ≤ 65536) (n : Nat) (hn : n < x.len) (limit : Int) (hl : x.len ≤ heldN limit) :
    headS (x.bytes.take n) limit = if n < 9 + (enc x.p.length).length then (0, 0, 20) else ((enc x.p.length).length, x.p.length, 0) := by
  have hb := bytes_len x
  have hbb := bytes_app x []
  rw [List.append_nil] at hbb
  have hen := enc_len x.p.length
  by_cases h9 : n < 9
  · rw [if_pos (by omega)]
    have h2 : (x.bytes.take n).take 2 = ([78, 82] : List UInt8).take (x.bytes.take n).length := by
      obtain ⟨_, _, _, h4, _⟩ := head_at x hr (tailB x [])
      rw [← hbb] at h4
      have hln : (x.bytes.take n).length = n := by rw [List.length_take]; omega
      rw [hln, List.take_take, Nat.min_comm, ← List.take_take, h4]
    unfold headS
    rw [if_pos h2, if_pos (by rw [List.length_take]; omega)]
  · have ht : x.bytes.take n = x.head ++ (tailB x []).take (n - 9) := by
      rw [hbb, List.take_append, head_nine, List.take_of_length_le (by rw [head_nine]; omega)]
    rw [ht, head_of x hr]
    by_cases h : n < 9 + (enc x.p.length).length
    · rw [if_pos h]
      have : (tailB x []).take (n - 9) = (enc x.p.length).take (n - 9) := by
        unfold tailB
        rw [List.take_append_of_le_length (by omega)]
      rw [this, take_less _ _ (by omega) (by omega)]
      simp
    · rw [if_neg h]
      have : takeS ((tailB x []).take (n - 9)) = (x.p.length, (enc x.p.length).length, 0) := by
        refine take_take ?_ (by omega)
        exact take_enc _ (by omega) _
      rw [this, if_pos rfl]
      simp only
      rw [if_pos ⟨hp, hl⟩]
theorem read_less (x : Fr) (hr : x.right = true) (hp : x.p.length ≤ 65536) (n : Nat) (hn : n < x.len) (limit : Int) (hl : x.len ≤ heldN limit) : readF (x.bytes.take n) limit = (zeroF, 20) := by
  unfold readF
  rw [head_less x hr hp n hn limit hl]
  by_cases h : n < 9 + (enc x.p.length).length
  · rw [if_pos h, if_neg (by simp)]
  · rw [if_neg h, if_pos rfl]
    unfold bodyF
    have hb := bytes_len x
    have hlen : x.len = 9 + (enc x.p.length).length + x.p.length + 4 := rfl
    simp only
    rw [if_pos (by rw [List.length_take]; omega)]
theorem cut_less (x : Fr) (hr : x.right = true) (hp : x.p.length ≤ 65536) (n : Nat) (hn : n < x.len) (limit : Int) (hl : x.len ≤ heldN limit) : ∃ r1 r2, cutF (x.bytes.take n) limit = (r1, r2) ∧ (n < 10 → r2 = 20) ∧ (11 ≤ n → x.p.length < 16384 → r2 = 0 ∧ r1 = x.len) := by
  have hen := enc_len x.p.length
  unfold cutF
  rw [head_less x hr hp n hn limit hl]
  by_cases h : n < 9 + (enc x.p.length).length
  · rw [if_pos h, if_neg (by simp)]
    refine ⟨0, 20, rfl, fun _ => rfl, fun h1 h2 => ?_⟩
    have := (enc_len_le_iff x.p.length 1 (by omega)).2 (by simpa using h2)
    omega
  · rw [if_neg h, if_pos rfl]
    exact ⟨_, _, rfl, fun h1 => by omega, fun _ _ => ⟨rfl, rfl⟩⟩
/-- one byte is another one -/
theorem read_spoilt (x : Fr) (limit : Int) (j : Nat) (hj : j < x.bytes.length) (d : UInt8) (hd : d ≠ 0) : ∃ e0, e0 ≠ 0 ∧ readF (x.bytes.set j (x.bytes[j]?.getD 0 ^^^ d)) limit = (zeroF, e0) := by
  obtain ⟨y, e0, h⟩ : ∃ y e0, readF (x.bytes.set j (x.bytes[j]?.getD 0 ^^^ d)) limit = (y, e0) := ⟨_, _, rfl⟩
  have hne : e0 ≠ 0 := by
    intro he
    subst he
    obtain ⟨k, v, z, _, _, ho, _⟩ := read_ok h
    have := open_one x.body j (by simpa [Fr.bytes] using hj) d hd
    unfold Fr.bytes at ho
    rw [this] at ho
    cases ho
  exact ⟨e0, hne, by rw [h, read_err h hne]⟩
end Go.Proofs.Ytkgmbpbbgkjidaa

