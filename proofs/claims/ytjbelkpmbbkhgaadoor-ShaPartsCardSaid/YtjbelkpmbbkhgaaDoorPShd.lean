/- Digests: a digest of all at once (plain). -/
import Derived.Test.YtjbelkpmbbkhgaaDoorShX
namespace Go.Proofs.YtjbelkpmbbkhgaaDoor
open Go.RowKit Go.Proofs.YtjbelkpmbbkhgaaDoor.Sh

theorem bt_app (b c : List UInt8) (i : Nat) (h : i < b.length) : bt (b ++ c) i = bt b i := by
  unfold bt
  rw [List.getElem?_append_left h]
theorem spr_app (b c : List UInt8) (h : 64 ≤ b.length) : ∀ k, spr (b ++ c) k = spr b k
  | 0 => rfl
  | k + 1 => by
    rw [spr, spr, spr_app b c h k]
    by_cases hk : k < 16
    · rw [if_pos hk, if_pos hk]
      unfold word
      rw [bt_app b c _ (by omega), bt_app b c _ (by omega), bt_app b c _ (by omega), bt_app b c _ (by omega)]
    · rw [if_neg hk, if_neg hk]
theorem mixS_app (h : List Nat) (b c : List UInt8) (hb : 64 ≤ b.length) : mixS h (b ++ c) = mixS h b := by
  have hm : ∀ i, mixR (b ++ c) h i = mixR b h i := by
    intro i
    induction i with
    | zero => rfl
    | succ i ih => rw [mixR, mixR, ih, spr_app b c hb]
  unfold mixS
  rw [hm]
theorem mixK_app (h : List Nat) (a b : List UInt8) : ∀ k, 64 * k ≤ a.length → mixK h (a ++ b) k = mixK h a k
  | 0, _ => rfl
  | k + 1, hk => by
    rw [mixK, mixK, mixK_app h a b k (by omega), List.drop_append_of_le_length (by omega), mixS_app _ _ _ (by rw [List.length_drop]; omega)]
theorem mixK_add (h : List Nat) (l : List UInt8) (i : Nat) : ∀ j, mixK h l (i + j) = mixK (mixK h l i) (l.drop (64 * i)) j
  | 0 => rfl
  | j + 1 => by
    rw [← Nat.add_assoc, mixK, mixK, mixK_add h l i j, List.drop_drop]
    congr 2
    omega
/-- the state behind all bytes of m -/
def stW (m : List UInt8) : Hs := ⟨mixK Sh.start m (m.length / 64), m.drop (64 * (m.length / 64)), m.length % 18446744073709551616⟩
theorem stW_write (m l : List UInt8) : (stW m).write l = stW (m ++ l) := by
  have hd : m.drop (64 * (m.length / 64)) ++ l = (m ++ l).drop (64 * (m.length / 64)) := (List.drop_append_of_le_length (by omega)).symm
  have hlen : ((m ++ l).drop (64 * (m.length / 64))).length / 64 = (m ++ l).length / 64 - m.length / 64 := by
    rw [List.length_drop, List.length_append]; omega
  have hq : (m ++ l).length / 64 = m.length / 64 + ((m ++ l).length / 64 - m.length / 64) := by rw [List.length_append]; omega
  unfold stW Hs.write
  simp only
  rw [hd, hlen]
  have h1 : mixK Sh.start (m ++ l) ((m ++ l).length / 64) = mixK (mixK Sh.start m (m.length / 64)) ((m ++ l).drop (64 * (m.length / 64))) ((m ++ l).length / 64 - m.length / 64) := by
    rw [← mixK_app Sh.start m l _ (by omega : 64 * (m.length / 64) ≤ m.length), ← mixK_add, ← hq]
  have h2 : ((m ++ l).drop (64 * (m.length / 64))).drop (64 * ((m ++ l).length / 64 - m.length / 64)) = (m ++ l).drop (64 * ((m ++ l).length / 64)) := by
    rw [List.drop_drop, ← Nat.mul_add, ← hq]
  rw [h1, h2]
  congr 1
  rw [List.length_append]
  omega
theorem stW_nil : stW [] = new0 := rfl
theorem foldW_flat (ls : List (List UInt8)) : ∀ m, ls.foldl Hs.write (stW m) = stW (m ++ ls.flatten) := by
  induction ls with
  | nil => intro m; simp
  | cons a ls ih => intro m; rw [List.foldl_cons, stW_write, ih, List.flatten_cons, List.append_assoc]
def digM (m : List UInt8) : List UInt8 := (m ++ [128] ++ List.replicate ((119 - m.length % 64) % 64) 0) ++ be8 (m.length * 8 % 18446744073709551616) 8
def dgS (m : List UInt8) : List UInt8 := idOf (mixK Sh.start (digM m) ((digM m).length / 64)) 32
theorem digM_len (m : List UInt8) : (digM m).length % 64 = 0 := by
  simp only [digM, List.length_append, List.length_replicate, be8_len, List.length_singleton]
  omega
theorem stW_sum (m : List UInt8) : (stW m).sum = dgS m := by
  have hr : (stW m).r.length = m.length % 64 := by simp only [stW, List.length_drop]; omega
  have hlast : digM m = m.take (64 * (m.length / 64)) ++ (stW m).last := by
    have hn : (stW m).n * 8 % 18446744073709551616 = m.length * 8 % 18446744073709551616 := by simp only [stW]; omega
    have hrr : (stW m).r = m.drop (64 * (m.length / 64)) := rfl
    unfold Hs.last digM
    rw [hn, hr, hrr]
    unfold zs
    rw [← List.append_assoc, ← List.append_assoc, ← List.append_assoc, List.take_append_drop]
  have htl : (m.take (64 * (m.length / 64))).length = 64 * (m.length / 64) := by rw [List.length_take]; omega
  have hL : (digM m).length = 64 * (m.length / 64) + (stW m).last.length := by rw [hlast, List.length_append, htl]
  have hq : (digM m).length / 64 = m.length / 64 + (stW m).last.length / 64 := by omega
  have hd : (digM m).drop (64 * (m.length / 64)) = (stW m).last := by
    rw [hlast, List.drop_append_of_le_length (by omega), List.drop_of_length_le (by omega), List.nil_append]
  have hm1 : mixK Sh.start (digM m) (m.length / 64) = mixK Sh.start m (m.length / 64) := by
    have e1 := mixK_app Sh.start (m.take (64 * (m.length / 64))) (stW m).last (m.length / 64) (by omega)
    have e2 := mixK_app Sh.start (m.take (64 * (m.length / 64))) (m.drop (64 * (m.length / 64))) (m.length / 64) (by omega)
    rw [List.take_append_drop] at e2
    rw [hlast, e1, e2]
  unfold Hs.sum dgS
  rw [hq, mixK_add, hd, hm1]
  rfl
theorem sumS_flat (ls : List (List UInt8)) : sumS ls = dgS ls.flatten := by
  unfold sumS
  rw [← stW_nil, foldW_flat, List.nil_append, stW_sum]
end Go.Proofs.YtjbelkpmbbkhgaaDoor

