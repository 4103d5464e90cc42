/- Vectors: less bytes tell that they are short; bytes that tell a vector are its bytes. -/
import Derived.Lib.Varint
import Derived.Outline
import Derived.Handy
import Derived.Test.YtaflikgdlkaefaaM00
import Derived.Test.YtaflikgdlkaefaaM01
import Derived.Test.YtaflikgdlkaefaaM09
import Derived.Test.YtaflikgdlkaefaaM10
import Derived.Test.YtaflikgdlkaefaaM13
namespace Go.Proofs.Ytaflikgdlkaefaa.Ve
open Go.Proofs.Ytaflikgdlkaefaa.Sp Go.Proofs.Ytaflikgdlkaefaa.Dt Go.Proofs.Ytaflikgdlkaefaa.Pl

theorem run_ext : ∀ (l t : List UInt8), run l < l.length → run (l ++ t) = run l
  | [], t, h => by simp [run] at h
  | c :: l, t, h => by
    rw [List.cons_append]
    unfold run at h ⊢
    by_cases hc : 128 ≤ c.toNat
    · rw [if_pos hc] at h ⊢
      rw [if_pos hc, run_ext l t (by simpa using h)]
    · rw [if_neg hc, if_neg hc]
theorem run_ext_ge : ∀ (l t : List UInt8), run l ≤ run (l ++ t)
  | [], t => by simp [run]
  | c :: l, t => by
    rw [List.cons_append]
    unfold run
    have := run_ext_ge l t
    split <;> omega
theorem at_ext (l t : List UInt8) {k : Nat} (h : k < l.length) : at_ (l ++ t) k = at_ l k := by
  unfold at_
  rw [List.getElem?_append_left h]
theorem takeS_ext {l : List UInt8} (t : List UInt8) (h : (takeS l).2.2 ≠ 20) : takeS (l ++ t) = takeS l := by
  have hr := run_le l
  by_cases h1 : 10 ≤ run l
  · rw [takeS_ten l h1, takeS_ten (l ++ t) (Nat.le_trans h1 (run_ext_ge l t))]
  · by_cases h2 : run l = l.length
    · rw [takeS_short l h2 (by omega)] at h
      exact absurd rfl h
    · have h3 : run l < l.length := by omega
      have h4 := run_ext l t h3
      rw [takeS_at l _ rfl, takeS_at (l ++ t) _ h4]
      rw [if_neg h1, if_neg h1, if_neg h2, if_neg (by rw [List.length_append]; omega), at_ext l t h3, List.take_append_of_le_length (by omega)]
theorem takeS_le (l : List UInt8) : (takeS l).2.1 ≤ l.length := by
  by_cases h : (takeS l).2.2 = 0
  · exact (takeS_ok l h).2.2.1
  · rw [(takeS_bad l h).2]; exact Nat.zero_le _
theorem twoS_ext {b : List UInt8} (t : List UInt8) (h : (twoS b).2.2.2 ≠ 20) : twoS (b ++ t) = twoS b := by
  unfold twoS at h ⊢
  have e1 : (takeS b).2.2 ≠ 20 := by
    intro e
    rw [e] at h
    exact absurd rfl h
  rw [takeS_ext t e1]
  by_cases h1 : (takeS b).2.2 ≠ 0
  · rw [if_pos h1, if_pos h1]
  rw [if_neg h1] at h
  rw [if_neg h1, if_neg h1]
  rw [List.drop_append_of_le_length (takeS_le b)]
  have e2 : (takeS (b.drop (takeS b).2.1)).2.2 ≠ 20 := by
    intro e
    rw [e] at h
    exact absurd rfl h
  rw [takeS_ext t e2]
theorem twoS_le (b : List UInt8) : (twoS b).2.2.1 ≤ b.length := by
  by_cases h : (twoS b).2.2.2 = 0
  · obtain ⟨x, y, n, e⟩ : ∃ x y n, twoS b = (x, y, n, 0) := ⟨_, _, _, by rw [← h]⟩
    rw [e]
    exact (twoS_ok e).2.1
  · rw [twoS_bad h]; exact Nat.zero_le _
theorem twoS_drop_le (b : List UInt8) {k : Nat} (hk : k ≤ b.length) : k + (twoS (b.drop k)).2.2.1 ≤ b.length := by
  have := twoS_le (b.drop k)
  rw [List.length_drop] at this
  omega
theorem goG_ext (b t : List UInt8) : ∀ (m : Nat) (o : List Rg) (e k : Nat), k ≤ b.length → (goG b m o e k).2.2 ≠ 20 → goG (b ++ t) m o e k = goG b m o e k
  | 0, _, _, _, _, _ => rfl
  | m + 1, o, e, k, hk, h => by
    rw [goG] at h ⊢
    conv => rhs; rw [goG]
    have e1 : (twoS (b.drop k)).2.2.2 ≠ 20 := by
      intro e1
      rw [e1] at h
      exact absurd rfl h
    rw [List.drop_append_of_le_length hk, twoS_ext t e1]
    by_cases h1 : (twoS (b.drop k)).2.2.2 ≠ 0
    · rw [if_pos h1, if_pos h1]
    rw [if_neg h1] at h
    rw [if_neg h1, if_neg h1]
    by_cases h2 : Mx < e + 2 + min (twoS (b.drop k)).1 Mx + min (twoS (b.drop k)).2.1 Mx
    · rw [if_pos h2, if_pos h2]
    rw [if_neg h2] at h
    rw [if_neg h2, if_neg h2]
    exact goG_ext b t m _ _ _ (twoS_drop_le b hk) h
theorem goG_le (b : List UInt8) : ∀ (m : Nat) (o : List Rg) (e k : Nat), k ≤ b.length → (goG b m o e k).2.1 ≤ b.length
  | 0, _, _, _, hk => hk
  | m + 1, o, e, k, hk => by
    rw [goG]
    split
    · exact Nat.zero_le _
    · split
      · exact Nat.zero_le _
      · exact goG_le b m _ _ _ (twoS_drop_le b hk)
theorem rowS_ext {b : List UInt8} (t : List UInt8) {k : Nat} (hk : k ≤ b.length) (h : (rowS b k).2.2 ≠ 20) : rowS (b ++ t) k = rowS b k := by
  unfold rowS at h ⊢
  have e1 : (twoS (b.drop k)).2.2.2 ≠ 20 := by
    intro e1
    rw [e1] at h
    exact absurd rfl h
  rw [List.drop_append_of_le_length hk, twoS_ext t e1]
  by_cases h1 : (twoS (b.drop k)).2.2.2 ≠ 0
  · rw [if_pos h1, if_pos h1]
  rw [if_neg h1] at h
  rw [if_neg h1, if_neg h1]
  by_cases h2 : Mx < (twoS (b.drop k)).1 ∨ (twoS (b.drop k)).1 = 0 ∧ (twoS (b.drop k)).2.1 = 0
  · rw [if_pos h2, if_pos h2]
  rw [if_neg h2] at h
  rw [if_neg h2, if_neg h2]
  exact goG_ext b t _ _ _ _ (twoS_drop_le b hk) h
theorem rowS_le (b : List UInt8) {k : Nat} (hk : k ≤ b.length) : (rowS b k).2.1 ≤ b.length := by
  unfold rowS
  split
  · exact Nat.zero_le _
  · split
    · exact Nat.zero_le _
    · exact goG_le b _ _ _ _ (twoS_drop_le b hk)
theorem goT_ext (b t : List UInt8) : ∀ (m : Nat) (V : VL) (last : Int) (k : Nat), k ≤ b.length → (goT b m V last k).2.2 ≠ 20 → goT (b ++ t) m V last k = goT b m V last k
  | 0, _, _, _, _, _ => rfl
  | m + 1, V, last, k, hk, h => by
    rw [goT] at h ⊢
    conv => rhs; rw [goT]
    by_cases h0 : b.length ≤ k
    · rw [if_pos h0] at h; exact absurd rfl h
    rw [if_neg h0] at h
    rw [if_neg h0, if_neg (by rw [List.length_append]; omega), at_ext b t (by omega)]
    by_cases h1 : 64 ≤ at_ b k ∨ (at_ b k : Int) ≤ last
    · rw [if_pos h1, if_pos h1]
    rw [if_neg h1] at h
    rw [if_neg h1, if_neg h1]
    have e1 : (rowS b (k + 1)).2.2 ≠ 20 := by
      intro e1
      rw [e1] at h
      exact absurd rfl h
    rw [rowS_ext t (by omega) e1]
    by_cases h2 : (rowS b (k + 1)).2.2 ≠ 0
    · rw [if_pos h2, if_pos h2]
    rw [if_neg h2] at h
    rw [if_neg h2, if_neg h2]
    exact goT_ext b t m _ _ _ (rowS_le b (by omega)) h
theorem takeV_ext {b : List UInt8} (t : List UInt8) (h : (takeV b).2.2 ≠ 20) : takeV (b ++ t) = takeV b := by
  unfold takeV at h ⊢
  have e1 : (takeS b).2.2 ≠ 20 := by
    intro e
    rw [e] at h
    exact absurd rfl h
  rw [takeS_ext t e1]
  by_cases h1 : (takeS b).2.2 ≠ 0
  · rw [if_pos h1, if_pos h1]
  rw [if_neg h1] at h
  rw [if_neg h1, if_neg h1]
  by_cases h2 : (takeS b).1 > 64
  · rw [if_pos h2, if_pos h2]
  rw [if_neg h2] at h
  rw [if_neg h2, if_neg h2]
  exact goT_ext b t _ _ _ _ (takeS_le b) h
theorem goT_le (b : List UInt8) : ∀ (m : Nat) (V : VL) (last : Int) (k : Nat), k ≤ b.length → (goT b m V last k).2.1 ≤ b.length
  | 0, _, _, _, hk => hk
  | m + 1, V, last, k, hk => by
    rw [goT]
    split
    · exact Nat.zero_le _
    · split
      · exact Nat.zero_le _
      · split
        · exact Nat.zero_le _
        · exact goT_le b m _ _ _ (rowS_le b (by omega))
theorem takeV_le (b : List UInt8) : (takeV b).2.1 ≤ b.length := by
  unfold takeV
  split
  · exact Nat.zero_le _
  · split
    · exact Nat.zero_le _
    · exact goT_le b _ _ _ _ (takeS_le b)
theorem goG_bad (b : List UInt8) : ∀ (m : Nat) (o : List Rg) (e k : Nat), (goG b m o e k).2.2 ≠ 0 → goG b m o e k = ([], 0, (goG b m o e k).2.2)
  | 0, _, _, _, h => absurd rfl h
  | m + 1, o, e, k, h => by
    rw [goG] at h ⊢
    split
    · rfl
    · rename_i h1
      rw [if_neg h1] at h
      split
      · rfl
      · rename_i h2
        rw [if_neg h2] at h
        exact goG_bad b m _ _ _ h
theorem rowS_bad {b : List UInt8} {k : Nat} (h : (rowS b k).2.2 ≠ 0) : rowS b k = ([], 0, (rowS b k).2.2) := by
  unfold rowS at h ⊢
  split
  · rfl
  · rename_i h1
    rw [if_neg h1] at h
    split
    · rfl
    · rename_i h2
      rw [if_neg h2] at h
      exact goG_bad b _ _ _ _ h
theorem goT_bad (b : List UInt8) : ∀ (m : Nat) (V : VL) (last : Int) (k : Nat), (goT b m V last k).2.2 ≠ 0 → goT b m V last k = ([], 0, (goT b m V last k).2.2)
  | 0, _, _, _, h => absurd rfl h
  | m + 1, V, last, k, h => by
    rw [goT] at h ⊢
    split
    · rfl
    · rename_i h1
      rw [if_neg h1] at h
      split
      · rfl
      · rename_i h2
        rw [if_neg h2] at h
        split
        · rfl
        · rename_i h3
          rw [if_neg h3] at h
          exact goT_bad b m _ _ _ h
theorem takeV_bad {b : List UInt8} (h : (takeV b).2.2 ≠ 0) : takeV b = ([], 0, (takeV b).2.2) := by
  unfold takeV at h ⊢
  split
  · rfl
  · rename_i h1
    rw [if_neg h1] at h
    split
    · rfl
    · rename_i h2
      rw [if_neg h2] at h
      exact goT_bad b _ _ _ _ h
/-- less of a vector's bytes is short -/
theorem takeV_less {V : VL} (h : rightV V = true) (hlen : ∀ p ∈ V, p.2.length < 18446744073709551616) {k : Nat} (hk : k < (bytesV V).length) : takeV ((bytesV V).take k) = ([], 0, 20) := by
  have h1 := takeV_bytes h hlen []
  rw [List.append_nil] at h1
  by_cases h2 : (takeV ((bytesV V).take k)).2.2 = 20
  · rw [takeV_bad (by omega), h2]
  · have h3 := takeV_ext ((bytesV V).drop k) h2
    rw [List.take_append_drop, h1] at h3
    have h4 := takeV_le ((bytesV V).take k)
    rw [← h3, List.length_take] at h4
    dsimp only at h4
    omega
theorem goG_ok (b : List UInt8) : ∀ (m : Nat) (o : List Rg) (e k : Nat), (goG b m o e k).2.2 = 0 → k ≤ b.length →
    ∃ l : List Rg, (goG b m o e k).1 = o ++ l ∧ l.length = m ∧ okR ((e : Int) + 2) l = true ∧ (goG b m o e k).2.1 = k + (encs (gapsN (e : Int) l)).length ∧ encs (gapsN (e : Int) l) = (b.drop k).take (encs (gapsN (e : Int) l)).length ∧ (goG b m o e k).2.1 ≤ b.length
  | 0, o, e, k, _, hk => ⟨[], by simp [goG], rfl, rfl, by simp [goG, gapsN, encs], by simp [gapsN, encs], hk⟩
  | m + 1, o, e, k, h, hk => by
    rw [goG] at h ⊢
    by_cases h1 : (twoS (b.drop k)).2.2.2 ≠ 0
    · rw [if_pos h1] at h; exact absurd h h1
    rw [if_neg h1] at h
    rw [if_neg h1]
    obtain ⟨x, y, n, he⟩ : ∃ x y n, twoS (b.drop k) = (x, y, n, 0) := ⟨_, _, _, by rw [← Decidable.not_not.1 h1]⟩
    obtain ⟨t1, t2, t3, t4, t5⟩ := twoS_ok he
    rw [List.length_drop] at t2
    simp only [he] at h ⊢
    by_cases h2 : Mx < e + 2 + min x Mx + min y Mx
    · rw [if_pos h2] at h; simp at h
    rw [if_neg h2] at h
    rw [if_neg h2]
    obtain ⟨l, l1, l2, l3, l4, l5, l6⟩ := goG_ok b m _ _ _ h (by omega)
    have hx : min x Mx = x := by unfold Mx at h2 ⊢; omega
    have hy : min y Mx = y := by unfold Mx at h2 ⊢; omega
    rw [hx, hy] at h2
    unfold Mx at h2
    have hg : gapsN (e : Int) (⟨((e + 2 + x : Nat) : Int), ((e + 2 + x + y : Nat) : Int)⟩ :: l) = [x, y] ++ gapsN ((e + 2 + x + y : Nat) : Int) l := by
      rw [gapsN]
      dsimp only
      have e1 : (((e + 2 + x : Nat) : Int) - (e : Int) - 2).toNat = x := by omega
      have e2 : (((e + 2 + x + y : Nat) : Int) - ((e + 2 + x : Nat) : Int)).toNat = y := by omega
      rw [e1, e2]
      rfl
    have hn : (encs [x, y]).length = n := by rw [t3, List.length_take, List.length_drop]; omega
    refine ⟨⟨((e + 2 + x : Nat) : Int), ((e + 2 + x + y : Nat) : Int)⟩ :: l, by rw [l1]; simp, by simp [l2], okR_cons.2 ⟨by dsimp only; omega, ok_iff.2 ⟨by dsimp only; omega, by dsimp only; omega, by dsimp only; unfold mx; omega⟩, l3⟩, ?_, ?_, l6⟩
    · rw [l4, hg, encs_append, List.length_append, hn]; omega
    · rw [hg, encs_append, List.length_append, hn, List.take_add, ← t3, List.drop_drop, ← l5]
theorem rowS_ok {b : List UInt8} {k : Nat} (h : (rowS b k).2.2 = 0) (hk : k ≤ b.length) :
    ∃ l : List Rg, (rowS b k).1 = l ∧ l ≠ [] ∧ right l = true ∧ (rowS b k).2.1 = k + (encs (rowN l)).length ∧ encs (rowN l) = (b.drop k).take (encs (rowN l)).length ∧ (rowS b k).2.1 ≤ b.length := by
  unfold rowS at h ⊢
  by_cases h1 : (twoS (b.drop k)).2.2.2 ≠ 0
  · rw [if_pos h1] at h; exact absurd h h1
  rw [if_neg h1] at h
  rw [if_neg h1]
  obtain ⟨x, y, n, he⟩ : ∃ x y n, twoS (b.drop k) = (x, y, n, 0) := ⟨_, _, _, by rw [← Decidable.not_not.1 h1]⟩
  obtain ⟨t1, t2, t3, t4, t5⟩ := twoS_ok he
  rw [List.length_drop] at t2
  simp only [he] at h ⊢
  by_cases h2 : Mx < x ∨ x = 0 ∧ y = 0
  · rw [if_pos h2] at h; simp at h
  rw [if_neg h2] at h
  rw [if_neg h2]
  obtain ⟨l, l1, l2, l3, l4, l5, l6⟩ := goG_ok b y _ _ _ h (by omega)
  have hx : x ≤ 1099511627775 := by
    unfold Mx at h2; omega
  have hn : (encs [x, y]).length = n := by rw [t3, List.length_take, List.length_drop]; omega
  have hfe : right (baseR x ++ l) = true ∧ firstS (baseR x ++ l) = (x : Int) ∧ extraS (baseR x ++ l) = l := by
    unfold baseR
    by_cases hx0 : 0 < x
    · rw [if_pos hx0]
      have hr : right ([⟨1, (x : Int)⟩] ++ l) = true := okR_cons.2 ⟨by dsimp only; omega, ok_iff.2 ⟨by dsimp only; omega, by dsimp only; omega, by dsimp only; unfold mx; omega⟩, l3⟩
      have hf : firstS ([⟨1, (x : Int)⟩] ++ l) = (x : Int) := by rw [firstS, if_pos hr]; rfl
      refine ⟨hr, hf, ?_⟩
      unfold extraS
      rw [hf, if_pos (by omega)]
      rfl
    · obtain rfl : x = 0 := by omega
      rw [if_neg hx0, List.nil_append]
      have hr : right l = true := okR_mono (by simp) l3
      have hf : firstS l = 0 := by
        rw [firstS, if_pos hr]
        cases l with
        | nil => rfl
        | cons z t =>
          have := (okR_cons.1 l3).1
          unfold firstR
          dsimp only
          rw [if_neg (by simp at this; omega)]
      refine ⟨hr, by rw [hf]; rfl, ?_⟩
      unfold extraS
      rw [hf, if_neg (by omega)]
  have hrn : rowN (baseR x ++ l) = [x, y] ++ gapsN (x : Int) l := by
    rw [rowN, hfe.2.1, hfe.2.2, l2]
    rfl
  refine ⟨baseR x ++ l, l1, ?_, hfe.1, ?_, ?_, l6⟩
  · intro e
    have h3 := congrArg List.length e
    rw [List.length_append, l2] at h3
    unfold baseR at h3
    split at h3
    · simp at h3
    · simp at h3; omega
  · rw [l4, hrn, encs_append, List.length_append, hn]; omega
  · rw [hrn, encs_append, List.length_append, hn, List.take_add, ← t3, List.drop_drop, ← l5]
theorem flatV_cons (p : Int × List Rg) (V : VL) : flatV (p :: V) = rowB p ++ flatV V := by simp [flatV]
theorem drop_at {b : List UInt8} {k : Nat} (h : k < b.length) : (b.drop k).take 1 = [UInt8.ofNat (at_ b k)] := by
  have e : at_ b k = b[k].toNat := by
    unfold at_
    rw [List.getElem?_eq_getElem h]
    rfl
  rw [List.drop_eq_getElem_cons h, e, UInt8.ofNat_toNat]
  rfl
theorem goT_ok (b : List UInt8) : ∀ (m : Nat) (V : VL) (last : Int) (k : Nat), (goT b m V last k).2.2 = 0 → k ≤ b.length → -1 ≤ last →
    ∃ U : VL, (goT b m V last k).1 = V ++ U ∧ U.length = m ∧ okV last U = true ∧ (goT b m V last k).2.1 = k + (flatV U).length ∧ flatV U = (b.drop k).take (flatV U).length ∧ (goT b m V last k).2.1 ≤ b.length
  | 0, V, last, k, _, hk, _ => ⟨[], by simp [goT], rfl, rfl, by simp [goT, flatV], by simp [flatV], hk⟩
  | m + 1, V, last, k, h, hk, hl => by
    rw [goT] at h ⊢
    by_cases h0 : b.length ≤ k
    · rw [if_pos h0] at h; simp at h
    rw [if_neg h0] at h
    rw [if_neg h0]
    by_cases h1 : 64 ≤ at_ b k ∨ (at_ b k : Int) ≤ last
    · rw [if_pos h1] at h; simp at h
    rw [if_neg h1] at h
    rw [if_neg h1]
    by_cases h2 : (rowS b (k + 1)).2.2 ≠ 0
    · rw [if_pos h2] at h; exact absurd h h2
    rw [if_neg h2] at h
    rw [if_neg h2]
    obtain ⟨l, l1, l2, l3, l4, l5, l6⟩ := rowS_ok (b := b) (k := k + 1) (Decidable.not_not.1 h2) (by omega)
    obtain ⟨U, u1, u2, u3, u4, u5, u6⟩ := goT_ok b m _ _ _ h l6 (by omega)
    have hrb : rowB ((at_ b k : Int), l) = (b.drop k).take (1 + (encs (rowN l)).length) := by
      rw [List.take_add, drop_at (by omega), List.drop_drop, ← l5]
      rfl
    have hrl : (rowB ((at_ b k : Int), l)).length = 1 + (encs (rowN l)).length := by unfold rowB; simp; omega
    rw [l1] at u1
    refine ⟨((at_ b k : Int), l) :: U, by rw [l1, u1]; simp, by simp [u2], okV_cons.2 ⟨by dsimp only; omega, by dsimp only; omega, l2, l3, u3⟩, ?_, ?_, u6⟩
    · rw [u4, l4, flatV_cons, List.length_append, hrl]; omega
    · rw [flatV_cons, List.length_append, hrl, List.take_add, ← hrb, List.drop_drop]
      rw [l4, show k + 1 + (encs (rowN l)).length = k + (1 + (encs (rowN l)).length) by omega] at u5
      rw [← u5]
/-- bytes that tell a vector are its bytes -/
theorem takeV_ok {b : List UInt8} (h : (takeV b).2.2 = 0) : rightV (takeV b).1 = true ∧ 1 ≤ (takeV b).2.1 ∧ (takeV b).2.1 ≤ b.length ∧ bytesV (takeV b).1 = b.take (takeV b).2.1 := by
  have hle := takeV_le b
  unfold takeV at h hle ⊢
  by_cases h1 : (takeS b).2.2 ≠ 0
  · rw [if_pos h1] at h; exact absurd h h1
  rw [if_neg h1] at h hle
  rw [if_neg h1]
  by_cases h2 : (takeS b).1 > 64
  · rw [if_pos h2] at h; simp at h
  rw [if_neg h2] at h hle
  rw [if_neg h2]
  obtain ⟨k1, _, k3, k4, _⟩ := takeS_ok b (by omega)
  obtain ⟨U, u1, u2, u3, u4, u5, u6⟩ := goT_ok b _ _ _ _ h k3 (by omega)
  rw [List.nil_append] at u1
  have hr : rightV (goT b (takeS b).1 [] (-1) (takeS b).2.1).1 = true := by rw [u1]; exact u3
  refine ⟨hr, by rw [u4]; omega, hle, ?_⟩
  rw [bytesV, if_pos hr, u1, u2, u4, List.take_add, ← u5, ← k4]
theorem enc_len_small {V : VL} (h : rightV V = true) : 1 ≤ (bytesV V).length := by
  rw [bytesV, if_pos h, List.length_append]
  have := enc_len V.length
  omega
end Go.Proofs.Ytaflikgdlkaefaa.Ve
/- Vectors: a row's numbers, one range behind the other. -/
namespace Go.Proofs.Ytaflikgdlkaefaa.Ve
open Go.Proofs.Ytaflikgdlkaefaa.Sp Go.Proofs.Ytaflikgdlkaefaa.Dt Go.Proofs.Ytaflikgdlkaefaa.Pl

def endG (e : Int) : List Rg → Int
  | [] => e
  | x :: t => endG x.b t
theorem gaps_append : ∀ (a b : List Rg) (e : Int), gapsN e (a ++ b) = gapsN e a ++ gapsN (endG e a) b
  | [], b, e => rfl
  | x :: a, b, e => by rw [List.cons_append, gapsN, gapsN, gaps_append a b x.b]; rfl
theorem endG_append : ∀ (a b : List Rg) (e : Int), endG e (a ++ b) = endG (endG e a) b
  | [], b, e => rfl
  | x :: a, b, e => by rw [List.cons_append, endG, endG, endG_append a b x.b]
theorem gaps_step {l : List Rg} {k : Nat} {x : Rg} (h : l[k]? = some x) (e : Int) : gapsN e (l.take (k + 1)) = gapsN e (l.take k) ++ [(x.a - endG e (l.take k) - 2).toNat, (x.b - x.a).toNat] := by
  rw [List.take_add_one, h, Option.toList_some, gaps_append]
  rfl
theorem endG_step {l : List Rg} {k : Nat} {x : Rg} (h : l[k]? = some x) (e : Int) : endG e (l.take (k + 1)) = x.b := by
  rw [List.take_add_one, h, Option.toList_some, endG_append]
  rfl
theorem okR_at : ∀ {l : List Rg} {e : Int} {k : Nat} {x : Rg}, okR (e + 2) l = true → 0 ≤ e → l[k]? = some x → 0 ≤ endG e (l.take k) ∧ endG e (l.take k) + 2 ≤ x.a ∧ x.a ≤ x.b ∧ x.b ≤ 1099511627775
  | [], e, k, x, _, _, h => by simp at h
  | y :: l, e, 0, x, ho, he, h => by
    obtain ⟨h1, h2, h3⟩ := okR_cons.1 ho
    rw [ok_iff] at h2
    unfold mx at h2
    have : y = x := by simpa using h
    subst this
    exact ⟨he, h1, h2.2.1, h2.2.2⟩
  | y :: l, e, k + 1, x, ho, he, h => by
    obtain ⟨h1, h2, h3⟩ := okR_cons.1 ho
    rw [ok_iff] at h2
    rw [List.take_succ_cons, endG]
    exact okR_at h3 (by omega) (by simpa using h)
theorem gaps_lt : ∀ {l : List Rg} {e : Int}, okR (e + 2) l = true → 0 ≤ e → ∀ n ∈ gapsN e l, n < 18446744073709551616
  | [], e, _, _, n, hn => by simp [gapsN] at hn
  | y :: l, e, ho, he, n, hn => by
    obtain ⟨h1, h2, h3⟩ := okR_cons.1 ho
    rw [ok_iff] at h2
    unfold mx at h2
    rw [gapsN] at hn
    rcases List.mem_cons.1 hn with rfl | hn
    · omega
    · rcases List.mem_cons.1 hn with rfl | hn
      · omega
      · exact gaps_lt h3 (by omega) n hn
theorem rowN_len (l : List Rg) : (rowN l).length ≤ 2 * l.length + 2 := by
  have h : (extraS l).length ≤ l.length := by
    unfold extraS
    split
    · rw [List.length_drop]; omega
    · exact Nat.le_refl _
  simp only [rowN, List.length_cons, gapsN_len]
  omega
theorem rowB_len (p : Int × List Rg) : (rowB p).length ≤ 20 * p.2.length + 21 := by
  have h1 := encs_len (rowN p.2)
  have h2 := rowN_len p.2
  simp only [rowB, List.length_cons]
  omega
theorem flatV_len {m : Nat} : ∀ {V : VL}, (∀ p ∈ V, p.2.length ≤ m) → (flatV V).length ≤ V.length * (20 * m + 21)
  | [], _ => by simp [flatV]
  | p :: V, h => by
    have h1 := flatV_len (m := m) (V := V) fun q hq => h q (by simp [hq])
    have h2 := rowB_len p
    have h3 := h p (by simp)
    rw [flatV_cons, List.length_append, List.length_cons, Nat.add_mul]
    omega
theorem part_at {V : VL} {k : Nat} {p : Int × List Rg} (h : V[k]? = some p) (hap : V.Pairwise fun p q => p.1 < q.1) : partV V p.1 = p.2 := by
  unfold partV
  have hp := List.mem_of_getElem? h
  have : look V p.1 = some p.2 := find_mem (hap.imp fun {a b} hab e => by omega) (by obtain ⟨a, b⟩ := p; exact hp)
  rw [this]
  rfl
theorem flatV_step {V : VL} {k : Nat} {p : Int × List Rg} (h : V[k]? = some p) : flatV (V.take (k + 1)) = flatV (V.take k) ++ rowB p := by
  rw [List.take_add_one, h, Option.toList_some]
  simp [flatV]
theorem rowN_lt {l : List Rg} (h : right l = true) (hl : l.length < 1000000) : ∀ n ∈ rowN l, n < 18446744073709551616 := by
  obtain ⟨h1, h2, h3, h4⟩ := first_extra h
  unfold mx at h2
  have hel : (extraS l).length ≤ l.length := by
    have := congrArg List.length h4
    rw [List.length_append] at this
    omega
  intro n hn
  unfold rowN at hn
  rcases List.mem_cons.1 hn with rfl | hn
  · omega
  · rcases List.mem_cons.1 hn with rfl | hn
    · omega
    · exact gaps_lt h3 h1 n hn
end Go.Proofs.Ytaflikgdlkaefaa.Ve
/- Vectors: vector.Extra, Has. -/
namespace Go.Proofs.Ytaflikgdlkaefaa
open Go.RowKit Go.Maps Go.Proofs.Ytaflikgdlkaefaa.Pl Go.Proofs.Ytaflikgdlkaefaa.Sp Go.Proofs.Ytaflikgdlkaefaa.Ve
set_option maxRecDepth 20000

theorem mval {P : Program} {ops : Array Oper} {Q : Exit → Act → World → Prop} {rest : List Oper} {o : Oper} {a : Act} {w : World} {v : Value} (hg : o.guard = none) (hx : (execOp a.eval o).run P w = .ok (.value v) w)
    (hK : wpList P ops Q rest (a.put o.dst v) w) : wpList P ops Q (o :: rest) a w := by
  refine wpList_plain hg fun K' hK' => ?_
  unfold Oper.wp
  rw [hx]
  exact hK' _ _ hK
set_option maxRecDepth 100000 in
set_option maxHeartbeats 3200000 in
theorem extra_any (w : World) (A : Option Addr) (n c : Nat) (l : List Rg) (hb : Sl w w.heap.size A (rv l)) (h0 : n = l.length) (hl : n ≤ 1000000000) (hc : n ≤ c) (hcm : c ≤ maxLen) :
    Calls Try.prog 40 #[.slice A n c] w (RAns w (extraS l)) := by
  have HR := Lib.hid (RFirst_any w A n c l hb h0 hl)
  by_cases hf : 0 < firstS l
  · have hd1 : decide (0 < firstS l) = true := decide_eq_true hf
    have hpos : 1 ≤ n := by
      rcases Nat.eq_zero_or_pos n with h | h
      · rw [h0] at h
        rw [List.eq_nil_of_length_eq_zero h] at hf
        exact absurd hf (by decide)
      · exact h
    obtain ⟨A2, hs2, hS2⟩ := sl_postR A n c 1 hpos hc
    have HF := Lib.hid (show extraS l = l.drop 1 by rw [extraS, if_pos hf])
    have HSL := Lib.hid hs2
    have HS := Lib.hid hS2
    have HN := Lib.hid h0
    clear hf hs2 hS2 h0
    go_enter Try.func40, Try.ntmps40
    go_wp2_with fail
    refine HR.out.mono ?_
    rintro e w1 ⟨rfl, h1⟩
    go_wp2_with (refine mval rfl (exec_postR rfl rfl rfl HSL.out _) ?_)
    go_ret
    refine ⟨A2, c - 1, ?_, ?_, ?_, by omega, h1⟩
    · rw [HF.out, List.length_drop, ← HN.out]; rfl
    · rw [HF.out]
      exact HS.out _ _ l HN.out.symm ((hb.below h1).more h1.size)
    · rw [HF.out, List.length_drop, ← HN.out]; omega
  · have hd1 : decide (0 < firstS l) = false := decide_eq_false hf
    have HF := Lib.hid (show extraS l = l by rw [extraS, if_neg hf])
    have HN := Lib.hid h0
    clear hf h0
    go_enter Try.func40, Try.ntmps40
    go_wp2_with fail
    refine HR.out.mono ?_
    rintro e w1 ⟨rfl, h1⟩
    go_wp2_with fail
    go_ret
    rw [HF.out]
    have h0 := HN.out
    exact ⟨A, c, by rw [h0]; rfl, (hb.below h1).more h1.size, by omega, hcm, h1⟩
set_option maxRecDepth 100000 in
set_option maxHeartbeats 3200000 in
theorem Extra_any (w : World) (A : Option Addr) (n c : Nat) (R : List RA) (V : VL) (hv : VS w A n c R V) (hl : n ≤ 1000000) (hm : Lim 1000000 V) (r : Int) (hr : i64in r) :
    Calls Try.prog 16 #[.agg #[.slice A n c], .int .i64 r] w (RAns w (extraV V r)) := by
  have hb0 : Below w.heap.size w (w.alloc (.cells #[.slice A n c] 27)) := balloc (Below.refl _ _) _
  have x0 : (w.alloc (.cells #[.slice A n c] 27)).cell? ⟨w.heap.size, 0, none⟩ = some (.slice A n c) := by simp
  have xs : w.heap.size < (w.alloc (.cells #[.slice A n c] 27)).heap.size := by simp
  have HR := Lib.hid (VRight_any _ A n c R V (hv.below hb0) hl hm)
  obtain ⟨p, hp⟩ : ∃ p, rightV V = p := ⟨_, rfl⟩
  rw [hp] at HR
  cases p with
  | false =>
    have HF := Lib.hid (show extraV V r = [] by rw [extraV, if_neg (by rw [hp]; simp)])
    clear hp hv hm
    go_enter Try.func16, Try.ntmps16
    go_wp2_with fail
    refine HR.out.mono ?_
    rintro e w1 ⟨rfl, h1⟩
    have hbz := hb0.trans (h1.mono hb0.size)
    go_wp2_with fail
    go_ret
    rw [HF.out]
    exact RAns.nil hbz
  | true =>
    have HF := Lib.hid (show extraV V r = extraS (partV V r) by rw [extraV, if_pos hp])
    have HT := Lib.hid (fun W (hW : Below w.heap.size w W) => table_any W A n c R V (hv.below hW) hp)
    have HL := Lib.hid (hm.part r)
    clear hp hv hm
    go_enter Try.func16, Try.ntmps16
    go_wp2_with fail
    refine HR.out.mono ?_
    rintro e w1 ⟨rfl, h1⟩
    have hbz := hb0.trans (h1.mono hb0.size)
    have y0 := (h1.cell xs).trans x0
    clear x0 h1
    go_wp2_with fail
    refine (HT.out _ hbz).mono ?_
    rintro e w2 ⟨b, T, rfl, hms, hpt, hbb, h2⟩
    obtain ⟨A', c', hlk, hst⟩ := hms.look1 hpt r hr
    have hbv := hbz.trans (h2.mono hbz.size)
    clear hms hpt
    go_wp2_with fail
    refine (extra_any w2 A' _ c' (partV V r) hst.1 rfl (by have := HL.out; omega) hst.2.1 hst.2.2).mono ?_
    rintro e w3 ⟨A3, c3, rfl, hs3, hn3, hc3, h3⟩
    have hbu := hbv.trans (h3.mono hbv.size)
    have hx3 : (extraS (partV V r)).length ≤ (partV V r).length := by
      unfold extraS
      split
      · rw [List.length_drop]; omega
      · exact Nat.le_refl _
    go_wp2_with fail
    refine (CloneR_ans w3 A3 _ c3 _ hs3 rfl (by have := HL.out; omega)).mono ?_
    rintro e w4 ⟨A4, c4, rfl, hs4, hn4, hc4, h4⟩
    have hby := hbu.trans (h4.mono hbu.size)
    go_wp2_with fail
    go_ret
    rw [HF.out]
    exact ⟨A4, c4, rfl, hs4, hn4, hc4, hby⟩
end Go.Proofs.Ytaflikgdlkaefaa
/- Numbers as bytes: the walks of package num. -/
namespace Go.Proofs.Ytaflikgdlkaefaa
open Go.RowKit Go.Proofs.Ytaflikgdlkaefaa.Pl
set_option maxRecDepth 20000

def OneRel (w : World) (base : Nat) (s : Value) (l : List UInt8) (v : Nat) (x0 x1 : Value) (wr : World) : Prop :=
  ∃ (k u : Nat) (pre : List UInt8), x1 = .int .u64 (u : Int) ∧ OwnB wr base x0 (l ++ pre) ∧ pre ++ encF k u = enc v ∧ u < 128 ^ (k + 1) ∧ U64 u ∧ w.grownBy wr s.ownBlock ∧ Went w s x0
def OnePost (w : World) (base : Nat) (s : Value) (l k : List UInt8) (e : Ending) (w' : World) : Prop :=
  ∃ s', e = .returned s' ∧ OwnB w' base s' (l ++ k) ∧ w.grownBy w' s.ownBlock ∧ Went w s s'

theorem byte_or_bv (u : Nat) : [Value.int .u8 (bits .or .u8 ((u : Int) % 256) 128)] = bv [UInt8.ofNat (u % 128 + 128)] := by
  rw [Lib.u8_or128_any _ (by omega) (by omega)]
  simp only [bv, List.map, u8v]
  rw [toNat_ofNat (by omega)]
  congr 2
  omega
theorem byte_bv (u : Nat) : [Value.int .u8 ((u : Int) % 256)] = bv [UInt8.ofNat u] := by
  simp only [bv, List.map, u8v, UInt8.toNat_ofNat']
  congr 2

theorem byte_bv' (u : Nat) (h : u < 256) : [Value.int .u8 (u : Int)] = bv [UInt8.ofNat u] := by
  simp only [bv, List.map, u8v, toNat_ofNat h]

set_option maxRecDepth 100000 in
set_option maxHeartbeats 400000 in
theorem one_any (w : World) (base : Nat) (s : Value) (l : List UInt8) (v : Nat) (hv : U64 v) (hown : OwnB w base s l) (hb : base ≤ w.heap.size) (hl : l.length + 10 ≤ 140737488355328) :
    Calls Try.prog 61 #[s, .int .u64 (v : Int)] w (OnePost w base s l (enc v)) := by
  go_enter Try.func61, Try.ntmps61
  go_wp2_with fail
  go_loopw [0, 1] (fun x0 x1 wr => OneRel w base s l v x0 x1 wr) (fun _ x1 _ => (intOf x1).toNat)
  case atStart => exact ⟨9, v, [], rfl, by simpa using hown, rfl, lt_pow_of_lt hv.out, hv, World.grownBy.refl w _, Went.refl w s⟩
  case round =>
    obtain ⟨k, u, pre, rfl, hown', hpre, hu, hu64, hg, hwent⟩ := hrel
    have Hpre := Lib.hid hpre
    have Hu := Lib.hid hu
    clear hpre hu
    have hlen : (l ++ pre).length + 1 ≤ 140737488355328 := by
      have h1 := congrArg List.length Hpre.out
      have h2 := enc_len v
      have h3 := encF_len_pos k u
      rw [List.length_append] at h1 ⊢
      omega
    have hs := hg.size
    by_cases hlt : 128 ≤ u
    · go_wp2_with (at_builtin; refine appN rfl rfl hown' (byte_or_bv u) rfl rfl rfl hlen (by omega) ?_; intro s1 w1 hown1 hg1 hat1)
      go_roundw
      case rel =>
        obtain ⟨k, rfl⟩ : ∃ k', k = k' + 1 := by
          cases k with
          | zero => have := Hu.out; simp at this; omega
          | succ k => exact ⟨k, rfl⟩
        refine ⟨k, u / 128, pre ++ [UInt8.ofNat (u % 128 + 128)], by go_num, by rw [← List.append_assoc]; exact hown1, ?_, div_lt_pow Hu.out, Nat.lt_of_le_of_lt (Nat.div_le_self _ _) hu64, grown_step hg hg1 hwent.row, hwent.step hs (Nat.le_succ _) hat1⟩
        rw [← Hpre.out]
        simp only [encF]
        rw [if_neg (by omega)]
        simp
      case measure => simp [intOf]; omega
    · go_wp2_with (at_builtin; refine appN rfl rfl hown' (byte_bv' u (by omega)) rfl rfl rfl hlen (by omega) ?_; intro s1 w1 hown1 hg1 hat1)
      go_ret
      refine ⟨s1, rfl, ?_, grown_step hg hg1 hwent.row, hwent.step hs (Nat.le_succ _) hat1⟩
      rw [← Hpre.out]
      have e : encF k u = [UInt8.ofNat u] := by
        cases k with
        | zero => rfl
        | succ k => simp only [encF]; rw [if_pos (by omega)]
      rw [e, ← List.append_assoc]
      exact hown1
end Go.Proofs.Ytaflikgdlkaefaa
/- Numbers as bytes: Size, Put, and the document's Put. -/
namespace Go.Proofs.Ytaflikgdlkaefaa
open Go.RowKit Go.Proofs.Ytaflikgdlkaefaa.Pl
set_option maxRecDepth 20000

theorem one_nil (w : World) (v : Nat) (hv : U64 v) : Calls Try.prog 61 #[.slice none 0 0, .int .u64 (v : Int)] w (Fresh w (enc v)) := by
  refine (one_any w w.heap.size (.slice none 0 0) [] v hv (OwnB.nil w _) (Nat.le_refl _) (by simp)).mono ?_
  rintro e w' ⟨s', rfl, h1, h2, h3⟩
  rw [List.nil_append] at h1
  obtain ⟨A, c, rfl, _⟩ := h1.form
  exact ⟨A, c, rfl, h1, below_of_grown h2 (by simp [Value.ownBlock]) (Nat.le_refl _)⟩

def PutRel (w : World) (bs : List UInt8) (ls : List Nat) (x5 x19 : Value) (wr : World) : Prop :=
  ∃ k : Nat, k ≤ ls.length ∧ x19 = .int .i64 (k : Int) ∧ OwnB wr w.heap.size x5 (bs ++ encs (ls.take k)) ∧ Below w.heap.size w wr
theorem encs_take_len (ls : List Nat) (k : Nat) : (encs (ls.take k)).length ≤ 10 * k := by
  have := encs_len (ls.take k)
  have h2 : (ls.take k).length ≤ k := by rw [List.length_take]; omega
  omega
theorem encs_take_succ (ls : List Nat) (k : Nat) (h : k < ls.length) : encs (ls.take (k + 1)) = encs (ls.take k) ++ enc (ls[k]?.getD 0) := by
  rw [List.take_add_one, List.getElem?_eq_getElem h]
  exact encs_snoc _ _
set_option maxRecDepth 100000 in
set_option maxHeartbeats 400000 in
theorem Put_any (w : World) (A A' : Option Addr) (c c' : Nat) (bs : List UInt8) (ls : List Nat) (hb : Sl w w.heap.size A (bv bs)) (hl : Sl w w.heap.size A' (uv ls)) (hu : ∀ x ∈ ls, U64 x)
    (hbound : bs.length + 10 * ls.length ≤ 140737488355328) :
    Calls Try.prog 41 #[.slice A bs.length c, .slice A' ls.length c'] w (Fresh w (bs ++ encs ls)) := by
  go_enter Try.func41, Try.ntmps41
  go_wp2_with (first
    | (at_make; refine mkB (n := bs.length + 10 * ls.length) rfl rfl rfl rfl (by omega) (by omega) ?_; intro w1 hown1 hg1)
    | (at_builtin; refine app rfl rfl hown1 (hb.grown hg1 (by simp)) rfl rfl rfl (by simp; omega) hg1.size ?_; intro s2 w2 hown2 hg2 hat2))
  have hb2 : Below w.heap.size w w2 := own_below (below_of_grown hg1 (by simp) (Nat.le_refl _)) hg1.size hown1 hg2
  rw [List.nil_append] at hown2
  clear hown1 hg1 hat2 hg2
  go_loopw [5, 19] (fun x5 x19 wr => PutRel w bs ls x5 x19 wr) (fun _ x19 _ => ls.length - (intOf x19).toNat)
  case atStart => exact ⟨0, Nat.zero_le _, rfl, by simpa [encs] using hown2, hb2⟩
  case round =>
    obtain ⟨k, hk, rfl, hown, hbel⟩ := hrel
    have hs := hbel.size
    have hlen := encs_take_len ls k
    by_cases hlt : k < ls.length
    · obtain ⟨b, o, rfl, hbB, hbW, hcell⟩ := (hl.below hbel).at_ (k := k) (by simpa using hlt)
      have hck := hcell k _ (uv_get ls k hlt)
      have hxu : U64 (ls[k]?.getD 0) := hu _ (by rw [List.getElem?_eq_getElem hlt]; exact List.getElem_mem hlt)
      have hsucc := encs_take_succ ls k hlt
      generalize ls[k]?.getD 0 = x at hck hxu hsucc
      have Hl := Lib.hid hl
      have Hb := Lib.hid hb
      have Hsucc := Lib.hid hsucc
      clear hcell hl hb hsucc
      go_wp2_with (go_at_call 61; refine (one_any _ w.heap.size _ _ _ hxu hown hs (by rw [List.length_append]; omega)).mono ?_; rintro e w3 ⟨s3, rfl, h1, h2, h3⟩)
      go_roundw
      case rel =>
        refine ⟨k + 1, hlt, by go_num, ?_, own_below hbel hs hown h2⟩
        rw [Hsucc.out, ← List.append_assoc]
        exact h1
      case measure => simp [intOf]; omega
    · go_wp2_with fail
      go_ret
      have hk' : ls.take k = ls := List.take_of_length_le (by omega)
      rw [hk'] at hown
      obtain ⟨A2, c2, rfl, _⟩ := hown.form
      exact ⟨A2, c2, rfl, hown, hbel⟩
end Go.Proofs.Ytaflikgdlkaefaa
/- Vectors: vector.Bytes. -/
namespace Go.Proofs.Ytaflikgdlkaefaa
open Go.RowKit Go.Maps Go.Proofs.Ytaflikgdlkaefaa.Pl Go.Proofs.Ytaflikgdlkaefaa.Sp Go.Proofs.Ytaflikgdlkaefaa.Ve
set_option maxRecDepth 20000

theorem u64info : (Try.prog.info? 71).map (fun i => (i.zero, i.size, i.bytes)) = some (some (.int .u64 0), 1, 8) := by kernel_rfl
def EU : ET Try.prog 72 71 Nat := {
  n := 1
  bytes := 8
  cells := fun n => [.int .u64 (n : Int)]
  zero := 0
  z := .int .u64 0
  ty := Try.underlying72
  info := u64info
  zc := rfl
  pos := by omega
  len := fun _ => rfl
  one := fun x u hu => by
    obtain rfl := List.mem_singleton.1 hu
    rfl
  small := by omega }
theorem EU_dv (l : List Nat) : EU.dv l = uv l := by
  induction l with
  | nil => rfl
  | cons x l ih => rw [ET.dv_cons, ih]; rfl
theorem u64_lit2 (w : World) (a b : Nat) : EU.Own (w.alloc (.cells #[.int .u64 (a : Int), .int .u64 (b : Int)] 71)) w.heap.size (.slice (some ⟨w.heap.size, 0, none⟩) 2 2) [a, b] := ET.Own.lit (E := EU) w [a, b] (by simp [maxLen]) rfl
theorem u64_sl1 (w : World) (a : Nat) : Sl (w.alloc (.cells #[.int .u64 (a : Int)] 71)) (w.alloc (.cells #[.int .u64 (a : Int)] 71)).heap.size (some ⟨w.heap.size, 0, none⟩) (uv [a]) := (Sl.new w 71 #[.int .u64 (a : Int)] (0, 0)).more (by simp)
theorem u64_sl2 (w : World) (a b : Nat) : Sl (w.alloc (.cells #[.int .u64 (a : Int), .int .u64 (b : Int)] 71)) (w.alloc (.cells #[.int .u64 (a : Int), .int .u64 (b : Int)] 71)).heap.size (some ⟨w.heap.size, 0, none⟩) (EU.dv [a, b]) := (Sl.new w 71 #[.int .u64 (a : Int), .int .u64 (b : Int)] (0, 0)).more (by simp)
theorem bytesV_le {V : VL} {m : Nat} (h : ∀ p ∈ V, p.2.length ≤ m) : (bytesV V).length ≤ 10 + V.length * (20 * m + 21) := by
  unfold bytesV
  split
  · rw [List.length_append]
    have := flatV_len h
    have := enc_len V.length
    omega
  · simp
set_option maxRecDepth 100000 in
set_option maxHeartbeats 6400000 in
theorem VBytes_any (w : World) (A : Option Addr) (n c : Nat) (R : List RA) (V : VL) (hv : VS w A n c R V) (hl : n ≤ 1000000) (hm : Lim 900000 V) :
    Calls Try.prog 19 #[.agg #[.slice A n c]] w (Fresh w (bytesV V)) := by
  have hb0 : Below w.heap.size w (w.alloc (.cells #[.slice A n c] 27)) := balloc (Below.refl _ _) _
  have a0 : At (w.alloc (.cells #[.slice A n c] 27)) w.heap.size [.slice A n c] := At.new w 27 #[.slice A n c]
  have HR := Lib.hid (VRight_any _ A n c R V (hv.below hb0) hl (hm.mono (by omega)))
  obtain ⟨p, hp⟩ : ∃ p, rightV V = p := ⟨_, rfl⟩
  rw [hp] at HR
  have HV := Lib.hid (And.intro hv (And.intro hm hp))
  clear hv hl hm hp
  go_enter Try.func19, Try.ntmps19
  cases p with
  | false =>
    have HF := Lib.hid (show bytesV V = [] by rw [bytesV, if_neg (by rw [HV.out.2.2]; simp)])
    go_wp2_with fail
    refine HR.out.mono ?_
    rintro e w1 ⟨rfl, h1⟩
    have hbz := hb0.trans (h1.mono hb0.size)
    go_wp2_with fail
    go_ret
    exact ⟨none, 0, by rw [HF.out]; rfl, by rw [HF.out]; exact OwnB.nil _ _, hbz⟩
  | true =>
    have HF := Lib.hid (show bytesV V = enc V.length ++ flatV V by rw [bytesV, if_pos HV.out.2.2])
    have hn64 := (show n ≤ 64 by rw [← HV.out.1.len]; exact right_length HV.out.2.2)
    go_wp2_with fail
    refine HR.out.mono ?_
    rintro e w1 ⟨rfl, h1⟩
    have b0 := a0.below h1
    have hbz := hb0.trans (h1.mono hb0.size)
    have y0 := b0.c 0 rfl
    clear h1 a0 hb0 HR
    have hwn : IntKind.u64.wrap (n : Int) = (n : Int) := by rw [IntKind.wrap_u64]; omega
    have hbl := balloc (Below.refl w1.heap.size w1) (.cells #[.int .u64 (n : Int)] 71)
    have HP := Lib.hid (Put_any (w1.alloc (.cells #[.int .u64 (n : Int)] 71)) none (some ⟨w1.heap.size, 0, none⟩) 0 1 [] [n] (.inl rfl) (u64_sl1 w1 n) (fun x hx => by rw [List.mem_singleton.1 hx]; exact U64.mk (by omega)) (by simp))
    have HB := Lib.hid (And.intro b0 (And.intro hbz hbl))
    clear b0 hbz hbl
    go_wp2_with fail
    refine HP.out.mono ?_
    rintro e w2 ⟨A2, c2, rfl, hown2, hb2⟩
    have hL : ([] ++ encs [n] : List UInt8) = enc V.length ++ flatV (V.take 0) := by rw [HV.out.1.len]; simp [encs, flatV]
    rw [hL] at hown2
    obtain ⟨m2, hm2⟩ : ∃ m, ([] ++ encs [n] : List UInt8).length = m := ⟨_, rfl⟩
    rw [hm2]
    rw [show (enc V.length ++ flatV (V.take 0)).length = m2 by rw [← hL, hm2]] at hown2
    clear hm2
    have d0 := (HB.out.1.below HB.out.2.2).below hb2
    have hby := (HB.out.2.1.trans (HB.out.2.2.mono HB.out.2.1.size)).trans (hb2.mono (Nat.le_trans HB.out.2.1.size HB.out.2.2.size))
    have y1 := d0.c 0 rfl
    have hown0 := hown2.base_le (base' := w.heap.size) (Nat.le_trans HB.out.2.1.size HB.out.2.2.size)
    have HI := Lib.hid (And.intro hown0 hby)
    clear d0 hby hown0 hown2 hb2 hL HP HB y0
    go_wp2_with fail
    go_loopw [3, 23] (fun x3 x23 wr => ∃ (k : Nat), k ≤ n ∧ x23 = .int .i64 (k : Int) ∧ OwnB wr w.heap.size x3 (enc V.length ++ flatV (V.take k)) ∧ Below w.heap.size w wr) (fun _ x23 _ => n - (intOf x23).toNat)
    case atStart => exact ⟨0, by omega, rfl, HI.out.1, HI.out.2⟩
    case round =>
      clear HI
      obtain ⟨k, hk, rfl, hown, hbel⟩ := hrel
      by_cases hlt : k < n
      · obtain ⟨q, b, o, _, hV, hq, rfl, hbW, c0, c1⟩ := HV.out.1.at_ hlt
        have hqa := okV_lt HV.out.2.2 _ (List.mem_of_getElem? hV)
        have hql : q.l.length ≤ 900000 := HV.out.2.1 _ (List.mem_of_getElem? hV)
        have hst := flatV_step hV
        dsimp only at hqa
        replace c0 := (hbel.cell hbW).trans c0
        replace c1 := (hbel.cell hbW).trans c1
        have hd1 : decide ((k : Int) < (n : Int)) = true := by rw [decide_eq_true_eq]; omega
        have hn0 : (0 : Int) ≤ (k : Int) := by omega
        have hn1 : (k : Int) < (n : Int) := by omega
        obtain ⟨r, Aq, cq, l⟩ := q
        dsimp only at *
        obtain ⟨ln, hln⟩ : ∃ m, l.length = m := ⟨_, rfl⟩
        rw [hln] at c1
        have hbx0 := balloc (Below.refl wr.heap.size wr) (.cells #[.int .i64 r, .slice Aq ln cq] 61)
        have hbx := hbel.alloc hbel.size (.cells #[.int .i64 r, .slice Aq ln cq] 61)
        have hbox := At.new wr 61 #[.int .i64 r, .slice Aq ln cq]
        obtain ⟨fa, fb, fc, fd⟩ := first_extra hqa.2.2.2
        unfold mx at fb
        have hel : (extraS l).length ≤ ln := by
          have := congrArg List.length fd
          rw [List.length_append] at this
          omega
        have hflat := flatV_len (m := 900000) (V := V.take k) (fun p hp => HV.out.2.1 p (List.mem_of_mem_take hp))
        have hrn := rowN_lt hqa.2.2.2 (by omega)
        have HX := Lib.hid (And.intro (hown.below hbx0) (And.intro hbx (And.intro hbox (And.intro (hq.below hbx) (And.intro hqa (And.intro hst (And.intro hln (And.intro hql (And.intro fc (And.intro hel (And.intro hflat hrn)))))))))))
        obtain ⟨fe, hfe⟩ : ∃ fe : Nat, firstS l = (fe : Int) := ⟨(firstS l).toNat, by omega⟩
        obtain ⟨ne, hne⟩ : ∃ m, (extraS l).length = m := ⟨_, rfl⟩
        obtain ⟨ls, hls⟩ : ∃ x, extraS l = x := ⟨_, rfl⟩
        have hr0 : 0 ≤ r ∧ r < 64 := by have := hqa.1; omega
        clear hown hbx hbx0 hbox hq hqa hst hln hql fc fd hel hflat hV hbel hrn
        go_wp2_with fail
        have e0 := HX.out.2.2.1.e 0 rfl
        have e1 := HX.out.2.2.1.e 1 rfl
        have hgx : wr.heap.size < (wr.alloc (.cells #[.int .i64 r, .slice Aq ln cq] 61)).heap.size := by simp
        generalize wr.alloc (.cells #[.int .i64 r, .slice Aq ln cq] 61) = W5 at *
        clear c0 c1
        have hS0 : KB W5.heap W5.drew := KB.refl W5
        refine bstartH (W5.heap) (by kernel_rfl) ?_
        refine btake 0 (oi := _) (v := ?_) (by simp only [List.getElem?_toArray, List.getElem?_cons_zero]; rfl) (by kernel_rfl) (by exact fun _ _ _ h => h) (by first | assumption | exact KB.refl _) (.inl ⟨by rfl, fun W hW => ?_⟩) ?_; rotate_left
        · (go_simp; first | done | with_reducible rfl)
        try simp only [Act.put, List.setIfInBounds_toArray, List.set_cons_zero, List.set_cons_succ]
        refine btake 1 (oi := _) (v := ?_) (by simp only [List.getElem?_toArray, List.getElem?_cons_succ, List.getElem?_cons_zero]; rfl) (by kernel_rfl) (by exact fun _ _ _ h => h) (by first | assumption | exact KB.refl _) (.inl ⟨by rfl, fun W hW => ?_⟩) ?_; rotate_left
        · (go_simp; first | done | with_reducible rfl)
        try simp only [Act.put, List.setIfInBounds_toArray, List.set_cons_zero, List.set_cons_succ]
        refine btake 3 (oi := _) (v := ?_) (by simp only [List.getElem?_toArray, List.getElem?_cons_succ, List.getElem?_cons_zero]; rfl) (by kernel_rfl) (by exact fun _ _ _ h => h) (by first | assumption | exact KB.refl _) (.inl ⟨by rfl, fun W hW => ?_⟩) ?_; rotate_left
        · (go_simp; first | done | with_reducible rfl)
        try simp only [Act.put, List.setIfInBounds_toArray, List.set_cons_zero, List.set_cons_succ]
        refine btake 4 (oi := _) (v := ?_) (by simp only [List.getElem?_toArray, List.getElem?_cons_succ, List.getElem?_cons_zero]; rfl) (by kernel_rfl) (by exact fun _ _ _ h => h) (by first | assumption | exact KB.refl _) (.inl ⟨by rfl, fun W hW => ?_⟩) ?_; rotate_left
        · (go_simp; first | done | with_reducible rfl)
        try simp only [Act.put, List.setIfInBounds_toArray, List.set_cons_zero, List.set_cons_succ]
        -- 2: newsreel/span.First
        refine bopH 2 (o := _) (by simp only [List.getElem?_toArray, List.getElem?_cons_succ, List.getElem?_cons_zero]; rfl) (by kernel_rfl) (by first | assumption | exact KB.refl _) (by rfl) (fun K hK => ?_)
        go_simp
        refine (RFirst_any W5.drew Aq ln cq l HX.out.2.2.2.1.1 HX.out.2.2.2.2.2.2.1.symm (by have := HX.out.2.2.2.2.2.2.1; have := HX.out.2.2.2.2.2.2.2.1; omega)).mono ?_
        rintro e w6 ⟨rfl, h6⟩
        rw [hfe]
        have hb6 : Below W5.heap.size W5 w6 := (Below.refl _ W5).drew.trans h6
        have hkb : KB W5.heap w6 := KB.of hb6
        have H6 := Lib.hid hb6
        clear h6 hb6
        refine hK.out _ _ hkb ?_; clear hK K
        try simp only [Act.put, List.setIfInBounds_toArray, List.set_cons_zero, List.set_cons_succ]
        -- 5: newsreel/vector.extra
        refine bopH 5 (o := _) (by simp only [List.getElem?_toArray, List.getElem?_cons_succ, List.getElem?_cons_zero]; rfl) (by kernel_rfl) (by first | assumption | exact KB.refl _) (by rfl) (fun K hK => ?_)
        go_simp
        refine (extra_any w6 Aq ln cq l ((HX.out.2.2.2.1.1.below' H6.out).more H6.out.size) HX.out.2.2.2.2.2.2.1.symm (by have := HX.out.2.2.2.2.2.2.1; have := HX.out.2.2.2.2.2.2.2.1; omega) (by rw [← HX.out.2.2.2.2.2.2.1]; exact HX.out.2.2.2.1.2.1) HX.out.2.2.2.1.2.2).mono ?_
        rintro e w7 ⟨A7, c7, rfl, hs7, hl7, hc7, h7⟩
        rw [hne] at hl7 ⊢
        have hb7 : Below W5.heap.size W5 w7 := H6.out.trans (h7.mono H6.out.size)
        have hkb : KB W5.heap w7 := KB.of hb7
        have H7 := Lib.hid (And.intro hb7 (And.intro hs7 (And.intro hl7 hc7)))
        clear h7 hb7 hs7 hl7 hc7
        refine hK.out _ _ hkb ?_; clear hK K
        try simp only [Act.put, List.setIfInBounds_toArray, List.set_cons_zero, List.set_cons_succ]
        refine btake 6 (oi := _) (v := ?_) (by simp only [List.getElem?_toArray, List.getElem?_cons_succ, List.getElem?_cons_zero]; rfl) (by kernel_rfl) (by exact fun _ _ _ h => h) (by first | assumption | exact KB.refl _) (.inl ⟨by rfl, fun W hW => ?_⟩) ?_; rotate_left
        · (go_simp; first | done | with_reducible rfl)
        try simp only [Act.put, List.setIfInBounds_toArray, List.set_cons_zero, List.set_cons_succ]
        refine btake 7 (oi := _) (v := ?_) (by simp only [List.getElem?_toArray, List.getElem?_cons_succ, List.getElem?_cons_zero]; rfl) (by kernel_rfl) (by exact fun _ _ _ h => h) (by first | assumption | exact KB.refl _) (.inl ⟨by rfl, fun W hW => ?_⟩) ?_; rotate_left
        · (go_simp; first | done | with_reducible rfl)
        try simp only [Act.put, List.setIfInBounds_toArray, List.set_cons_zero, List.set_cons_succ]
        refine bdone (by kernel_rfl) ?_
        have hnel : ne ≤ 900000 := by have h1 := HX.out.2.2.2.2.2.2.2.2.2.1; have h2 := HX.out.2.2.2.2.2.2.1; have h3 := HX.out.2.2.2.2.2.2.2.1; omega
        have hrow : rowN l = [fe, ne] ++ gapsN (fe : Int) ls := by
          rw [rowN, hfe, hne, hls]
          simp
        have hok : okR ((fe : Int) + 2) ls = true := by have := HX.out.2.2.2.2.2.2.2.2.1; rw [hfe, hls] at this; exact this
        have hlsn : ls.length = ne := by rw [← hls]; exact hne
        have hs7 := H7.out.2.1
        rw [hls] at hs7
        have HG := Lib.hid (And.intro hrow (And.intro hok (And.intro hlsn hs7)))
        have hw1 : IntKind.u64.wrap (fe : Int) = (fe : Int) := by rw [IntKind.wrap_u64]; omega
        have hw2 : IntKind.u64.wrap (ne : Int) = (ne : Int) := by rw [IntKind.wrap_u64]; omega
        have hbl := balloc (Below.refl w7.heap.size w7) (.cells #[.int .u64 (fe : Int), .int .u64 (ne : Int)] 71)
        have hno := u64_lit2 w7 fe ne
        have HK := Lib.hid (And.intro hbl hno)
        have hf7 : w7.cell? ⟨wr.heap.size, 0, none⟩ = some (.int .i64 r) := (H7.out.1.cell hgx).trans (e0 W5 (KB.refl _))
        have HC := Lib.hid hf7
        clear hbl hno hrow hok hlsn hs7 hfe hne hls e0 e1 hS0 hf7
        obtain ⟨wq, rfl⟩ : ∃ wq : World, wq = wr := ⟨_, rfl⟩
        go_wp2_with fail
        have hg7 : w7.heap.size < (w7.alloc (.cells #[.int .u64 (fe : Int), .int .u64 (ne : Int)] 71)).heap.size := by simp
        go_loopw [6, 8, 41] (fun x6 x8 x41 wr => ∃ (j : Nat) (en : Int), j ≤ ne ∧ x41 = .int .i64 (j : Int) ∧ x6 = .int .i64 en ∧ en = endG (fe : Int) (ls.take j) ∧ EU.Own wr w7.heap.size x8 ([fe, ne] ++ gapsN (fe : Int) (ls.take j)) ∧ Below w7.heap.size w7 wr ∧ w7.heap.size < wr.heap.size) (fun _ _ x41 _ => ne - (intOf x41).toNat)
        case atStart => exact ⟨0, (fe : Int), by omega, rfl, rfl, rfl, by rw [List.take_zero]; exact HK.out.2, HK.out.1, hg7⟩
        case round =>
          obtain ⟨j, en, hj, rfl, rfl, hen, hno, hbj, hsj⟩ := hrel
          by_cases hjl : j < ne
          · have hjs : j < ls.length := by rw [HG.out.2.2.1]; exact hjl
            obtain ⟨b2, o2, rfl, hb2B, hb2W, g0, g1⟩ := rgAt HG.out.2.2.2 hjs
            have hx : ls[j]? = some (ls[j]?.getD ⟨0, 0⟩) := by rw [List.getElem?_eq_getElem hjs]; rfl
            generalize ls[j]?.getD ⟨0, 0⟩ = x at *
            replace g0 := (hbj.cell hb2W).trans g0
            replace g1 := (hbj.cell hb2W).trans g1
            obtain ⟨t1, t2, t3, t4⟩ := okR_at HG.out.2.1 (by omega) hx
            rw [← hen] at t1 t2
            have hgs := gaps_step hx (fe : Int)
            have hes := endG_step hx (fe : Int)
            rw [← hen] at hgs
            obtain ⟨ga, hga⟩ : ∃ ga : Nat, x.a - en - 2 = (ga : Int) := ⟨(x.a - en - 2).toNat, by omega⟩
            obtain ⟨gb, hgb⟩ : ∃ gb : Nat, x.b - x.a = (gb : Int) := ⟨(x.b - x.a).toNat, by omega⟩
            rw [hga, hgb, Int.toNat_natCast, Int.toNat_natCast] at hgs
            have hd2 : decide ((j : Int) < (ne : Int)) = true := by rw [decide_eq_true_eq]; omega
            have hj0 : (0 : Int) ≤ (j : Int) := by omega
            have hj1 : (j : Int) < (ne : Int) := by omega
            have v1 : IntKind.i64.wrap (x.a - en) = x.a - en := by rw [IntKind.wrap_i64]; omega
            have v2 : IntKind.i64.wrap (x.a - en - 2) = (ga : Int) := by rw [IntKind.wrap_i64]; omega
            have v3 : IntKind.i64.wrap (x.b - x.a) = (gb : Int) := by rw [IntKind.wrap_i64]; omega
            have v4 : IntKind.u64.wrap (ga : Int) = (ga : Int) := by rw [IntKind.wrap_u64]; omega
            have v5 : IntKind.u64.wrap (gb : Int) = (gb : Int) := by rw [IntKind.wrap_u64]; omega
            have hbr := balloc (Below.refl wr.heap.size wr) (.cells #[.int .i64 x.a, .int .i64 x.b] 44)
            have hol := fun z e => (hno.lt' z e).2
            have HOL := Lib.hid hol
            clear hol
            have hno1 := hno.below hbr
            have hbr2 := balloc (Below.refl _ (wr.alloc (.cells #[.int .i64 x.a, .int .i64 x.b] 44))) (.cells #[.int .u64 (ga : Int), .int .u64 (gb : Int)] 71)
            have hno2 := hno1.below hbr2
            have hsl2 := u64_sl2 (wr.alloc (.cells #[.int .i64 x.a, .int .i64 x.b] 44)) ga gb
            have hsz1 : (wr.alloc (.cells #[.int .i64 x.a, .int .i64 x.b] 44)).heap.size = wr.heap.size + 1 := by simp
            rw [hsz1] at hsl2
            clear hsz1
            have hglen : (gapsN (fe : Int) (ls.take j)).length ≤ 2000000 := by rw [gapsN_len, List.length_take]; omega
            have hszj : w7.heap.size ≤ ((wr.alloc (.cells #[.int .i64 x.a, .int .i64 x.b] 44)).alloc (.cells #[.int .u64 (ga : Int), .int .u64 (gb : Int)] 71)).heap.size := by simp; omega
            have hbox2 := At.new wr 44 #[.int .i64 x.a, .int .i64 x.b]
            have hb7j : Below w7.heap.size w7 ((wr.alloc (.cells #[.int .i64 x.a, .int .i64 x.b] 44)).alloc (.cells #[.int .u64 (ga : Int), .int .u64 (gb : Int)] 71)) := (hbj.trans (hbr.mono hbj.size)).trans (hbr2.mono (Nat.le_trans hbj.size hbr.size))
            have HJ := Lib.hid (And.intro hno2 (And.intro hsl2 (And.intro hb7j (And.intro hgs (And.intro hes (And.intro hglen (hbox2.below hbr2)))))))
            clear hno hno1 hno2 hsl2 hb7j hgs hes hbr hbr2 hbj hen hx t1 t2 t3 t4 hga hgb hbox2 hglen
            go_wp2_with (at_builtin; refine appE rfl rfl HJ.out.1 HJ.out.2.1 rfl rfl rfl (by have := HJ.out.2.2.2.2.2.1; simp; omega) hszj ?_; intro v9 w9 hown9 hg9 hat9; have hbox9 := HJ.out.2.2.2.2.2.2.grown hg9 (fun e => by have h2 := HOL.out _ e; omega); have z1 := hbox9.c 1 rfl; have H9 := Lib.hid (And.intro hown9 hg9); clear hown9 hg9 hat9 hbox9)
            have hb9 : Below w7.heap.size w7 w9 := HJ.out.1.below_of HJ.out.2.2.1 hszj H9.out.2
            have hs9 : w7.heap.size < w9.heap.size := by have h1 := H9.out.2.size; simp at h1; omega
            go_roundw
            case rel => exact ⟨j + 1, x.b, by omega, by go_num, rfl, HJ.out.2.2.2.2.1.symm, by rw [HJ.out.2.2.2.1, ← List.append_assoc]; exact H9.out.1, hb9, hs9⟩
            case measure => simp [intOf]; omega
          · obtain rfl : j = ne := by omega
            have hd2 : decide ((j : Int) < (j : Int)) = false := by rw [decide_eq_false_iff_not]; omega
            rw [show ls.take j = ls by rw [← HG.out.2.2.1, List.take_length], ← HG.out.1] at hno
            obtain ⟨A8, c8, rfl, hn1, hn2, hn3, _⟩ := hno.form
            have HNO := Lib.hid hno
            have hB := (HX.out.1.below H7.out.1).below hbj
            have hcr := (hbj.cell (p := ⟨wq.heap.size, 0, none⟩) (Nat.lt_of_lt_of_le hgx H7.out.1.size)).trans HC.out
            obtain ⟨rn, hrn⟩ : ∃ rn : Nat, r = (rn : Int) := ⟨r.toNat, by omega⟩
            rw [hrn] at hcr
            have hr64 : rn < 64 := by omega
            have hw8 : IntKind.u8.wrap (rn : Int) = (rn : Int) := by rw [IntKind.wrap_u8]; omega
            have hlb : (enc V.length ++ flatV (V.take k)).length ≤ 1300000000 := by
              have h1 := HX.out.2.2.2.2.2.2.2.2.2.2.1
              have h2 := enc_len V.length
              have h3 : (V.take k).length * (20 * 900000 + 21) ≤ 64 * (20 * 900000 + 21) := Nat.mul_le_mul_right _ (by rw [List.length_take]; omega)
              rw [List.length_append]
              omega
            have hrl : (rowN l).length ≤ 2000010 := by
              have h1 := rowN_len l
              have h2 := HX.out.2.2.2.2.2.2.1
              have h3 := HX.out.2.2.2.2.2.2.2.1
              omega
            have hww : w.heap.size ≤ wr.heap.size := Nat.le_trans (Nat.le_trans HX.out.2.1.size H7.out.1.size) hbj.size
            have hbw : Below w.heap.size w wr := (HX.out.2.1.trans (H7.out.1.mono HX.out.2.1.size)).trans (hbj.mono (Nat.le_trans HX.out.2.1.size H7.out.1.size))
            have HJ := Lib.hid (And.intro hn3 (And.intro hlb (And.intro hrl (And.intro hrn (And.intro hbw hB)))))
            obtain ⟨nn, hnn⟩ : ∃ m, (rowN l).length = m := ⟨_, rfl⟩
            rw [hnn]
            have HNN := Lib.hid hnn
            clear hno hn1 hn2 hn3 hB hlb hrl hrn hbw hnn hbj
            go_wp2_with (at_builtin; refine appN rfl rfl HJ.out.2.2.2.2.2 (one_bv rn (by omega)) rfl rfl rfl (by have := HJ.out.2.1; simp; simp at this; omega) hww ?_; intro v9 w9 hown9 hg9 hat9; obtain ⟨A9, c9, e9, f9, g9, h9, _⟩ := hown9.form; obtain ⟨n9, hn9⟩ : ∃ m, (enc V.length ++ flatV (V.take k) ++ [UInt8.ofNat rn]).length = m := ⟨_, rfl⟩; rw [hn9] at e9; subst e9; have H9 := Lib.hid (And.intro hown9 (And.intro hg9 (And.intro h9 hn9))); clear hown9 hg9 hat9 f9 g9 h9 hn9)
            have hb9 : Below w.heap.size w w9 := own_below HJ.out.2.2.2.2.1 hww HJ.out.2.2.2.2.2 H9.out.2.1
            have hwr9 : wr.heap.size ≤ w9.heap.size := H9.out.2.1.size
            have hno9 := HNO.out.keep H9.out.2.1 (by
              rw [HNN.out]
              cases hb : (Value.slice A8 nn c8).ownBlock with
              | none => exact .inl rfl
              | some z =>
                refine .inr fun e => ?_
                have h1 := (HNO.out.lt' z (by rw [HNN.out]; exact hb)).1
                have h2 := (HX.out.1.lt z e.symm).2
                have h3 := H7.out.1.size
                omega)
            obtain ⟨Az, cz, ez, z1, z2, z3, _⟩ := hno9.form
            rw [HNN.out] at ez
            injection ez with ez1 ez2 ez3
            clear ez2
            subst ez1
            subst ez3
            rw [EU_dv] at z3
            have hPut := Put_any w9 A9 A8 c9 c8 (enc V.length ++ flatV (V.take k) ++ [UInt8.ofNat rn]) (rowN l) H9.out.2.2.1 z3 (fun x hx => U64.mk (HX.out.2.2.2.2.2.2.2.2.2.2.2 x hx)) (by have h1 := HJ.out.2.1; have h2 := HJ.out.2.2.1; rw [List.length_append, List.length_singleton]; omega)
            rw [H9.out.2.2.2, HNN.out] at hPut
            have hfin : enc V.length ++ flatV (V.take k) ++ [UInt8.ofNat rn] ++ encs (rowN l) = enc V.length ++ flatV (V.take (k + 1)) := by
              rw [HX.out.2.2.2.2.2.1, rowB]
              have e : r.toNat = rn := by have := HJ.out.2.2.2.1; omega
              dsimp only
              rw [e, List.append_assoc, List.append_assoc]
              rfl
            rw [hfin] at hPut
            have HPut := Lib.hid hPut
            clear hno9 z1 z2 z3 hPut hfin
            refine HPut.out.mono ?_
            rintro e wz ⟨Az, cz, rfl, hown, hbz⟩
            have HZ := Lib.hid (And.intro (hown.base_le (base' := w.heap.size) (Nat.le_trans hww hwr9)) (hb9.trans (hbz.mono hb9.size)))
            obtain ⟨nz, hnz⟩ : ∃ m, (enc V.length ++ flatV (V.take (k + 1))).length = m := ⟨_, rfl⟩
            rw [hnz] at HZ ⊢
            clear hown hbz hnz
            go_wp2_with fail
            go_roundw
            case rel => exact ⟨k + 1, by omega, by go_num, HZ.out.1, HZ.out.2⟩
            case measure => simp [intOf]; omega
      · obtain rfl : k = n := by omega
        have hd1 : decide ((k : Int) < (k : Int)) = false := by rw [decide_eq_false_iff_not]; omega
        rw [show V.take k = V by rw [← HV.out.1.len, List.take_length], ← HF.out] at hown
        obtain ⟨A9, c9, rfl, _⟩ := hown.form
        have HZ := Lib.hid hown
        clear hown
        go_wp2_with fail
        go_ret
        exact ⟨A9, c9, rfl, HZ.out, hbel⟩
end Go.Proofs.Ytaflikgdlkaefaa
