/- Digests: their order is that of their texts (plain). -/
import Derived.Test.YtjbelkpmbbkhgaaShP
namespace Go.Proofs.Ytjbelkpmbbkhgaa
open Go.RowKit Go.Proofs.Ytjbelkpmbbkhgaa.Sh

theorem hx_lt : ∀ m : Nat, m < 16 → ∀ n : Nat, n < 16 → (decide (hx m < hx n) = decide (m < n)) ∧ ((hx m == hx n) = decide (m = n)) := by decide
theorem ltB_cons (x y : UInt8) (a b : List UInt8) : ltB (x :: a) (y :: b) = (decide (x.toNat < y.toNat) || (decide (x.toNat = y.toNat) && ltB a b)) := by
  have h1 : x < y ↔ x.toNat < y.toNat := Iff.rfl
  have h2 : y < x ↔ y.toNat < x.toNat := Iff.rfl
  unfold ltB cmpB
  rw [Lib.compareBytes]
  by_cases hlt : x.toNat < y.toNat
  · simp [h1, hlt]
  · by_cases hgt : y.toNat < x.toNat
    · simp [h1, h2, hlt, hgt, show ¬ x.toNat = y.toNat by omega]
    · simp [h1, h2, hlt, hgt, show x.toNat = y.toNat by omega]
theorem ltB_nil : ltB [] [] = false := rfl
theorem text_less : ∀ (a b : List UInt8), a.length = b.length → Op.bytesLess (text a) (text b) = ltB a b
  | [], [], _ => rfl
  | [], _ :: _, h => by simp at h
  | _ :: _, [], h => by simp at h
  | x :: a, y :: b, h => by
    have ih := text_less a b (by simpa using h)
    rw [ltB_cons, text, text, Op.bytesLess, Op.bytesLess, ih]
    have hx8 := UInt8.toNat_lt x
    have hy8 := UInt8.toNat_lt y
    obtain ⟨e1, e2⟩ := hx_lt (x.toNat / 16) (by omega) (y.toNat / 16) (by omega)
    obtain ⟨e3, e4⟩ := hx_lt (x.toNat % 16) (by omega) (y.toNat % 16) (by omega)
    rw [e1, e2, e3, e4]
    generalize ltB a b = t
    generalize x.toNat = m at *
    generalize y.toNat = n at *
    by_cases c1 : m / 16 < n / 16
    · simp [c1, show m < n by omega]
    · by_cases c2 : m / 16 = n / 16
      · by_cases c3 : m % 16 < n % 16
        · simp [c2, c3, show m < n by omega]
        · by_cases c4 : m % 16 = n % 16
          · simp [c2, c4, show m = n by omega]
          · simp [c2, c3, c4, show ¬ m < n by omega, show ¬ m = n by omega]
      · simp [c1, c2, show ¬ m < n by omega, show ¬ m = n by omega]
theorem ltB_trans : ∀ (a b c : List UInt8), a.length = b.length → b.length = c.length → ltB a b = true → ltB b c = true → ltB a c = true
  | [], [], [], _, _, h, _ => by rw [ltB_nil] at h; cases h
  | x :: a, y :: b, z :: c, h1, h2, h3, h4 => by
    have ih := ltB_trans a b c (by simpa using h1) (by simpa using h2)
    rw [ltB_cons] at h3 h4 ⊢
    simp only [Bool.or_eq_true, Bool.and_eq_true, decide_eq_true_eq] at h3 h4 ⊢
    rcases h3 with h3 | ⟨h3, h3'⟩
    · rcases h4 with h4 | ⟨h4, h4'⟩
      · left; omega
      · left; omega
    · rcases h4 with h4 | ⟨h4, h4'⟩
      · left; omega
      · right; exact ⟨by omega, ih h3' h4'⟩
  | [], _ :: _, _, h, _, _, _ => by simp at h
  | _ :: _, [], _, h, _, _, _ => by simp at h
  | [], [], _ :: _, _, h, _, _ => by simp at h
  | _ :: _, _ :: _, [], _, h, _, _ => by simp at h
theorem less_str (w : World) (a b : List UInt8) (h : a.length = b.length) : (binOp .lss 9 (str (text a)) (str (text b))).run Try.prog w = .ok (.bool (ltB a b)) w := by
  unfold str
  rw [binOp_string_lss, ByteArray.toList_eq, ByteArray.toList_eq, ← text_less a b h]
  rfl
theorem ex_lss {o : Oper} {a : Act} {w : World} {x y : Operand} (ho : o.op = .binOp .lss 9 x y 9) {l l' : List UInt8} (hx : a.eval x = str (text l)) (hy : a.eval y = str (text l')) (h : l.length = l'.length) : (execOp a.eval o).run Try.prog w = .ok (.value (.bool (ltB l l'))) w := by
  have hb := less_str w l l' h
  simp only [execOp, ho, hx, hy, Sem.run_bind, eqGuard_lss, Sem.run_pure, hb, Result.andThen_ok]
end Go.Proofs.Ytjbelkpmbbkhgaa

