/- Digests: text and parse, order (plain). -/
import Derived.Test.YtjbelkpmbbkhgaaDoorShP
namespace Go.Proofs.YtjbelkpmbbkhgaaDoor
open Go.RowKit Go.Proofs.YtjbelkpmbbkhgaaDoor.Sh

def byt (s : List UInt8) (j : Nat) : UInt8 := UInt8.ofNat ((digS (s[2 * j]?.getD 0)).toNat * 16 + (digS (s[2 * j + 1]?.getD 0)).toNat)
theorem or16 : ∀ a : Nat, a < 16 → ∀ b : Nat, b < 16 → (a * 16 % 256) ||| b = a * 16 + b := by decide
theorem hx_dig (c : UInt8) (h : 0 ≤ digS c) : hx (digS c).toNat = c := by
  have hall : (List.range 256).all (fun n => decide (0 ≤ digS (UInt8.ofNat n) → hx (digS (UInt8.ofNat n)).toNat = UInt8.ofNat n)) = true := by decide +kernel
  rw [List.all_eq_true] at hall
  have := hall c.toNat (List.mem_range.2 (UInt8.toNat_lt c))
  simp only [decide_eq_true_eq, UInt8.ofNat_toNat] at this
  exact this h
theorem parK_even (s : List UInt8) : ∀ j, j ≤ 32 → parK s (2 * j) = (List.range j).map (byt s) ++ List.replicate (32 - j) 0
  | 0, _ => by simp [parK, z32]
  | j + 1, hj => by
    have ih := parK_even s j (by omega)
    have d0 := digS_lt (s[2 * j]?.getD 0)
    have d1 := digS_lt (s[2 * j + 1]?.getD 0)
    rw [show 2 * (j + 1) = 2 * j + 1 + 1 by omega, parK, parK, ih]
    have e1 : (2 * j + 1) / 2 = j := by omega
    have e2 : 2 * j / 2 = j := by omega
    rw [e1, e2]
    have hlen : ((List.range j).map (byt s)).length = j := by simp
    have hrep : List.replicate (32 - j) (0 : UInt8) = 0 :: List.replicate (32 - (j + 1)) 0 := by
      rw [show 32 - j = (32 - (j + 1)) + 1 by omega, List.replicate_succ]
    rw [hrep]
    have hg : ∀ (x : UInt8) (r : List UInt8), (((List.range j).map (byt s)) ++ x :: r)[j]? = some x := by
      intro x r
      rw [List.getElem?_append_right (by omega), hlen, Nat.sub_self]
      rfl
    have hs : ∀ (x y : UInt8) (r : List UInt8), (((List.range j).map (byt s)) ++ x :: r).set j y = ((List.range j).map (byt s)) ++ y :: r := by
      intro x y r
      rw [List.set_append, if_neg (by omega), hlen, Nat.sub_self]
      rfl
    rw [hg, hs, hg, hs, List.range_succ, List.map_append, List.append_assoc]
    congr 1
    simp only [List.map_cons, List.map_nil, List.singleton_append, List.cons.injEq, and_true, Option.getD_some]
    unfold byt
    congr 1
    have ha : (digS (s[2 * j]?.getD 0)).toNat < 16 := by omega
    have hb : (digS (s[2 * j + 1]?.getD 0)).toNat < 16 := by omega
    generalize (digS (s[2 * j]?.getD 0)).toNat = a at *
    generalize (digS (s[2 * j + 1]?.getD 0)).toNat = b at *
    rw [show (0 : UInt8).toNat * 16 % 256 ||| a = a by simp, UInt8.toNat_ofNat', show a % 2 ^ 8 = a by omega]
    exact or16 a ha b hb
theorem text_one (b : UInt8) : text [b] = [hx (b.toNat / 16), hx (b.toNat % 16)] := rfl
theorem text_parK (s : List UInt8) (hl : s.length = 64) (hg : good s 64) : text (parK s 64) = s := by
  have h := parK_even s 32 (Nat.le_refl _)
  rw [show 2 * 32 = 64 from rfl] at h
  rw [h, Nat.sub_self, List.replicate_zero, List.append_nil]
  have key : ∀ j, j ≤ 32 → text ((List.range j).map (byt s)) = s.take (2 * j) := by
    intro j
    induction j with
    | zero => intro _; simp [text]
    | succ j ih =>
      intro hj
      have a0 := hg (2 * j) (by omega)
      have a1 := hg (2 * j + 1) (by omega)
      have d0 := digS_lt (s[2 * j]?.getD 0)
      have d1 := digS_lt (s[2 * j + 1]?.getD 0)
      have h0 := hx_dig _ a0
      have h1 := hx_dig _ a1
      rw [List.range_succ, List.map_append, text_app, ih (by omega), List.map_cons, List.map_nil, text_one]
      have hb : (byt s j).toNat = (digS (s[2 * j]?.getD 0)).toNat * 16 + (digS (s[2 * j + 1]?.getD 0)).toNat := by
        unfold byt
        rw [UInt8.toNat_ofNat']
        omega
      rw [hb, show ((digS (s[2 * j]?.getD 0)).toNat * 16 + (digS (s[2 * j + 1]?.getD 0)).toNat) / 16 = (digS (s[2 * j]?.getD 0)).toNat by omega,
        show ((digS (s[2 * j]?.getD 0)).toNat * 16 + (digS (s[2 * j + 1]?.getD 0)).toNat) % 16 = (digS (s[2 * j + 1]?.getD 0)).toNat by omega, h0, h1]
      have t1 : s.take (2 * j + 1 + 1) = s.take (2 * j + 1) ++ s[2 * j + 1]?.toList := List.take_add_one
      have t2 : s.take (2 * j + 1) = s.take (2 * j) ++ s[2 * j]?.toList := List.take_add_one
      rw [show 2 * (j + 1) = 2 * j + 1 + 1 by omega, t1, t2, List.getElem?_eq_getElem (by omega), List.getElem?_eq_getElem (by omega)]
      simp only [Option.getD_some, Option.toList_some, List.append_assoc, List.singleton_append]
  have := key 32 (Nat.le_refl _)
  rw [this, show 2 * 32 = s.length by omega, List.take_length]
/-- what is read is the text of what it is read as -/
theorem parse_text {s : List UInt8} (h : (parse s).2 = true) : text (parse s).1 = s := by
  have ht := text_parK s
  unfold parse at h ⊢
  generalize parK s 64 = q at *
  by_cases hc : s.length = 64 ∧ s.all (fun c => decide (0 ≤ digS c)) = true
  · rw [if_pos hc]
    refine ht hc.1 fun i hi => ?_
    have := List.all_eq_true.1 hc.2 (s[i]'(by omega)) (List.getElem_mem _)
    rw [List.getElem?_eq_getElem (by omega)]
    simpa using this
  · rw [if_neg hc] at h
    cases h
theorem parse_len (s : List UInt8) : (parse s).1.length = 32 := by
  have ht := parK_len s 64
  unfold parse
  generalize parK s 64 = q at *
  split
  · exact ht
  · rfl
end Go.Proofs.YtjbelkpmbbkhgaaDoor

