/- Ranges: plain facts for the laws. -/
import Derived.Test.YtdpkmabojlihmaaRgU
import Derived.Test.YtdpkmabojlihmaaRgV
namespace Go.Proofs.Ytdpkmabojlihmaa.Sp
open Go.Proofs.Ytdpkmabojlihmaa

theorem joinS_len (a b : List Rg) : (joinS a b).length ≤ a.length + b.length := by
  unfold joinS
  split
  · exact fold_addlen b a
  · simp
theorem minusR_len : ∀ (b a : List Rg), right a = true → (∀ r ∈ b, r.ok = true) → (b.foldl cutR a).length ≤ a.length + b.length
  | [], a, _, _ => by simp
  | x :: t, a, ha, hb => by
    have hx := hb x (by simp)
    have h1 := minusR_len t (cutR a x) (cutR_ok hx ha).1 (fun r hr => hb r (by simp [hr]))
    have h2 := cutR_len hx ha
    rw [List.foldl_cons, List.length_cons]
    omega
theorem minusS_len (a b : List Rg) : (minusS a b).length ≤ a.length + b.length := by
  unfold minusS
  split
  · rename_i h; exact minusR_len b a h.1 (right_ok h.2)
  · simp
theorem bitsR_len (x : Nat) (base : Int) : (bitsR x base).length ≤ 64 := Nat.le_trans (ofS_len _) (bl_len x base 64)
theorem bitsR_right (x : Nat) (base : Int) : right (bitsR x base) = true := ofS_right _
theorem join_comm {a b : List Rg} (ha : right a = true) (hb : right b = true) : joinS a b = joinS b a :=
  right_one (joinS_right a b) (joinS_right b a) fun n => by rw [joinS_has ha hb, joinS_has hb ha, Bool.or_comm]
theorem join_assoc {a b c : List Rg} (ha : right a = true) (hb : right b = true) (hc : right c = true) : joinS (joinS a b) c = joinS a (joinS b c) :=
  right_one (joinS_right _ _) (joinS_right _ _) fun n => by rw [joinS_has (joinS_right a b) hc, joinS_has ha hb, joinS_has ha (joinS_right b c), joinS_has hb hc, Bool.or_assoc]
theorem join_idem {a b : List Rg} (ha : right a = true) (hb : right b = true) : joinS (joinS a b) a = joinS a b :=
  right_one (joinS_right _ _) (joinS_right _ _) fun n => by
    rw [joinS_has (joinS_right a b) ha, joinS_has ha hb]
    cases has a n <;> cases has b n <;> rfl
theorem parts_join {a b : List Rg} (ha : right a = true) (hb : right b = true) : joinS (minusS a b) (minusS a (minusS a b)) = a :=
  right_one (joinS_right _ _) ha fun n => by
    rw [joinS_has (minusS_right a b) (minusS_right _ _), minusS_has ha (minusS_right a b), minusS_has ha hb]
    cases has a n <;> cases has b n <;> rfl
theorem join_minus {a b : List Rg} (ha : right a = true) (hb : right b = true) : minusS (joinS a b) b = minusS a b :=
  right_one (minusS_right _ _) (minusS_right _ _) fun n => by
    rw [minusS_has (joinS_right a b) hb, joinS_has ha hb, minusS_has ha hb]
    cases has a n <;> cases has b n <;> rfl
theorem minus_minus {a b c : List Rg} (ha : right a = true) (hb : right b = true) (hc : right c = true) : minusS (minusS a b) c = minusS a (joinS b c) :=
  right_one (minusS_right _ _) (minusS_right _ _) fun n => by
    rw [minusS_has (minusS_right a b) hc, minusS_has ha hb, minusS_has ha (joinS_right b c), joinS_has hb hc]
    cases has a n <;> cases has b n <;> cases has c n <;> rfl
theorem minus_self {a : List Rg} (ha : right a = true) : minusS a a = [] :=
  right_one (minusS_right _ _) rfl fun n => by
    rw [minusS_has ha ha, has_nil]
    cases has a n <;> rfl
theorem minus_nil {a : List Rg} (ha : right a = true) : minusS a [] = a :=
  right_one (minusS_right _ _) ha fun n => by
    rw [minusS_has ha rfl, has_nil]
    cases has a n <;> rfl
theorem join_twice {a r : List Rg} (ha : right a = true) (hr : right r = true) : joinS (joinS a r) r = joinS a r :=
  right_one (joinS_right _ _) (joinS_right _ _) fun n => by
    rw [joinS_has (joinS_right a r) hr, joinS_has ha hr]
    cases has a n <;> cases has r n <;> rfl
theorem bl_mem {x : Nat} {base : Int} {n : Int} : n ∈ bl x base 64 ↔ ∃ i, i < 64 ∧ bit x i = true ∧ n = base + 1 + (i : Int) := by
  unfold bl
  simp only [List.mem_map, List.mem_filter, List.mem_range]
  constructor
  · rintro ⟨i, ⟨h1, h2⟩, rfl⟩; exact ⟨i, h1, h2, rfl⟩
  · rintro ⟨i, h1, h2, rfl⟩; exact ⟨i, ⟨h1, h2⟩, rfl⟩
theorem bitsR_has {x : Nat} {base : Int} {n : Int} : has (bitsR x base) n = true ↔ (1 ≤ n ∧ n ≤ mx) ∧ ∃ i, i < 64 ∧ bit x i = true ∧ n = base + 1 + (i : Int) := by
  rw [bitsR, ofS_has, Bool.and_eq_true, numOk, decide_eq_true_eq, List.contains_iff_mem, bl_mem]
theorem bitsR_at {x : Nat} {base : Int} {i : Nat} (hi : i < 64) (h0 : 0 ≤ base) (h1 : base + 64 ≤ mx) : has (bitsR x base) (base + 1 + (i : Int)) = bit x i := by
  rw [Bool.eq_iff_iff, bitsR_has]
  constructor
  · rintro ⟨_, j, h2, h3, h4⟩
    have : j = i := by omega
    subst this; exact h3
  · intro h
    exact ⟨by omega, i, hi, h, rfl⟩
end Go.Proofs.Ytdpkmabojlihmaa.Sp

