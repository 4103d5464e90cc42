/- Digests: the document's text. -/
import Derived.Test.YtjbelkpmbbkhgaaShT
namespace Go.Proofs.Ytjbelkpmbbkhgaa
open Go.RowKit Go.Proofs.Ytjbelkpmbbkhgaa.Sh

theorem hexx (a : Nat) (h : a < 16) : Value.string ((ByteArray.mk #[48, 49, 50, 51, 52, 53, 54, 55, 56, 57, 97, 98, 99, 100, 101, 102]).extract a (a + 1)) = str [hx a] := by
  match a, h with
  | 0, _ => rfl
  | 1, _ => rfl
  | 2, _ => rfl
  | 3, _ => rfl
  | 4, _ => rfl
  | 5, _ => rfl
  | 6, _ => rfl
  | 7, _ => rfl
  | 8, _ => rfl
  | 9, _ => rfl
  | 10, _ => rfl
  | 11, _ => rfl
  | 12, _ => rfl
  | 13, _ => rfl
  | 14, _ => rfl
  | 15, _ => rfl
  | a + 16, h => exact absurd h (by omega)
theorem strAdd (a b : List UInt8) (w : World) (h : a.length + b.length ≤ 1000000) : (binOp .add 9 (str a) (str b)).run Try.prog w = .ok (str (a ++ b)) w := by
  unfold str
  go_simp
  rw [if_neg (by omega)]
  congr 2
  first | done | (apply ByteArray.ext; simp)
set_option maxRecDepth 100000 in
set_option maxHeartbeats 1600000 in
theorem IdText_any (w : World) (l : List UInt8) (hl : l.length = 32) :
    Calls Try.prog 7 #[.agg (bv l).toArray] w fun e w' => e = .returned (str (text l)) ∧ Below w.heap.size w w' := by
  have hA := At.new w 23 (bv l).toArray
  have hb1 := balloc (Below.refl w.heap.size w) (.cells (bv l).toArray 23)
  have HL := Lib.hid hl
  clear hl
  go_enter Try.func7, Try.ntmps7
  replace hA : At (w.alloc (.cells (bv l).toArray 23)) w.heap.size (bv l) := hA
  go_wp2_with (refine opVal rfl (ex_box32 rfl rfl) ?_)
  generalize w.alloc (.cells (bv l).toArray 23) = w1 at hb1 hA ⊢
  go_loopw [4, 3] (fun z4 z3 wr => ∃ k : Nat, k ≤ 32 ∧ z4 = .int .i64 (k : Int) ∧ z3 = str (text (l.take k)) ∧ At wr w.heap.size (bv l) ∧ Below w.heap.size w wr) (fun z4 _ _ => 32 - (intOf z4).toNat)
  case atStart => exact ⟨0, by omega, rfl, rfl, hA, hb1⟩
  case round =>
    clear hb1 hA
    obtain ⟨k, hk, rfl, rfl, hA, hbel⟩ := hrel
    by_cases hlt : k < 32
    · have hstep := text_take l k (by rw [HL.out]; exact hlt)
      have y0 := hA.c k (bv_get l k (by rw [HL.out]; exact hlt))
      have hcl : (l[k]?.getD 0).toNat < 256 := UInt8.toNat_lt _
      generalize (l[k]?.getD 0).toNat = x at *
      obtain ⟨a, ha⟩ : ∃ a, a = x / 16 := ⟨_, rfl⟩
      obtain ⟨b, hb⟩ : ∃ b, b = x % 16 := ⟨_, rfl⟩
      rw [← ha, ← hb] at hstep
      have ha16 : a < 16 := by omega
      have hb16 : b < 16 := by omega
      have qa : (x : Int) / 16 = (a : Int) := by omega
      have qb : bits .and .u8 (x : Int) 15 = (b : Int) := by
        have h := u8_and_nat x 15 hcl (by omega)
        have h2 : x &&& 15 = x % 16 := Nat.and_two_pow_sub_one_eq_mod _ 4
        rw [h2, ← hb] at h
        exact h
      have i0 : IntKind.u8.wrap ((a : Int) + 1) = ((a + 1 : Nat) : Int) := by rw [IntKind.wrap_u8]; omega
      have i1 : IntKind.u8.wrap ((b : Int) + 1) = ((b + 1 : Nat) : Int) := by rw [IntKind.wrap_u8]; omega
      have i8 : IntKind.i64.wrap (k : Int) = (k : Int) := by rw [IntKind.wrap_i64]; omega
      have hk0 : (0 : Int) ≤ (k : Int) := by omega
      have hk1 : (k : Int) < 32 := by omega
      have e0 := cellB y0
      have HST := Lib.hid hstep
      have hT : (text (l.take k)).length ≤ 64 := by rw [text_len, List.length_take, HL.out]; omega
      generalize text (l.take k) = T at *
      clear ha hb hstep y0
      go_wp2_with fail
      refine bstart (by kernel_rfl) ?_
      refine btake 0 (oi := _) (v := ?_) (by simp only [List.getElem?_toArray, List.getElem?_cons_zero]; rfl) (by kernel_rfl) (by exact fun _ _ _ h => h) (by first | assumption | exact KB.refl _) (.inl ⟨by rfl, fun W hW => ?_⟩) ?_; rotate_left
      · (go_simp; first | done | with_reducible rfl)
      try simp only [Act.put, List.setIfInBounds_toArray, List.set_cons_zero, List.set_cons_succ]
      refine btake 1 (oi := _) (v := ?_) (by simp only [List.getElem?_toArray, List.getElem?_cons_succ, List.getElem?_cons_zero]; rfl) (by kernel_rfl) (by exact fun _ _ _ h => h) (by first | assumption | exact KB.refl _) (.inl ⟨by rfl, fun W hW => ?_⟩) ?_; rotate_left
      · (go_simp; first | done | with_reducible rfl)
      try simp only [Act.put, List.setIfInBounds_toArray, List.set_cons_zero, List.set_cons_succ]
      refine btake 2 (oi := _) (v := ?_) (by simp only [List.getElem?_toArray, List.getElem?_cons_succ, List.getElem?_cons_zero]; rfl) (by kernel_rfl) (by exact fun _ _ _ h => h) (by first | assumption | exact KB.refl _) (.inl ⟨by rfl, fun W hW => ?_⟩) ?_; rotate_left
      · (go_simp; first | done | with_reducible rfl)
      try simp only [Act.put, List.setIfInBounds_toArray, List.set_cons_zero, List.set_cons_succ]
      refine btake 3 (oi := _) (v := ?_) (by simp only [List.getElem?_toArray, List.getElem?_cons_succ, List.getElem?_cons_zero]; rfl) (by kernel_rfl) (by exact fun _ _ _ h => h) (by first | assumption | exact KB.refl _) (.inl ⟨by rfl, fun W hW => ?_⟩) ?_; rotate_left
      · (go_simp; first | done | with_reducible rfl)
      try simp only [Act.put, List.setIfInBounds_toArray, List.set_cons_zero, List.set_cons_succ]
      refine btake 4 (oi := _) (v := ?_) (by simp only [List.getElem?_toArray, List.getElem?_cons_succ, List.getElem?_cons_zero]; rfl) (by kernel_rfl) (by exact fun _ _ _ h => h) (by first | assumption | exact KB.refl _) (.inl ⟨by rfl, fun W hW => ?_⟩) ?_; rotate_left
      · (go_simp; first | done | with_reducible rfl)
      try simp only [Act.put, List.setIfInBounds_toArray, List.set_cons_zero, List.set_cons_succ]
      refine btake 5 (oi := _) (v := ?_) (by simp only [List.getElem?_toArray, List.getElem?_cons_succ, List.getElem?_cons_zero]; rfl) (by kernel_rfl) (by exact fun _ _ _ h => h) (by first | assumption | exact KB.refl _) (.inl ⟨by rfl, fun W hW => ?_⟩) ?_; rotate_left
      · (go_simp; first | done | with_reducible rfl)
      try simp only [Act.put, List.setIfInBounds_toArray, List.set_cons_zero, List.set_cons_succ]
      refine btake 6 (oi := _) (v := ?_) (by simp only [List.getElem?_toArray, List.getElem?_cons_succ, List.getElem?_cons_zero]; rfl) (by kernel_rfl) (by exact fun _ _ _ h => h) (by first | assumption | exact KB.refl _) (.inl ⟨by rfl, fun W hW => ?_⟩) ?_; rotate_left
      · (go_simp; first | done | with_reducible rfl)
      try simp only [Act.put, List.setIfInBounds_toArray, List.set_cons_zero, List.set_cons_succ]
      refine btake 7 (oi := _) (v := ?_) (by simp only [List.getElem?_toArray, List.getElem?_cons_succ, List.getElem?_cons_zero]; rfl) (by kernel_rfl) (by exact fun _ _ _ h => h) (by first | assumption | exact KB.refl _) (.inl ⟨by rfl, fun W hW => ?_⟩) ?_; rotate_left
      · (go_simp; first | done | with_reducible rfl)
      try simp only [Act.put, List.setIfInBounds_toArray, List.set_cons_zero, List.set_cons_succ]
      refine btake 8 (oi := _) (v := ?_) (by simp only [List.getElem?_toArray, List.getElem?_cons_succ, List.getElem?_cons_zero]; rfl) (by kernel_rfl) (by exact fun _ _ _ h => h) (by first | assumption | exact KB.refl _) (.inl ⟨by rfl, fun W hW => ?_⟩) ?_; rotate_left
      · (go_simp; first | done | with_reducible rfl)
      try simp only [Act.put, List.setIfInBounds_toArray, List.set_cons_zero, List.set_cons_succ]
      refine btake 9 (oi := _) (v := ?_) (by simp only [List.getElem?_toArray, List.getElem?_cons_succ, List.getElem?_cons_zero]; rfl) (by kernel_rfl) (by exact fun _ _ _ h => h) (by first | assumption | exact KB.refl _) (.inl ⟨by rfl, fun W hW => ?_⟩) ?_; rotate_left
      · (go_simp; first | done | with_reducible rfl)
      try simp only [Act.put, List.setIfInBounds_toArray, List.set_cons_zero, List.set_cons_succ]
      refine btake 10 (oi := _) (v := ?_) (by simp only [List.getElem?_toArray, List.getElem?_cons_succ, List.getElem?_cons_zero]; rfl) (by kernel_rfl) (by exact fun _ _ _ h => h) (by first | assumption | exact KB.refl _) (.inl ⟨by rfl, fun W hW => ?_⟩) ?_; rotate_left
      · go_simp
        rw [if_pos (show (0 : Int) ≤ (a : Int) + 1 ∧ (a : Int) + 1 ≤ 16 from ⟨by omega, by omega⟩), if_pos (show (a : Int) ≤ (a : Int) + 1 by omega), hexx a ha16]
      try simp only [Act.put, List.setIfInBounds_toArray, List.set_cons_zero, List.set_cons_succ]
      refine btake 11 (oi := _) (v := ?_) (by simp only [List.getElem?_toArray, List.getElem?_cons_succ, List.getElem?_cons_zero]; rfl) (by kernel_rfl) (by exact fun _ _ _ h => h) (by first | assumption | exact KB.refl _) (.inl ⟨by rfl, fun W hW => ?_⟩) ?_; rotate_left
      · go_simp
        rw [strAdd _ _ _ (by simp; omega)]
        rfl
      try simp only [Act.put, List.setIfInBounds_toArray, List.set_cons_zero, List.set_cons_succ]
      refine btake 12 (oi := _) (v := ?_) (by simp only [List.getElem?_toArray, List.getElem?_cons_succ, List.getElem?_cons_zero]; rfl) (by kernel_rfl) (by exact fun _ _ _ h => h) (by first | assumption | exact KB.refl _) (.inl ⟨by rfl, fun W hW => ?_⟩) ?_; rotate_left
      · (go_simp; first | done | with_reducible rfl)
      try simp only [Act.put, List.setIfInBounds_toArray, List.set_cons_zero, List.set_cons_succ]
      refine btake 13 (oi := _) (v := ?_) (by simp only [List.getElem?_toArray, List.getElem?_cons_succ, List.getElem?_cons_zero]; rfl) (by kernel_rfl) (by exact fun _ _ _ h => h) (by first | assumption | exact KB.refl _) (.inl ⟨by rfl, fun W hW => ?_⟩) ?_; rotate_left
      · (go_simp; first | done | with_reducible rfl)
      try simp only [Act.put, List.setIfInBounds_toArray, List.set_cons_zero, List.set_cons_succ]
      refine btake 14 (oi := _) (v := ?_) (by simp only [List.getElem?_toArray, List.getElem?_cons_succ, List.getElem?_cons_zero]; rfl) (by kernel_rfl) (by exact fun _ _ _ h => h) (by first | assumption | exact KB.refl _) (.inl ⟨by rfl, fun W hW => ?_⟩) ?_; rotate_left
      · (go_simp; first | done | with_reducible rfl)
      try simp only [Act.put, List.setIfInBounds_toArray, List.set_cons_zero, List.set_cons_succ]
      refine btake 15 (oi := _) (v := ?_) (by simp only [List.getElem?_toArray, List.getElem?_cons_succ, List.getElem?_cons_zero]; rfl) (by kernel_rfl) (by exact fun _ _ _ h => h) (by first | assumption | exact KB.refl _) (.inl ⟨by rfl, fun W hW => ?_⟩) ?_; rotate_left
      · (go_simp; first | done | with_reducible rfl)
      try simp only [Act.put, List.setIfInBounds_toArray, List.set_cons_zero, List.set_cons_succ]
      refine btake 16 (oi := _) (v := ?_) (by simp only [List.getElem?_toArray, List.getElem?_cons_succ, List.getElem?_cons_zero]; rfl) (by kernel_rfl) (by exact fun _ _ _ h => h) (by first | assumption | exact KB.refl _) (.inl ⟨by rfl, fun W hW => ?_⟩) ?_; rotate_left
      · (go_simp; first | done | with_reducible rfl)
      try simp only [Act.put, List.setIfInBounds_toArray, List.set_cons_zero, List.set_cons_succ]
      refine btake 17 (oi := _) (v := ?_) (by simp only [List.getElem?_toArray, List.getElem?_cons_succ, List.getElem?_cons_zero]; rfl) (by kernel_rfl) (by exact fun _ _ _ h => h) (by first | assumption | exact KB.refl _) (.inl ⟨by rfl, fun W hW => ?_⟩) ?_; rotate_left
      · (go_simp; first | done | with_reducible rfl)
      try simp only [Act.put, List.setIfInBounds_toArray, List.set_cons_zero, List.set_cons_succ]
      refine btake 18 (oi := _) (v := ?_) (by simp only [List.getElem?_toArray, List.getElem?_cons_succ, List.getElem?_cons_zero]; rfl) (by kernel_rfl) (by exact fun _ _ _ h => h) (by first | assumption | exact KB.refl _) (.inl ⟨by rfl, fun W hW => ?_⟩) ?_; rotate_left
      · (go_simp; first | done | with_reducible rfl)
      try simp only [Act.put, List.setIfInBounds_toArray, List.set_cons_zero, List.set_cons_succ]
      refine btake 19 (oi := _) (v := ?_) (by simp only [List.getElem?_toArray, List.getElem?_cons_succ, List.getElem?_cons_zero]; rfl) (by kernel_rfl) (by exact fun _ _ _ h => h) (by first | assumption | exact KB.refl _) (.inl ⟨by rfl, fun W hW => ?_⟩) ?_; rotate_left
      · (go_simp; first | done | with_reducible rfl)
      try simp only [Act.put, List.setIfInBounds_toArray, List.set_cons_zero, List.set_cons_succ]
      refine btake 20 (oi := _) (v := ?_) (by simp only [List.getElem?_toArray, List.getElem?_cons_succ, List.getElem?_cons_zero]; rfl) (by kernel_rfl) (by exact fun _ _ _ h => h) (by first | assumption | exact KB.refl _) (.inl ⟨by rfl, fun W hW => ?_⟩) ?_; rotate_left
      · (go_simp; first | done | with_reducible rfl)
      try simp only [Act.put, List.setIfInBounds_toArray, List.set_cons_zero, List.set_cons_succ]
      refine btake 21 (oi := _) (v := ?_) (by simp only [List.getElem?_toArray, List.getElem?_cons_succ, List.getElem?_cons_zero]; rfl) (by kernel_rfl) (by exact fun _ _ _ h => h) (by first | assumption | exact KB.refl _) (.inl ⟨by rfl, fun W hW => ?_⟩) ?_; rotate_left
      · go_simp
        rw [if_pos (show (0 : Int) ≤ (b : Int) + 1 ∧ (b : Int) + 1 ≤ 16 from ⟨by omega, by omega⟩), if_pos (show (b : Int) ≤ (b : Int) + 1 by omega), hexx b hb16]
      try simp only [Act.put, List.setIfInBounds_toArray, List.set_cons_zero, List.set_cons_succ]
      refine btake 22 (oi := _) (v := ?_) (by simp only [List.getElem?_toArray, List.getElem?_cons_succ, List.getElem?_cons_zero]; rfl) (by kernel_rfl) (by exact fun _ _ _ h => h) (by first | assumption | exact KB.refl _) (.inl ⟨by rfl, fun W hW => ?_⟩) ?_; rotate_left
      · go_simp
        rw [strAdd _ _ _ (by simp; omega)]
        rfl
      try simp only [Act.put, List.setIfInBounds_toArray, List.set_cons_zero, List.set_cons_succ]
      refine btake 23 (oi := _) (v := ?_) (by simp only [List.getElem?_toArray, List.getElem?_cons_succ, List.getElem?_cons_zero]; rfl) (by kernel_rfl) (by exact fun _ _ _ h => h) (by first | assumption | exact KB.refl _) (.inl ⟨by rfl, fun W hW => ?_⟩) ?_; rotate_left
      · (go_simp; first | done | with_reducible rfl)
      try simp only [Act.put, List.setIfInBounds_toArray, List.set_cons_zero, List.set_cons_succ]
      refine bdone (by kernel_rfl) ?_
      rw [List.append_assoc, show [hx a] ++ [hx b] = [hx a, hx b] from rfl, ← HST.out]
      have hA3 := hA.drew
      have hb3 := hbel.drew
      clear e0 hA hbel
      go_wp2_with fail
      go_roundw
      case rel => exact ⟨k + 1, by omega, by go_num, rfl, hA3, hb3⟩
      case measure => simp [intOf] <;> omega
    · obtain rfl : k = 32 := by omega
      have hall : l.take 32 = l := by rw [← HL.out, List.take_length]
      rw [hall, show (((32 : Nat)) : Int) = (32 : Int) from rfl]
      go_wp2_with fail
      go_ret
      exact ⟨rfl, hbel⟩
/-- a digit's value -/
def digS (c : UInt8) : Int := if 48 ≤ c.toNat ∧ c.toNat ≤ 57 then (c.toNat : Int) - 48 else if 97 ≤ c.toNat ∧ c.toNat ≤ 102 then (c.toNat : Int) - 97 + 10 else -1
set_option maxRecDepth 100000 in
theorem digit_any (w : World) (c : UInt8) : Calls Try.prog 17 #[.int .u8 (c.toNat : Int)] w fun e w' => e = .returned (.int .i64 (digS c)) ∧ w = w' := by
  obtain ⟨d, hd⟩ : ∃ d, d = digS c := ⟨_, rfl⟩
  have hcl : c.toNat < 256 := UInt8.toNat_lt _
  rw [← hd]
  unfold digS at hd
  generalize c.toNat = x at *
  by_cases h1 : 48 ≤ x ∧ x ≤ 57
  · rw [if_pos h1] at hd
    obtain ⟨z, hz⟩ : ∃ z : Nat, z = x - 48 := ⟨_, rfl⟩
    have hdz : d = (z : Int) := by omega
    have a1 : (48 : Int) ≤ (x : Int) := by omega
    have a2 : (x : Int) ≤ 57 := by omega
    have i0 : IntKind.u8.wrap ((x : Int) - 48) = (z : Int) := by rw [IntKind.wrap_u8]; omega
    have HD := Lib.hid hdz
    have hz9 : z < 10 := by omega
    clear hd hdz hz h1
    go_enter Try.func17, Try.ntmps17
    go_wp2_with fail
    go_ret
    exact ⟨by rw [HD.out]; rfl, rfl⟩
  · rw [if_neg h1] at hd
    by_cases h2 : 97 ≤ x ∧ x ≤ 102
    · rw [if_pos h2] at hd
      obtain ⟨z, hz⟩ : ∃ z : Nat, z = x - 97 := ⟨_, rfl⟩
      have hdz : d = (z : Int) + 10 := by omega
      have a1 : (48 : Int) ≤ (x : Int) := by omega
      have a2 : ¬ (x : Int) ≤ 57 := by omega
      have a3 : (97 : Int) ≤ (x : Int) := by omega
      have a4 : (x : Int) ≤ 102 := by omega
      have i0 : IntKind.u8.wrap ((x : Int) - 97) = (z : Int) := by rw [IntKind.wrap_u8]; omega
      have HD := Lib.hid hdz
      have hz9 : z < 6 := by omega
      clear hd hdz hz h1 h2
      go_enter Try.func17, Try.ntmps17
      go_wp2_with fail
      go_ret
      exact ⟨by rw [HD.out]; rfl, rfl⟩
    · rw [if_neg h2] at hd
      have HD := Lib.hid hd
      clear hd
      go_enter Try.func17, Try.ntmps17
      by_cases b1 : (48 : Int) ≤ (x : Int)
      · have b2 : ¬ (x : Int) ≤ 57 := by omega
        by_cases b3 : (97 : Int) ≤ (x : Int)
        · have b4 : ¬ (x : Int) ≤ 102 := by omega
          clear h1 h2
          go_wp2_with fail
          go_ret
          exact ⟨by rw [HD.out]; rfl, rfl⟩
        · clear h1 h2
          go_wp2_with fail
          go_ret
          exact ⟨by rw [HD.out]; rfl, rfl⟩
      · have b3 : ¬ (97 : Int) ≤ (x : Int) := by omega
        clear h1 h2
        go_wp2_with fail
        go_ret
        exact ⟨by rw [HD.out]; rfl, rfl⟩
end Go.Proofs.Ytjbelkpmbbkhgaa

