/- Digests: as texts. -/
import Derived.Test.YtjbelkpmbbkhgaaShL
namespace Go.Proofs.Ytjbelkpmbbkhgaa
open Go.RowKit Go.Proofs.Ytjbelkpmbbkhgaa.Sh

def hexs : List UInt8 := [48, 49, 50, 51, 52, 53, 54, 55, 56, 57, 97, 98, 99, 100, 101, 102]
def hx (n : Nat) : UInt8 := hexs[n]?.getD 0
def text : List UInt8 → List UInt8
  | [] => []
  | c :: l => hx (c.toNat / 16) :: hx (c.toNat % 16) :: text l
theorem hexv (a : Nat) (h : a < 16) (pf : a < (ByteArray.mk #[48, 49, 50, 51, 52, 53, 54, 55, 56, 57, 97, 98, 99, 100, 101, 102]).size) : Value.int .u8 (((ByteArray.mk #[48, 49, 50, 51, 52, 53, 54, 55, 56, 57, 97, 98, 99, 100, 101, 102])[a]'pf).toNat : Int) = .int .u8 ((hx a).toNat : Int) := by
  match a, h with
  | 0, _ => rfl
  | 1, _ => rfl
  | 2, _ => rfl
  | 3, _ => rfl
  | 4, _ => rfl
  | 5, _ => rfl
  | 6, _ => rfl
  | 7, _ => rfl
  | 8, _ => rfl
  | 9, _ => rfl
  | 10, _ => rfl
  | 11, _ => rfl
  | 12, _ => rfl
  | 13, _ => rfl
  | 14, _ => rfl
  | 15, _ => rfl
  | a + 16, h => exact absurd h (by omega)
section
variable {o : Oper} {a : Act} {w : World} {x y : Operand}
theorem ex_ix32 (ho : o.op = .index 23 x y) {us : List Value} {k : Nat} {u : Value} (hx : a.eval x = .agg us.toArray) (hy : a.eval y = .int .i64 (k : Int)) (hl : us.length = 32) (hu : us[k]? = some u) (_h1 : u.oneCell' = true) : (execOp a.eval o).run Try.prog w = .ok (.value u) w := by
  have hk : k < 32 := by rw [← hl]; exact (List.getElem?_eq_some_iff.1 hu).1
  have hk2 : (k : Int) < 32 := by omega
  have hk3 : us.toArray[k]? = some u := by simpa using hu
  simp [execOp, ho, hx, hy, Instr.index, asIntOf, hk, part, hu]
end
theorem text_app (a b : List UInt8) : text (a ++ b) = text a ++ text b := by
  induction a with
  | nil => rfl
  | cons c a ih => simp [text, ih]
theorem text_len (l : List UInt8) : (text l).length = 2 * l.length := by
  induction l with
  | nil => rfl
  | cons c a ih => simp [text, ih]; omega
theorem text_take (l : List UInt8) (k : Nat) (h : k < l.length) : text (l.take (k + 1)) = text (l.take k) ++ [hx ((l[k]?.getD 0).toNat / 16), hx ((l[k]?.getD 0).toNat % 16)] := by
  rw [List.take_add_one, text_app, List.getElem?_eq_getElem h]
  rfl
set_option maxRecDepth 100000 in
set_option maxHeartbeats 1600000 in
theorem Text_any (w : World) (l : List UInt8) (hl : l.length = 32) :
    Calls Try.prog 6 #[.agg (bv l).toArray] w fun e w' => e = .returned (str (text l)) ∧ Below w.heap.size w w' := by
  have hA := At.new w 23 (bv l).toArray
  have hb1 := balloc (Below.refl w.heap.size w) (.cells (bv l).toArray 23)
  have hb32 : (bv l).length = 32 := by rw [bv_len, hl]
  have HL := Lib.hid (And.intro hl hb32)
  clear hl hb32
  go_enter Try.func6, Try.ntmps6
  replace hA : At (w.alloc (.cells (bv l).toArray 23)) w.heap.size (bv l) := hA
  have HA := Lib.hid hA
  go_wp2_with (first | (refine opVal rfl (ex_box32 rfl rfl) ?_) | (refine opVal rfl (ex_ld32 rfl rfl HA.out HL.out.2) ?_))
  generalize w.alloc (.cells (bv l).toArray 23) = w1 at hb1 ⊢
  clear HA hA
  go_loopw [7, 3] (fun z7 z3 wr => ∃ k : Nat, k ≤ 32 ∧ z7 = .int .i64 (k : Int) ∧ OwnB wr w.heap.size z3 (text (l.take k)) ∧ Below w.heap.size w wr) (fun z7 _ _ => 32 - (intOf z7).toNat)
  case atStart => exact ⟨0, by omega, rfl, OwnB.nil _ _, hb1⟩
  case round =>
    clear hb1
    obtain ⟨k, hk, rfl, hown, hbel⟩ := hrel
    obtain ⟨A3, c3, rfl, _, _, hsl, _, _⟩ := hown.form
    obtain ⟨q, hq⟩ : ∃ q, q = (text (l.take k)).length := ⟨_, rfl⟩
    rw [← hq] at hown ⊢
    by_cases hlt : k < 32
    · have hstep := text_take l k (by rw [HL.out.1]; exact hlt)
      have hgx := bv_get l k (by rw [HL.out.1]; exact hlt)
      have hcl : (l[k]?.getD 0).toNat < 256 := UInt8.toNat_lt _
      generalize (l[k]?.getD 0).toNat = x at *
      obtain ⟨a, ha⟩ : ∃ a, a = x / 16 := ⟨_, rfl⟩
      obtain ⟨b, hb⟩ : ∃ b, b = x % 16 := ⟨_, rfl⟩
      rw [← ha, ← hb] at hstep
      have ha16 : a < 16 := by omega
      have hb16 : b < 16 := by omega
      have qa : (x : Int) / 16 = (a : Int) := by omega
      have qb : bits .and .u8 (x : Int) 15 = (b : Int) := by
        have h := u8_and_nat x 15 hcl (by omega)
        have h2 : x &&& 15 = x % 16 := Nat.and_two_pow_sub_one_eq_mod _ 4
        rw [h2, ← hb] at h
        exact h
      clear ha hb
      have HST := Lib.hid (And.intro hq (And.intro hstep hgx))
      clear hq hstep hgx
      go_wp2_with (refine opVal rfl (ex_ix32 rfl rfl rfl HL.out.2 HST.out.2.2 rfl) ?_)
      have hown2 : OwnB (wr.drew.alloc (.cells #[.int .u8 ((hx a).toNat : Int), .int .u8 ((hx b).toNat : Int)] 5)) w.heap.size (.slice A3 q c3) (text (l.take k)) := (hown.below (Below.refl _ wr).drew).alloc _
      have hSl2 : Sl (wr.drew.alloc (.cells #[.int .u8 ((hx a).toNat : Int), .int .u8 ((hx b).toNat : Int)] 5)) (wr.heap.size + 1) (some ⟨wr.heap.size, 0, none⟩) (bv [hx a, hx b]) := Sl.new wr.drew 5 #[.int .u8 ((hx a).toNat : Int), .int .u8 ((hx b).toNat : Int)] (0, 0)
      have hbel2 : Below w.heap.size w (wr.drew.alloc (.cells #[.int .u8 ((hx a).toNat : Int), .int .u8 ((hx b).toNat : Int)] 5)) := hbel.drew.alloc hbel.size _
      have hbs2 := hbel2.size
      have hq9 : q ≤ 100 := by have := HST.out.1; rw [text_len, List.length_take] at this; omega
      have hS0 : KB #[] wr.drew := kb0 _
      refine bstartH (#[]) (by kernel_rfl) ?_
      refine btake 0 (oi := _) (v := ?_) (by simp only [List.getElem?_toArray, List.getElem?_cons_zero]; rfl) (by kernel_rfl) (by exact fun _ _ _ h => h) (by first | assumption | exact KB.refl _) (.inl ⟨by rfl, fun W hW => ?_⟩) ?_; rotate_left
      · (go_simp; first | done | with_reducible rfl)
      try simp only [Act.put, List.setIfInBounds_toArray, List.set_cons_zero, List.set_cons_succ]
      refine btake 1 (oi := _) (v := ?_) (by simp only [List.getElem?_toArray, List.getElem?_cons_succ, List.getElem?_cons_zero]; rfl) (by kernel_rfl) (by exact fun _ _ _ h => h) (by first | assumption | exact KB.refl _) (.inl ⟨by rfl, fun W hW => ?_⟩) ?_; rotate_left
      · (go_simp; first | done | with_reducible rfl)
      try simp only [Act.put, List.setIfInBounds_toArray, List.set_cons_zero, List.set_cons_succ]
      refine btake 2 (oi := _) (v := ?_) (by simp only [List.getElem?_toArray, List.getElem?_cons_succ, List.getElem?_cons_zero]; rfl) (by kernel_rfl) (by exact fun _ _ _ h => h) (by first | assumption | exact KB.refl _) (.inl ⟨by rfl, fun W hW => ?_⟩) ?_; rotate_left
      · (go_simp; first | done | with_reducible rfl)
      try simp only [Act.put, List.setIfInBounds_toArray, List.set_cons_zero, List.set_cons_succ]
      refine btake 3 (oi := _) (v := ?_) (by simp only [List.getElem?_toArray, List.getElem?_cons_succ, List.getElem?_cons_zero]; rfl) (by kernel_rfl) (by exact fun _ _ _ h => h) (by first | assumption | exact KB.refl _) (.inl ⟨by rfl, fun W hW => ?_⟩) ?_; rotate_left
      · go_simp
        rw [dif_pos (show (a : Int) < 16 by omega), hexv a ha16]
        rfl
      try simp only [Act.put, List.setIfInBounds_toArray, List.set_cons_zero, List.set_cons_succ]
      refine btake 4 (oi := _) (v := ?_) (by simp only [List.getElem?_toArray, List.getElem?_cons_succ, List.getElem?_cons_zero]; rfl) (by kernel_rfl) (by exact fun _ _ _ h => h) (by first | assumption | exact KB.refl _) (.inl ⟨by rfl, fun W hW => ?_⟩) ?_; rotate_left
      · (go_simp; first | done | with_reducible rfl)
      try simp only [Act.put, List.setIfInBounds_toArray, List.set_cons_zero, List.set_cons_succ]
      refine btake 5 (oi := _) (v := ?_) (by simp only [List.getElem?_toArray, List.getElem?_cons_succ, List.getElem?_cons_zero]; rfl) (by kernel_rfl) (by exact fun _ _ _ h => h) (by first | assumption | exact KB.refl _) (.inl ⟨by rfl, fun W hW => ?_⟩) ?_; rotate_left
      · (go_simp; first | done | with_reducible rfl)
      try simp only [Act.put, List.setIfInBounds_toArray, List.set_cons_zero, List.set_cons_succ]
      refine btake 6 (oi := _) (v := ?_) (by simp only [List.getElem?_toArray, List.getElem?_cons_succ, List.getElem?_cons_zero]; rfl) (by kernel_rfl) (by exact fun _ _ _ h => h) (by first | assumption | exact KB.refl _) (.inl ⟨by rfl, fun W hW => ?_⟩) ?_; rotate_left
      · go_simp
        rw [dif_pos (show (b : Int) < 16 by omega), hexv b hb16]
        rfl
      try simp only [Act.put, List.setIfInBounds_toArray, List.set_cons_zero, List.set_cons_succ]
      -- 7: Op.buildSlice 26 2 #[(0, Operand.tmp 13), (1, Operand.tmp 16)]
      refine bopH 7 (o := _) (by simp only [List.getElem?_toArray, List.getElem?_cons_succ, List.getElem?_cons_zero]; rfl) (by kernel_rfl) (by first | assumption | exact KB.refl _) (by rfl) (fun K hK => ?_)
      go_simp
      have hkb : KB #[] (wr.drew.alloc (.cells #[.int .u8 ((hx a).toNat : Int), .int .u8 ((hx b).toNat : Int)] 5)) := kb0 _
      refine hK.out _ _ hkb ?_; clear hK K
      try simp only [Act.put, List.setIfInBounds_toArray, List.set_cons_zero, List.set_cons_succ]
      -- 8: Op.call { callee := Callee.builtin Builtin.append, args := #[Operand.tmp 10, Operand.tmp 17], argTypes := #[26, 26] }
      refine bopH 8 (o := _) (by simp only [List.getElem?_toArray, List.getElem?_cons_succ, List.getElem?_cons_zero]; rfl) (by kernel_rfl) (by first | assumption | exact KB.refl _) (by rfl) (fun K hK => ?_)
      refine wp_app rfl hown2 hSl2 rfl rfl rfl (by have := HST.out.1; rw [← this]; simp; omega) hbs2 ?_
      intro v7 w7 h7 hg7 hat7
      rw [← HST.out.2.1] at h7
      have hb7 := own_below hbel2 hbs2 hown2 hg7
      have hkb : KB #[] w7 := kb0 _
      refine hK.out _ _ hkb ?_; clear hK K
      try simp only [Act.put, List.setIfInBounds_toArray, List.set_cons_zero, List.set_cons_succ]
      refine btake 9 (oi := _) (v := ?_) (by simp only [List.getElem?_toArray, List.getElem?_cons_succ, List.getElem?_cons_zero]; rfl) (by kernel_rfl) (by exact fun _ _ _ h => h) (by first | assumption | exact KB.refl _) (.inl ⟨by rfl, fun W hW => ?_⟩) ?_; rotate_left
      · (go_simp; first | done | with_reducible rfl)
      try simp only [Act.put, List.setIfInBounds_toArray, List.set_cons_zero, List.set_cons_succ]
      refine bdone (by kernel_rfl) ?_
      obtain ⟨A7, c7, rfl, _, _, _, _, _⟩ := h7.form
      clear hown hown2 hSl2 hbel2 hg7 hat7 hkb hbel
      go_wp2_with fail
      go_roundw
      case rel => exact ⟨k + 1, by omega, by go_num, h7, hb7⟩
      case measure => simp [intOf] <;> omega
    · obtain rfl : k = 32 := by omega
      have hall : l.take 32 = l := by rw [← HL.out.1, List.take_length]
      rw [hall] at hown hq
      rw [hall] at hsl
      have hcv := conv hsl q c3 hq
      clear hq hall hown hsl
      rw [show (((32 : Nat)) : Int) = (32 : Int) from rfl]
      go_wp2_with fail
      go_ret
      exact ⟨rfl, hbel⟩
end Go.Proofs.Ytjbelkpmbbkhgaa

