/- Numbers as bytes: the document's Put. -/
import Derived.Test.YtpeecgphmcihaaaNumPut
import Derived.Laws.BitsAllLaws
namespace Go.Proofs.Ytpeecgphmcihaaa
open Go.RowKit Go.Proofs.Ytpeecgphmcihaaa.Pl

theorem and127_64 (u : Nat) (hu : U64 u) : bits .and .u64 (u : Int) 127 = (u : Int) % 128 := by
  have h := u64_and_nat u 127 hu.out (by omega)
  rw [nat_mask7] at h
  exact h.trans (by omega)
theorem byte_up_bv (u : Nat) : [Value.int .u8 ((u : Int) % 128 + 128)] = bv [UInt8.ofNat (u % 128 + 128)] := by
  simp only [bv, List.map, u8v, toNat_ofNat (show u % 128 + 128 < 256 by omega)]
  congr 2

def RefIn (w : World) (l : List UInt8) (x : Nat) (x5 x7 : Value) (wr : World) : Prop :=
  ∃ (k u : Nat) (pre : List UInt8), x7 = .int .u64 (u : Int) ∧ OwnB wr w.heap.size x5 (l ++ pre) ∧ pre ++ encF k u = enc x ∧ u < 128 ^ (k + 1) ∧ U64 u ∧ Below w.heap.size w wr
theorem app_below {w wr w1 : World} {x : Value} {l : List UInt8} (hb : Below w.heap.size w wr) (hown : OwnB wr w.heap.size x l) (hg : wr.grownBy w1 x.ownBlock) : Below w.heap.size w w1 := own_below hb hb.size hown hg

set_option maxRecDepth 100000 in
set_option maxHeartbeats 800000 in
theorem RefPut_any (w : World) (A A' : Option Addr) (c c' : Nat) (bs : List UInt8) (ls : List Nat) (hb : Sl w w.heap.size A (bv bs)) (hl : Sl w w.heap.size A' (uv ls)) (hu : ∀ x ∈ ls, U64 x)
    (hbound : bs.length + 10 * ls.length ≤ 140737488355328) :
    Calls Try.prog 19 #[.slice A bs.length c, .slice A' ls.length c'] w (Fresh w (bs ++ encs ls)) := by
  go_enter Try.func19, Try.ntmps19
  go_wp2_with (at_builtin; refine app rfl rfl (OwnB.nil w w.heap.size) hb rfl rfl rfl (by simp; omega) (Nat.le_refl _) ?_; intro s2 w2 hown2 hg2 hat2)
  have hb2 : Below w.heap.size w w2 := below_of_grown hg2 (by simp [Value.ownBlock]) (Nat.le_refl _)
  rw [List.nil_append] at hown2
  clear hat2 hg2
  go_loopw [5, 6] (fun x5 x6 wr => PutRel w bs ls x5 x6 wr) (fun _ x6 _ => ls.length - (intOf x6).toNat)
  case atStart => exact ⟨0, Nat.zero_le _, rfl, by simpa [encs] using hown2, hb2⟩
  case round =>
    obtain ⟨k, hk, rfl, hown, hbel⟩ := hrel
    have hs := hbel.size
    have hlen := encs_take_len ls k
    by_cases hlt : k < ls.length
    · obtain ⟨b, o, rfl, hbB, hbW, hcell⟩ := (hl.below hbel).at_ (k := k) (by simpa using hlt)
      have hck := hcell k _ (uv_get ls k hlt)
      have hxu : U64 (ls[k]?.getD 0) := hu _ (by rw [List.getElem?_eq_getElem hlt]; exact List.getElem_mem hlt)
      have hsucc := encs_take_succ ls k hlt
      generalize ls[k]?.getD 0 = x at hck hxu hsucc
      have hll : (bs ++ encs (ls.take k)).length + 10 ≤ 140737488355328 := by rw [List.length_append]; omega
      have Hsucc := Lib.hid hsucc
      generalize hL : bs ++ encs (ls.take k) = l at hown hll
      have HL := Lib.hid hL.symm
      clear hL
      obtain ⟨wo, rfl⟩ : ∃ wo : World, wo = wr := ⟨_, rfl⟩
      clear hcell hl hb hsucc hlen hb2 hown2
      go_wp2_with fail
      go_loopw [5, 7] (fun x5 x7 wr => RefIn w l x x5 x7 wr) (fun _ x7 _ => (intOf x7).toNat)
      case atStart => exact ⟨9, x, [], rfl, by simpa using hown, rfl, lt_pow_of_lt hxu.out, hxu, hbel⟩
      case round =>
        obtain ⟨kk, u, pre, rfl, hown', hpre, hu', hu64, hbel'⟩ := hrel
        have Hpre := Lib.hid hpre
        have Hu := Lib.hid hu'
        clear hpre hu' hown hbel
        have hlen : (l ++ pre).length + 1 ≤ 140737488355328 := by
          have h1 := congrArg List.length Hpre.out
          have h2 := enc_len x
          have h3 := encF_len_pos kk u
          rw [List.length_append] at h1 ⊢
          omega
        have hs := hbel'.size
        have hand := and127_64 u hu64
        by_cases hge : 128 ≤ u
        · go_wp2_with (at_builtin; refine appN rfl rfl hown' (byte_up_bv u) rfl rfl rfl hlen hs ?_; intro s1 w1 hown1 hg1 hat1)
          go_roundw
          case rel =>
            obtain ⟨kk, rfl⟩ : ∃ k', kk = k' + 1 := by
              cases kk with
              | zero => have := Hu.out; simp at this; omega
              | succ k => exact ⟨k, rfl⟩
            refine ⟨kk, u / 128, pre ++ [UInt8.ofNat (u % 128 + 128)], by go_num, by rw [← List.append_assoc]; exact hown1, ?_, div_lt_pow Hu.out, Nat.lt_of_le_of_lt (Nat.div_le_self _ _) hu64, app_below hbel' hown' hg1⟩
            rw [← Hpre.out]
            simp only [encF]
            rw [if_neg (by omega)]
            simp
          case measure => simp [intOf]; omega
        · go_wp2_with (at_builtin; refine appN rfl rfl hown' (byte_bv' u (by omega)) rfl rfl rfl hlen hs ?_; intro s1 w1 hown1 hg1 hat1)
          go_roundw
          case rel =>
            refine ⟨k + 1, hlt, by go_num, ?_, app_below hbel' hown' hg1⟩
            rw [Hsucc.out, ← List.append_assoc, ← HL.out, ← Hpre.out]
            have e : encF kk u = [UInt8.ofNat u] := by
              cases kk with
              | zero => rfl
              | succ k => simp only [encF]; rw [if_pos (by omega)]
            rw [e, ← List.append_assoc]
            exact hown1
          case measure => simp [intOf]; omega
    · go_wp2_with fail
      go_ret
      have hk' : ls.take k = ls := List.take_of_length_le (by omega)
      rw [hk'] at hown
      obtain ⟨A2, c2, rfl, _⟩ := hown.form
      exact ⟨A2, c2, rfl, hown, hbel⟩
end Go.Proofs.Ytpeecgphmcihaaa

