/- 'NumMany' of the numbers: the walk of the law. -/
import Derived.Test.YtejligapkgnnnaaNumLaw
import Derived.Test.YtejligapkgnnnaaFrame
import Derived.Test.YtejligapkgnnnaaReg
namespace Go.Proofs.Ytejligapkgnnnaa
open Go.RowKit Go.Proofs.Ytejligapkgnnnaa.Pl

def ManyRel (w w2 : World) (l : List Nat) (x4 x5 : Value) (wr : World) : Prop := ∃ k : Nat, k ≤ l.length ∧ x5 = .int .i64 (k : Int) ∧ SlcIs wr x4 (encs (l.take k)) ∧ Below w2.heap.size w2 wr
def ManyRel2 (wr : World) (l : List Nat) (x3 x6 : Value) : Prop := ∃ k : Nat, k ≤ l.length ∧ x6 = .int .i64 (k : Int) ∧ SlcIs wr x3 (encs (l.drop k))
set_option maxRecDepth 100000 in
set_option maxHeartbeats 1600000 in
theorem NumMany_walk (w : World) (A : Option Addr) (c : Nat) (l : List Nat) (hb : Sl w w.heap.size A (uv l)) (hc : l.length ≤ c) (hn : c * 8 ≤ 140737488351232) (hu : ∀ n ∈ l, U64 n) :
    Calls Try.prog 10 #[.slice A l.length c] w fun e w' => e = .returned (.bool true) ∧ Below w.heap.size w w' := by
  by_cases h300 : 300 < l.length
  · go_enter Try.func10, Try.ntmps10
    go_wp2_with fail
    refine (known_any w).mono ?_
    rintro e w1 ⟨rfl, hb1⟩
    go_wp2_with fail
    go_ret
    exact ⟨rfl, hb1⟩
  · have h300' : l.length ≤ 300 := by omega
    go_enter Try.func10, Try.ntmps10
    go_wp2_with fail
    refine (known_any w).mono ?_
    rintro e w1 ⟨rfl, hb1⟩
    go_wp2_with fail
    have hP := Put_any w1 none A 0 c [] l Sl.nil (hb.below' hb1 |>.more hb1.size) hu (by simp; omega)
    rw [List.nil_append] at hP
    refine hP.mono ?_
    clear hP
    rintro e w2 ⟨A2, c2, rfl, h1, h2⟩
    go_wp2_with fail
    have hp2 := SlcIs.of h1
    have hb2 := bstep hb1 h2
    go_loopw [4, 5] (fun x4 x5 wr => ManyRel w w2 l x4 x5 wr) (fun _ x5 _ => l.length - (intOf x5).toNat)
    case atStart => exact ⟨0, Nat.zero_le _, rfl, SlcIs.nil _, Below.refl _ _⟩
    case round =>
      obtain ⟨k, hk, rfl, hq, hbel⟩ := hrel
      by_cases hlt : k < l.length
      · obtain ⟨b, o, rfl, hbB, hbW, hcell⟩ := (hb.below (bstep hb2 hbel)).at_ (k := k) (by simpa using hlt)
        have hck := hcell k _ (uv_get l k hlt)
        have hxu : U64 (l[k]?.getD 0) := hu _ (by rw [List.getElem?_eq_getElem hlt]; exact List.getElem_mem hlt)
        have hsucc := encs_take_succ l k hlt
        have hlen := encs_take_len l k
        generalize l[k]?.getD 0 = x at hck hxu hsucc
        have Hsucc := Lib.hid hsucc
        obtain ⟨A4, c4, rfl, hs4, hc4, hm4⟩ := hq
        have Hb := Lib.hid hb
        have Hp2 := Lib.hid hp2
        clear hcell hsucc hb hp2
        go_wp2_with fail
        refine (Put_any _ A4 _ _ _ (encs (l.take k)) [x] ((hs4.alloc _).more (by simp)) (by exact Sl.more (Sl.lit64 wr [x]) (by simp)) (by simpa using hxu) (by simp; omega)).mono ?_
        rintro e w3 ⟨A3, c3, rfl, g1, g2⟩
        have e3 : encs (l.take k) ++ encs [x] = encs (l.take (k + 1)) := by rw [Hsucc.out]; simp [encs]
        rw [e3] at g1 ⊢
        go_wp2_with fail
        go_roundw
        case rel => exact ⟨k + 1, hlt, by go_num, SlcIs.of g1, bstep (balloc hbel _) g2⟩
        case measure => simp [intOf]; omega
      · rw [List.take_of_length_le (by omega)] at hq
        obtain ⟨A4, c4, rfl, hs4, hc4, hm4⟩ := hq
        obtain ⟨_, _, ep, hs2, hc2, hm2⟩ := hp2.below hbel
        injection ep with ep1 ep2 ep3
        subst ep1 ep3
        have hcv1 := conv hs2 _ c2 rfl
        have hcv2 := conv hs4 _ c4 rfl
        have hb2' := bstep hb2 hbel
        have hbw := hb.below hb2'
        clear hb h1 h2 hb2
        go_wp2_with fail
        go_loop [3, 6] (fun x3 x6 => ManyRel2 wr l x3 x6) (fun _ x6 => l.length - (intOf x6).toNat)
        case atStart => exact ⟨0, Nat.zero_le _, rfl, ⟨_, _, rfl, hs2, hc2, hm2⟩⟩
        case round =>
          obtain ⟨j, hj, rfl, hp⟩ := hrel
          obtain ⟨A5, c5, rfl, hs5, hc5, hm5⟩ := hp
          have hm5' : c5 ≤ 9223372036854775807 := by simp only [maxLen] at hm5; omega
          have hlen5 : (encs (l.drop j)).length ≤ 3000 := by
            have := encs_len (l.drop j)
            rw [List.length_drop] at this
            omega
          clear hcv1 hcv2 hs2 hs4
          by_cases hlt : j < l.length
          · obtain ⟨b, o, rfl, hbB, hbW, hcell⟩ := hbw.at_ (k := j) (by simpa using hlt)
            have hck := hcell j _ (uv_get l j hlt)
            have hxu : U64 (l[j]?.getD 0) := hu _ (by rw [List.getElem?_eq_getElem hlt]; exact List.getElem_mem hlt)
            have hsucc : encs (l.drop j) = Pl.enc (l[j]?.getD 0) ++ encs (l.drop (j + 1)) := by
              rw [List.drop_eq_getElem_cons hlt, List.getElem?_eq_getElem hlt]; rfl
            generalize l[j]?.getD 0 = x at hck hxu hsucc
            have hT := take_enc x hxu.out (encs (l.drop (j + 1)))
            have hel := enc_len x
            rw [← hsucc] at hT
            obtain ⟨E, hE⟩ : ∃ E, Pl.enc x = E := ⟨_, rfl⟩
            rw [hE] at hT hel hsucc
            have hle : E.length ≤ (encs (l.drop j)).length := by rw [hsucc]; simp
            have hdr : (encs (l.drop j)).drop E.length = encs (l.drop (j + 1)) := by rw [hsucc]; simp
            generalize hN : encs (l.drop j) = N at *
            have Hdr := Lib.hid hdr
            have HT := Lib.hid hT
            have Hbw := Lib.hid hbw
            clear hcell hsucc hbw hT hdr hN hE
            go_wp2_with fail
            refine (Take_lit _ _ _ _ c5 N x E.length 0 hs5 rfl hc5 hm5 HT.out).mono ?_
            rintro e w7 ⟨rfl, rfl⟩
            have i1 : (E.length : Int) ≤ (N.length : Int) := by omega
            have Hs5 := Lib.hid hs5
            clear hs5
            go_wp2_with fail
            go_round
            case rel =>
              have hl : N.length - E.length = (encs (l.drop (j + 1))).length := by rw [← Hdr.out, List.length_drop]
              refine ⟨j + 1, hlt, by go_num, _, _, by rw [hl], ?_, by omega, by simp only [maxLen]; omega⟩
              have := Hs5.out.cut E.length c5 (by simpa using hc5)
              rw [bv_drop, Hdr.out] at this
              exact this
            case measure => simp [intOf]; omega
          · rw [List.drop_eq_nil_of_le (by omega)]
            go_wp2_with fail
            go_ret
            exact ⟨rfl, hb2'⟩
end Go.Proofs.Ytejligapkgnnnaa

