/- 'NumPuts': the walk of the law. -/
import Derived.Test.YtejligapkgnnnaaNumLaw
import Derived.Test.YtejligapkgnnnaaFrame
import Derived.Test.YtejligapkgnnnaaPar
namespace Go.Proofs.Ytejligapkgnnnaa
open Go.RowKit Go.Proofs.Ytejligapkgnnnaa.Pl

theorem encs_step (l : List Nat) (k : Nat) (h : k < l.length) : (encs (l.take (k + 1))).length = (encs (l.take k)).length + (enc (l[k]?.getD 0)).length := by
  rw [List.take_succ_eq_append_getElem h, encs_snoc, List.length_append, List.getElem?_eq_getElem h]; rfl
def PutsRel (w1 : World) (l : List Nat) (x5 x6 : Value) (wr : World) : Prop := ∃ k : Nat, k ≤ l.length ∧ x6 = .int .i64 (k : Int) ∧ x5 = .int .i64 ((encs (l.take k)).length : Int) ∧ Below w1.heap.size w1 wr
set_option maxRecDepth 100000 in
set_option maxHeartbeats 3200000 in
theorem NumPuts_walk (w : World) (A : Option Addr) (c : Nat) (bs : List UInt8) (hb : Sl w w.heap.size A (bv bs)) (hc : bs.length ≤ c) (hm : c ≤ 140737488351232) (A1 : Option Addr) (c1 : Nat) (l : List Nat) (hb1 : Sl w w.heap.size A1 (uv l)) (hc1 : l.length ≤ c1) (hm1 : c1 * 8 ≤ 140737488351232) (hu : ∀ n ∈ l, U64 n) (hk : c + c1 ≤ 1048576) :
    Calls Try.prog 4 #[.slice A bs.length c, .slice A1 l.length c1] w fun e w' => e = .returned (.bool true) ∧ Below w.heap.size w w' := by
  go_enter Try.func4, Try.ntmps4
  go_wp2_with fail
  refine (known_any w).mono ?_
  rintro e w1 ⟨rfl, hbw1⟩
  have hA := (hb.below hbw1).more hbw1.size
  have hL := (hb1.below hbw1).more hbw1.size
  go_wp2_with fail
  go_loopw [5, 6] (fun x5 x6 wr => PutsRel w1 l x5 x6 wr) (fun _ x6 _ => l.length - (intOf x6).toNat)
  case atStart => exact ⟨0, Nat.zero_le _, rfl, by simp [encs], Below.refl _ _⟩
  case round =>
    obtain ⟨k, hkl, rfl, rfl, hbel⟩ := hrel
    have hel := encs_len (l.take k)
    rw [List.length_take] at hel
    by_cases hlt : k < l.length
    · obtain ⟨b, o, rfl, hbB, hbW, hcell⟩ := (hL.below hbel).at_ (k := k) (by simpa using hlt)
      have hck := hcell k _ (uv_get l k hlt)
      have hxu : U64 (l[k]?.getD 0) := hu _ (by rw [List.getElem?_eq_getElem hlt]; exact List.getElem_mem hlt)
      have hst := Lib.hid (encs_step l k hlt)
      have hel2 := enc_len (l[k]?.getD 0)
      generalize l[k]?.getD 0 = x at *
      generalize (encs (l.take k)).length = n at *
      clear hcell
      go_wp2_with fail
      refine (Size_any wr x hxu).mono ?_
      rintro e w2 ⟨rfl, hb2⟩
      generalize (enc x).length = m at *
      go_wp2_with fail
      go_roundw
      case rel => exact ⟨k + 1, hlt, by go_num, by rw [hst.out]; go_num, bstep hbel hb2⟩
      case measure => simp [intOf]; omega
    · rw [List.take_of_length_le (by omega)] at hel ⊢
      have hAr := (hA.below hbel).more hbel.size
      have hLr := (hL.below hbel).more hbel.size
      have hbwr := bstep hbw1 hbel
      go_wp2_with fail
      refine (Put_any wr A A1 c c1 bs l hAr hLr hu (by omega)).mono ?_
      rintro e w3 ⟨A3, c3, rfl, hown3, hb3⟩
      obtain ⟨hs3, hc3, hm3⟩ := Fresh.sl hown3
      have hrp := fun W (hW : KB w3.heap W) => RefPut_any W A A1 c c1 bs l (((hAr.below hb3).more hb3.size).kb hW |>.more hW.1) (((hLr.below hb3).more hb3.size).kb hW |>.more hW.1) hu (by omega)
      have hlen : ((bs ++ encs l).length : Int) - (bs.length : Int) = ((encs l).length : Int) := by rw [List.length_append]; omega
      have hwn : IntKind.i64.wrap ((encs l).length : Int) = ((encs l).length : Int) := by rw [IntKind.wrap_i64]; omega
      have hnn : (((encs l).length : Int) == ((encs l).length : Int)) = true := by simp
      generalize bs ++ encs l = P at *
      generalize (encs l).length = n at *
      have HRP := Lib.hid hrp
      clear hrp
      have hcv3 := convB hs3 P.length c3 rfl
      go_wp2_with fail
      refine bstart (by kernel_rfl) ?_
      refine btake 0 (oi := _) (v := ?_) (by simp only [List.getElem?_toArray, List.getElem?_cons_succ, List.getElem?_cons_zero]; rfl) (by kernel_rfl) (by exact fun _ _ _ h => h) (by first | assumption | exact KB.refl _) (.inl ⟨by rfl, fun W hW => ?_⟩) ?_; rotate_left
      · (go_simp; first | done | with_reducible rfl)
      try simp only [Act.put, List.setIfInBounds_toArray, List.set_cons_zero, List.set_cons_succ]
      refine btake 1 (oi := _) (v := ?_) (by simp only [List.getElem?_toArray, List.getElem?_cons_succ, List.getElem?_cons_zero]; rfl) (by kernel_rfl) (by exact fun _ _ _ h => h) (by first | assumption | exact KB.refl _) (.inl ⟨by rfl, fun W hW => ?_⟩) ?_; rotate_left
      · (go_simp; first | done | with_reducible rfl)
      try simp only [Act.put, List.setIfInBounds_toArray, List.set_cons_zero, List.set_cons_succ]
      refine btake 2 (oi := _) (v := ?_) (by simp only [List.getElem?_toArray, List.getElem?_cons_succ, List.getElem?_cons_zero]; rfl) (by kernel_rfl) (by exact fun _ _ _ h => h) (by first | assumption | exact KB.refl _) (.inl ⟨by rfl, fun W hW => ?_⟩) ?_; rotate_left
      · (go_simp; first | done | with_reducible rfl)
      try simp only [Act.put, List.setIfInBounds_toArray, List.set_cons_zero, List.set_cons_succ]
      refine btake 3 (oi := _) (v := ?_) (by simp only [List.getElem?_toArray, List.getElem?_cons_succ, List.getElem?_cons_zero]; rfl) (by kernel_rfl) (by exact fun _ _ _ h => h) (by first | assumption | exact KB.refl _) (.inl ⟨by rfl, fun W hW => ?_⟩) ?_; rotate_left
      · (go_simp; first | done | with_reducible rfl)
      try simp only [Act.put, List.setIfInBounds_toArray, List.set_cons_zero, List.set_cons_succ]
      -- 4: newsreel/newsreelref1.Put
      refine bop 4 (o := _) (by simp only [List.getElem?_toArray, List.getElem?_cons_succ, List.getElem?_cons_zero]; rfl) (by kernel_rfl) (by first | assumption | exact KB.refl _) (by rfl) (fun K hK => ?_)
      go_simp
      refine (HRP.out w3.drew (KB.refl w3)).mono ?_
      rintro e w4 ⟨A4, c4, rfl, hown4, hb4⟩
      obtain ⟨hs4, hc4, hm4⟩ := Fresh.sl hown4
      have hcv4 := convB hs4 P.length c4 rfl
      have hcv3 := convB (hs3.below' (Below.refl w3.heap.size w3 |>.drew.trans hb4)) P.length c3 rfl
      have hkb := KB.of hb4
      refine hK.out _ _ hkb ?_; clear hK K
      try simp only [Act.put, List.setIfInBounds_toArray, List.set_cons_zero, List.set_cons_succ]
      refine btake 5 (oi := _) (v := ?_) (by simp only [List.getElem?_toArray, List.getElem?_cons_succ, List.getElem?_cons_zero]; rfl) (by kernel_rfl) (by exact fun _ _ _ h => h) (by first | assumption | exact KB.refl _) (.inl ⟨by rfl, fun W hW => ?_⟩) ?_; rotate_left
      · (go_simp; first | done | with_reducible rfl)
      try simp only [Act.put, List.setIfInBounds_toArray, List.set_cons_zero, List.set_cons_succ]
      refine btake 6 (oi := _) (v := ?_) (by simp only [List.getElem?_toArray, List.getElem?_cons_succ, List.getElem?_cons_zero]; rfl) (by kernel_rfl) (by exact fun _ _ _ h => h) (by first | assumption | exact KB.refl _) (.inl ⟨by rfl, fun W hW => ?_⟩) ?_; rotate_left
      · (go_simp; first | done | with_reducible rfl)
      try simp only [Act.put, List.setIfInBounds_toArray, List.set_cons_zero, List.set_cons_succ]
      refine btake 7 (oi := _) (v := ?_) (by simp only [List.getElem?_toArray, List.getElem?_cons_succ, List.getElem?_cons_zero]; rfl) (by kernel_rfl) (by exact fun _ _ _ h => h) (by first | assumption | exact KB.refl _) (.inl ⟨by rfl, fun W hW => ?_⟩) ?_; rotate_left
      · (go_simp; first | done | with_reducible rfl)
      try simp only [Act.put, List.setIfInBounds_toArray, List.set_cons_zero, List.set_cons_succ]
      refine btake 8 (oi := _) (v := ?_) (by simp only [List.getElem?_toArray, List.getElem?_cons_succ, List.getElem?_cons_zero]; rfl) (by kernel_rfl) (by exact fun _ _ _ h => h) (by first | assumption | exact KB.refl _) (.inl ⟨by rfl, fun W hW => ?_⟩) ?_; rotate_left
      · (go_simp; first | done | with_reducible rfl)
      try simp only [Act.put, List.setIfInBounds_toArray, List.set_cons_zero, List.set_cons_succ]
      refine btake 9 (oi := _) (v := ?_) (by simp only [List.getElem?_toArray, List.getElem?_cons_succ, List.getElem?_cons_zero]; rfl) (by kernel_rfl) (by exact fun _ _ _ h => h) (by first | assumption | exact KB.refl _) (.inl ⟨by rfl, fun W hW => ?_⟩) ?_; rotate_left
      · (go_simp; first | done | with_reducible rfl)
      try simp only [Act.put, List.setIfInBounds_toArray, List.set_cons_zero, List.set_cons_succ]
      refine btake 10 (oi := _) (v := ?_) (by simp only [List.getElem?_toArray, List.getElem?_cons_succ, List.getElem?_cons_zero]; rfl) (by kernel_rfl) (by exact fun _ _ _ h => h) (by first | assumption | exact KB.refl _) (.inl ⟨by rfl, fun W hW => ?_⟩) ?_; rotate_left
      · (go_simp; first | done | with_reducible rfl)
      try simp only [Act.put, List.setIfInBounds_toArray, List.set_cons_zero, List.set_cons_succ]
      refine btake 11 (oi := _) (v := ?_) (by simp only [List.getElem?_toArray, List.getElem?_cons_succ, List.getElem?_cons_zero]; rfl) (by kernel_rfl) (by exact fun _ _ _ h => h) (by first | assumption | exact KB.refl _) (.inl ⟨by rfl, fun W hW => ?_⟩) ?_; rotate_left
      · (go_simp; first | done | with_reducible rfl)
      try simp only [Act.put, List.setIfInBounds_toArray, List.set_cons_zero, List.set_cons_succ]
      refine btake 12 (oi := _) (v := ?_) (by simp only [List.getElem?_toArray, List.getElem?_cons_succ, List.getElem?_cons_zero]; rfl) (by kernel_rfl) (by exact fun _ _ _ h => h) (by first | assumption | exact KB.refl _) (.inl ⟨by rfl, fun W hW => ?_⟩) ?_; rotate_left
      · (go_simp; first | done | with_reducible rfl)
      try simp only [Act.put, List.setIfInBounds_toArray, List.set_cons_zero, List.set_cons_succ]
      refine btake 13 (oi := _) (v := ?_) (by simp only [List.getElem?_toArray, List.getElem?_cons_succ, List.getElem?_cons_zero]; rfl) (by kernel_rfl) (by exact fun _ _ _ h => h) (by first | assumption | exact KB.refl _) (.inl ⟨by rfl, fun W hW => ?_⟩) ?_; rotate_left
      · (go_simp; first | done | with_reducible rfl)
      try simp only [Act.put, List.setIfInBounds_toArray, List.set_cons_zero, List.set_cons_succ]
      refine btake 14 (oi := _) (v := ?_) (by simp only [List.getElem?_toArray, List.getElem?_cons_succ, List.getElem?_cons_zero]; rfl) (by kernel_rfl) (by exact fun _ _ _ h => h) (by first | assumption | exact KB.refl _) (.inl ⟨by rfl, fun W hW => ?_⟩) ?_; rotate_left
      · (go_simp; first | done | with_reducible rfl)
      try simp only [Act.put, List.setIfInBounds_toArray, List.set_cons_zero, List.set_cons_succ]
      refine btake 15 (oi := _) (v := ?_) (by simp only [List.getElem?_toArray, List.getElem?_cons_succ, List.getElem?_cons_zero]; rfl) (by kernel_rfl) (by exact fun _ _ _ h => h) (by first | assumption | exact KB.refl _) (.inl ⟨by rfl, fun W hW => ?_⟩) ?_; rotate_left
      · (go_simp; first | done | with_reducible rfl)
      try simp only [Act.put, List.setIfInBounds_toArray, List.set_cons_zero, List.set_cons_succ]
      refine btake 16 (oi := _) (v := ?_) (by simp only [List.getElem?_toArray, List.getElem?_cons_succ, List.getElem?_cons_zero]; rfl) (by kernel_rfl) (by exact fun _ _ _ h => h) (by first | assumption | exact KB.refl _) (.inl ⟨by rfl, fun W hW => ?_⟩) ?_; rotate_left
      · (go_simp; first | done | with_reducible rfl)
      try simp only [Act.put, List.setIfInBounds_toArray, List.set_cons_zero, List.set_cons_succ]
      refine bdone (by kernel_rfl) ?_
      go_wp2_with fail
      go_ret
      exact ⟨rfl, bstep hbwr (bstep hb3 ((Below.refl w3.heap.size w3).drew.trans hb4))⟩
end Go.Proofs.Ytejligapkgnnnaa

