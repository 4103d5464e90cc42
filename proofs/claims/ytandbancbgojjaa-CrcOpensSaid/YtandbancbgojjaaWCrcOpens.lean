/- 'CrcOpens': the walk of the law. -/
import Derived.Test.YtandbancbgojjaaCrcC
namespace Go.Proofs.Ytandbancbgojjaa
open Go.RowKit Go.Proofs.Ytandbancbgojjaa.Pc Go.Proofs.Ytandbancbgojjaa.Pl

set_option maxRecDepth 100000 in
set_option maxHeartbeats 6400000 in
theorem CrcOpens_walk (w : World) (A : Option Addr) (c : Nat) (l : List UInt8) (hb : Sl w w.heap.size A (bv l)) (hc : l.length ≤ c) (hm : c ≤ 140737488351232) (a : Int) (ha : -9223372036854775808 ≤ a ∧ a ≤ 9223372036854775807) (x : Nat) (hx : x < 256) (h : Nat) (hh : h < 256) :
    Calls Try.prog 6 #[.slice A l.length c, .int .i64 a, .int .u8 (x : Int), .int .u8 (h : Int)] w fun e w' => e = .returned (.bool true) ∧ Below w.heap.size w w' := by
  obtain ⟨ha1, ha2⟩ := ha
  have hos := open_seal l
  have hlen := sealS_len l
  have hcm : c ≤ maxLen := by simp only [maxLen]; omega
  go_enter Try.func6, Try.ntmps6
  go_wp2_with fail
  refine (known_any w).mono ?_
  rintro e w1 ⟨rfl, hb1⟩
  have hbl := (hb.below hb1).more hb1.size
  have hseal := Seal_any w1 A l.length c l hbl rfl hc hcm (by omega)
  have hrs := fun W hW => RefSeal_any W A l.length c l hW rfl hc hcm (by omega)
  generalize sealS l = S at *
  have hSl : S.length ≤ 140737488355328 := by omega
  have hSl2 : S.length ≤ 140737488351300 := by omega
  have HL := Lib.hid hlen
  have HRS := Lib.hid hrs
  clear hlen hrs
  go_wp2_with fail
  refine hseal.mono ?_
  clear hseal
  rintro e w2 ⟨A2, c2, rfl, hown2, hb2⟩
  have hs2 := Fresh.sl hown2
  have hb2' := bstep hb1 hb2
  have hop := Open_any w2 A2 S.length c2 S hs2.1 rfl hs2.2.1 hs2.2.2 hSl
  rw [hos] at hop
  clear hb2 hbl
  go_wp2_with fail
  refine hop.mono ?_
  clear hop
  rintro e w3 ⟨A3, c3, rfl, hown3, hb3⟩
  have hb3' := bstep hb2' hb3
  go_wp2_with fail
  have hb23 : Below w2.heap.size w2 w3 := hb3
  have hsS := (hs2.1.below hb23)
  have hsX := (OwnB.sl hown3).1
  have hsB := (hb.below hb3')
  have hcS := convB hsS S.length c2 rfl
  have hcX := convB hsX l.length c3 rfl
  have hcB := convB hsB l.length c rfl
  refine bstart (by kernel_rfl) ?_
  refine btake 0 (oi := _) (v := ?_) (by simp only [List.getElem?_toArray, List.getElem?_cons_succ, List.getElem?_cons_zero]; rfl) (by kernel_rfl) (by exact fun _ _ _ h => h) (by first | assumption | exact KB.refl _) (.inl ⟨by rfl, fun W hW => ?_⟩) ?_; rotate_left
  · (go_simp; first | done | with_reducible rfl)
  try simp only [Act.put, List.setIfInBounds_toArray, List.set_cons_zero, List.set_cons_succ]
  refine btake 1 (oi := _) (v := ?_) (by simp only [List.getElem?_toArray, List.getElem?_cons_succ, List.getElem?_cons_zero]; rfl) (by kernel_rfl) (by exact fun _ _ _ h => h) (by first | assumption | exact KB.refl _) (.inl ⟨by rfl, fun W hW => ?_⟩) ?_; rotate_left
  · (go_simp; first | done | with_reducible rfl)
  try simp only [Act.put, List.setIfInBounds_toArray, List.set_cons_zero, List.set_cons_succ]
  refine btake 2 (oi := _) (v := ?_) (by simp only [List.getElem?_toArray, List.getElem?_cons_succ, List.getElem?_cons_zero]; rfl) (by kernel_rfl) (by exact fun _ _ _ h => h) (by first | assumption | exact KB.refl _) (.inl ⟨by rfl, fun W hW => ?_⟩) ?_; rotate_left
  · (go_simp; first | done | with_reducible rfl)
  try simp only [Act.put, List.setIfInBounds_toArray, List.set_cons_zero, List.set_cons_succ]
  -- 3: newsreel/newsreelref1.Seal
  refine bop 3 (o := _) (by simp only [List.getElem?_toArray, List.getElem?_cons_succ, List.getElem?_cons_zero]; rfl) (by kernel_rfl) (by first | assumption | exact KB.refl _) (by rfl) (fun K hK => ?_)
  go_simp
  refine (HRS.out _ (by exact hsB.drew.more hb3'.size)).mono ?_
  rintro e w4 ⟨A4, c4, rfl, hown4, hb4⟩
  have hb34 : Below w3.heap.size w3 w4 := (Below.refl w3.heap.size w3).drew.trans hb4
  have hcR := convB (Fresh.sl hown4).1 _ c4 rfl
  have hcS := convB (hsS.below' hb34) S.length c2 rfl
  have hcX := convB (hsX.below' hb34) l.length c3 rfl
  have hcB := convB (hsB.below' hb34) l.length c rfl
  have hkb := KB.of hb4
  refine hK.out _ _ hkb ?_; clear hK K
  try simp only [Act.put, List.setIfInBounds_toArray, List.set_cons_zero, List.set_cons_succ]
  refine btake 4 (oi := _) (v := ?_) (by simp only [List.getElem?_toArray, List.getElem?_cons_succ, List.getElem?_cons_zero]; rfl) (by kernel_rfl) (by exact fun _ _ _ h => h) (by first | assumption | exact KB.refl _) (.inl ⟨by rfl, fun W hW => ?_⟩) ?_; rotate_left
  · (go_simp; first | done | with_reducible rfl)
  try simp only [Act.put, List.setIfInBounds_toArray, List.set_cons_zero, List.set_cons_succ]
  refine btake 5 (oi := _) (v := ?_) (by simp only [List.getElem?_toArray, List.getElem?_cons_succ, List.getElem?_cons_zero]; rfl) (by kernel_rfl) (by exact fun _ _ _ h => h) (by first | assumption | exact KB.refl _) (.inl ⟨by rfl, fun W hW => ?_⟩) ?_; rotate_left
  · (go_simp; first | done | with_reducible rfl)
  try simp only [Act.put, List.setIfInBounds_toArray, List.set_cons_zero, List.set_cons_succ]
  refine btake 6 (oi := _) (v := ?_) (by simp only [List.getElem?_toArray, List.getElem?_cons_succ, List.getElem?_cons_zero]; rfl) (by kernel_rfl) (by exact fun _ _ _ h => h) (by first | assumption | exact KB.refl _) (.inl ⟨by rfl, fun W hW => ?_⟩) ?_; rotate_left
  · (go_simp; first | done | with_reducible rfl)
  try simp only [Act.put, List.setIfInBounds_toArray, List.set_cons_zero, List.set_cons_succ]
  refine btake 7 (oi := _) (v := ?_) (by simp only [List.getElem?_toArray, List.getElem?_cons_succ, List.getElem?_cons_zero]; rfl) (by kernel_rfl) (by exact fun _ _ _ h => h) (by first | assumption | exact KB.refl _) (.inl ⟨by rfl, fun W hW => ?_⟩) ?_; rotate_left
  · (go_simp; first | done | with_reducible rfl)
  try simp only [Act.put, List.setIfInBounds_toArray, List.set_cons_zero, List.set_cons_succ]
  refine btake 8 (oi := _) (v := ?_) (by simp only [List.getElem?_toArray, List.getElem?_cons_succ, List.getElem?_cons_zero]; rfl) (by kernel_rfl) (by exact fun _ _ _ h => h) (by first | assumption | exact KB.refl _) (.inl ⟨by rfl, fun W hW => ?_⟩) ?_; rotate_left
  · (go_simp; first | done | with_reducible rfl)
  try simp only [Act.put, List.setIfInBounds_toArray, List.set_cons_zero, List.set_cons_succ]
  refine btake 9 (oi := _) (v := ?_) (by simp only [List.getElem?_toArray, List.getElem?_cons_succ, List.getElem?_cons_zero]; rfl) (by kernel_rfl) (by exact fun _ _ _ h => h) (by first | assumption | exact KB.refl _) (.inl ⟨by rfl, fun W hW => ?_⟩) ?_; rotate_left
  · (go_simp; first | done | with_reducible rfl)
  try simp only [Act.put, List.setIfInBounds_toArray, List.set_cons_zero, List.set_cons_succ]
  refine btake 10 (oi := _) (v := ?_) (by simp only [List.getElem?_toArray, List.getElem?_cons_succ, List.getElem?_cons_zero]; rfl) (by kernel_rfl) (by exact fun _ _ _ h => h) (by first | assumption | exact KB.refl _) (.inl ⟨by rfl, fun W hW => ?_⟩) ?_; rotate_left
  · (go_simp; first | done | with_reducible rfl)
  try simp only [Act.put, List.setIfInBounds_toArray, List.set_cons_zero, List.set_cons_succ]
  refine btake 11 (oi := _) (v := ?_) (by simp only [List.getElem?_toArray, List.getElem?_cons_succ, List.getElem?_cons_zero]; rfl) (by kernel_rfl) (by exact fun _ _ _ h => h) (by first | assumption | exact KB.refl _) (.inl ⟨by rfl, fun W hW => ?_⟩) ?_; rotate_left
  · (go_simp; first | done | with_reducible rfl)
  try simp only [Act.put, List.setIfInBounds_toArray, List.set_cons_zero, List.set_cons_succ]
  refine btake 12 (oi := _) (v := ?_) (by simp only [List.getElem?_toArray, List.getElem?_cons_succ, List.getElem?_cons_zero]; rfl) (by kernel_rfl) (by exact fun _ _ _ h => h) (by first | assumption | exact KB.refl _) (.inl ⟨by rfl, fun W hW => ?_⟩) ?_; rotate_left
  · (go_simp; first | done | with_reducible rfl)
  try simp only [Act.put, List.setIfInBounds_toArray, List.set_cons_zero, List.set_cons_succ]
  refine btake 13 (oi := _) (v := ?_) (by simp only [List.getElem?_toArray, List.getElem?_cons_succ, List.getElem?_cons_zero]; rfl) (by kernel_rfl) (by exact fun _ _ _ h => h) (by first | assumption | exact KB.refl _) (.inl ⟨by rfl, fun W hW => ?_⟩) ?_; rotate_left
  · (go_simp; first | done | with_reducible rfl)
  try simp only [Act.put, List.setIfInBounds_toArray, List.set_cons_zero, List.set_cons_succ]
  refine btake 14 (oi := _) (v := ?_) (by simp only [List.getElem?_toArray, List.getElem?_cons_succ, List.getElem?_cons_zero]; rfl) (by kernel_rfl) (by exact fun _ _ _ h => h) (by first | assumption | exact KB.refl _) (.inl ⟨by rfl, fun W hW => ?_⟩) ?_; rotate_left
  · (go_simp; first | done | with_reducible rfl)
  try simp only [Act.put, List.setIfInBounds_toArray, List.set_cons_zero, List.set_cons_succ]
  refine btake 15 (oi := _) (v := ?_) (by simp only [List.getElem?_toArray, List.getElem?_cons_succ, List.getElem?_cons_zero]; rfl) (by kernel_rfl) (by exact fun _ _ _ h => h) (by first | assumption | exact KB.refl _) (.inl ⟨by rfl, fun W hW => ?_⟩) ?_; rotate_left
  · (go_simp; first | done | with_reducible rfl)
  try simp only [Act.put, List.setIfInBounds_toArray, List.set_cons_zero, List.set_cons_succ]
  refine btake 16 (oi := _) (v := ?_) (by simp only [List.getElem?_toArray, List.getElem?_cons_succ, List.getElem?_cons_zero]; rfl) (by kernel_rfl) (by exact fun _ _ _ h => h) (by first | assumption | exact KB.refl _) (.inl ⟨by rfl, fun W hW => ?_⟩) ?_; rotate_left
  · (go_simp; first | done | with_reducible rfl)
  try simp only [Act.put, List.setIfInBounds_toArray, List.set_cons_zero, List.set_cons_succ]
  refine bdone (by kernel_rfl) ?_
  go_wp2_with fail
  have hb4' := bstep hb3' hb34
  have hs4 := (hsS.below' hb34).more (Nat.le_trans hb23.size hb34.size)
  have hbl4 := (hb.below hb4').more hb4'.size
  clear hcS hcX hcB hcR hsS hsX hsB hs2 hown2 hown3 hown4
  refine (Changed_any w4 A2 S.length c2 S hs4 rfl (by omega) a ha1 ha2 x hx h hh).mono ?_
  rintro e w5 ⟨A5, c5, l5, rfl, hs5, h51, h52, h53, hb5⟩
  have hb5' := bstep hb4' hb5
  have hM := Mat.two w5 24 (.slice A l.length c) (.slice A5 l5.length c5) l l5 ⟨A, c, rfl, (hbl4.below' hb5).more hb5.size, hc, hcm⟩ ⟨A5, c5, rfl, hs5, h51, h52⟩
  have hbM := balloc hb5' (.cells #[.slice A l.length c, .slice A5 l5.length c5] 24)
  go_wp2_with fail
  have hll : l.length ≤ 140737488355328 := by omega
  have hl5 : l5.length ≤ 140737488355328 := by omega
  generalize hw6 : w5.alloc (.cells #[.slice A l.length c, .slice A5 l5.length c5] 24) = w6 at *
  generalize w5.heap.size = B5 at *
  clear hos hs5 h51 hb5 hb5' hs4 hbl4 h53 hSl hSl2 hb4' hb34 hkb hb23 hb3' hb3 hb2' hb1 HL HRS
  go_loopw [50] (fun x50 wr => ∃ k : Nat, k ≤ 2 ∧ x50 = .int .i64 (k : Int) ∧ Below w6.heap.size w6 wr) (fun x50 _ => 2 - (intOf x50).toNat)
  case atStart => exact ⟨0, by omega, rfl, Below.refl _ _⟩
  case round =>
    obtain ⟨k, hk, rfl, hbel⟩ := hrel
    by_cases hlt : k < 2
    · obtain ⟨b, o, A', c', hAe, hbW, hck, h1, h2, h3⟩ := (hM.below hbel).at_ (k := k) (by simpa using hlt)
      have hln : ([l, l5][k]?.getD []).length ≤ 140737488355328 := by
        match k, hlt with
        | 0, _ => exact hll
        | 1, _ => exact hl5
      generalize [l, l5][k]?.getD [] = lk at *
      cases hAe
      rw [Nat.zero_add] at hck
      have hop := fun W (hW : Sl W W.heap.size A' (bv lk)) => Open_any W A' lk.length c' lk hW rfl h2 h3 hln
      have hro := fun W (hW : Sl W W.heap.size A' (bv lk)) => RefOpen_any W A' lk.length c' lk hW rfl h2 h3 hln
      have HOP := Lib.hid hop
      have HRO := Lib.hid hro
      clear hop hro
      go_wp2_with fail
      refine (HOP.out _ h1).mono ?_
      rcases hok : openS lk with _ | kk
      · rintro e v1 ⟨rfl, hv1⟩
        have hbv1 := bstep hbel hv1
        go_wp2_with fail
        refine (HRO.out _ ((h1.below hv1).more hv1.size)).mono ?_
        rw [hok]
        rintro e v2 ⟨rfl, hv2⟩
        have hbv2 := bstep hbv1 hv2
        have hc1 := conv (w := v2) (B := 0) (A := none) (l := []) (Sl.nil) 0 0 rfl
        go_wp2_with fail
        go_roundw
        case rel => exact ⟨k + 1, hlt, by go_num, hbv2⟩
        case measure => simp [intOf]; omega
      · rintro e v1 ⟨A1, c1, rfl, ho1, hv1⟩
        have hbv1 := bstep hbel hv1
        have hs1 := (OwnB.sl ho1).1
        go_wp2_with fail
        refine (HRO.out _ ((h1.below hv1).more hv1.size)).mono ?_
        rw [hok]
        rintro e v2 ⟨A2, c2, rfl, ho2, hv2⟩
        have hbv2 := bstep hbv1 hv2
        have hs2 := (OwnB.sl ho2).1
        have hc1 := conv (hs1.below hv2) kk.length c1 rfl
        have hc2 := conv hs2 kk.length c2 rfl
        go_wp2_with fail
        go_roundw
        case rel => exact ⟨k + 1, hlt, by go_num, hbv2⟩
        case measure => simp [intOf]; omega
    · go_wp2_with fail
      go_ret
      exact ⟨rfl, bstep hbM hbel⟩
end Go.Proofs.Ytandbancbgojjaa

