/- DotLists, walked: the bytes of some dots, and that they are read again. -/
import Derived.Test.YtpeecgphmcihaaaDotK
import Derived.Test.YtpeecgphmcihaaaDotO
import Derived.Test.YtpeecgphmcihaaaPDotx
import Derived.Test.YtpeecgphmcihaaaMatD
import Derived.Test.YtpeecgphmcihaaaXU16
namespace Go.Proofs.Ytpeecgphmcihaaa
open Go.RowKit Go.Proofs.Ytpeecgphmcihaaa.Pl Go.Proofs.Ytpeecgphmcihaaa.Dt

set_option maxRecDepth 100000 in
set_option maxHeartbeats 12800000 in
theorem DotLists_walk (w : World) (A : Option Addr) (c : Nat) (l : List D2) (hl : Sl w w.heap.size A (dv l)) (hc : l.length ≤ c) (hcm : c ≤ maxLen) (A1 : Option Addr) (c1 : Nat) (x : List Nat) (hx : Sl w w.heap.size A1 (wv x)) (_ : x.length ≤ c1) (_ : c1 * 2 ≤ 140737488351232) (hxl : ∀ n ∈ x, n < 65536)
    (A2 : Option Addr) (c2 : Nat) (t : List UInt8) (ht : Sl w w.heap.size A2 (bv t)) (htc : t.length ≤ c2) (htm : c2 ≤ 140737488351232) :
    Calls Try.prog 6 #[.slice A l.length c, .slice A1 x.length c1, .slice A2 t.length c2] w fun e w' => e = .returned (.bool true) ∧ Below w.heap.size w w' := by
  have HK := Lib.hid (fun W => dknown_any W)
  by_cases h1 : l.length ≤ 100
  · by_cases h2 : x.length ≤ 100
    · have hd1 : decide ((100 : Int) < (l.length : Int)) = false := by rw [decide_eq_false_iff_not]; omega
      have hd2 : decide ((100 : Int) < (x.length : Int)) = false := by rw [decide_eq_false_iff_not]; omega
      go_enter Try.func6, Try.ntmps6
      go_wp2_with fail
      refine (HK.out _).mono ?_
      rintro e w1 ⟨rfl, hw1⟩
      go_wp2_with fail
      go_loopw [7, 8] (fun x7 x8 wr => ∃ i : Nat, i ≤ x.length ∧ x8 = .int .i64 (i : Int) ∧ OwnD wr w.heap.size x7 ((x.take i).map dkB) ∧ Below w.heap.size w wr) (fun _ x8 _ => x.length - (intOf x8).toNat)
      case atStart => exact ⟨0, by omega, rfl, OwnD.nil _ _, hw1⟩
      case round =>
        clear hw1
        obtain ⟨i, hi, rfl, hown, hbel⟩ := hrel
        by_cases hlt : i < x.length
        · obtain ⟨b, o, rfl, hb, f0⟩ := u16At hx hlt
          have e0 := cellB f0
          have hsn := map_succ dkB x i hlt
          have hv := u16_lt hxl i
          generalize x[i]?.getD 0 = v at *
          have hd3 : decide ((i : Int) < (x.length : Int)) = true := by rw [decide_eq_true_eq]; omega
          have hi0 : (0 : Int) ≤ (i : Int) := by omega
          have hi1 : (i : Int) < (x.length : Int) := by omega
          have hS0 : KB w.heap wr.drew := KB.of hbel.drew
          have hmk : dkB v = ⟨((v % 64 : Nat) : Int), ((v / 64 + 1 : Nat) : Int)⟩ := rfl
          have hw1 : IntKind.i64.wrap ((v : Int).tmod 64) = ((v % 64 : Nat) : Int) := by
            show IntKind.i64.wrap ((v % 64 : Nat) : Int) = _
            rw [IntKind.wrap_i64]; omega
          have hw2 : IntKind.u16.wrap ((v : Int) / 64) = ((v / 64 : Nat) : Int) := by rw [IntKind.wrap_u16]; omega
          have hp : v / 64 ≤ 65536 := by omega
          generalize v % 64 = a at *
          generalize v / 64 = p at *
          have hw3 : IntKind.i64.wrap (p : Int) = (p : Int) := by rw [IntKind.wrap_i64]; omega
          have hw4 : IntKind.i64.wrap ((p : Int) + 1) = ((p + 1 : Nat) : Int) := by rw [IntKind.wrap_i64]; omega
          generalize p + 1 = q at *
          rw [hmk] at hsn
          clear hmk hp
          have HM := Lib.hid (And.intro hsn hv)
          have hown2 := hown.below ((Below.refl wr.heap.size wr).alloc (Nat.le_refl _) (.cells #[.int .i64 (a : Int), .int .i64 (q : Int)] 23)).drew
          have hbel2 : Below w.heap.size w (wr.alloc (.cells #[.int .i64 (a : Int), .int .i64 (q : Int)] 23)).drew := (balloc hbel _).drew
          have hSl : Sl (wr.alloc (.cells #[.int .i64 (a : Int), .int .i64 (q : Int)] 23)).drew (wr.heap.size + 1) (some ⟨wr.heap.size, 0, none⟩) (dv [⟨(a : Int), (q : Int)⟩]) := Sl.new wr 23 #[.int .i64 (a : Int), .int .i64 (q : Int)] (0, 0)
          clear hsn hv
          go_wp2_with fail
          refine bstartH (w.heap) (by kernel_rfl) ?_
          refine btake 0 (oi := _) (v := ?_) (by simp only [List.getElem?_toArray, List.getElem?_cons_zero]; rfl) (by kernel_rfl) (by exact fun _ _ _ h => h) (by first | assumption | exact KB.refl _) (.inl ⟨by rfl, fun W hW => ?_⟩) ?_; rotate_left
          · (go_simp; first | done | with_reducible rfl)
          try simp only [Act.put, List.setIfInBounds_toArray, List.set_cons_zero, List.set_cons_succ]
          refine btake 1 (oi := _) (v := ?_) (by simp only [List.getElem?_toArray, List.getElem?_cons_succ, List.getElem?_cons_zero]; rfl) (by kernel_rfl) (by exact fun _ _ _ h => h) (by first | assumption | exact KB.refl _) (.inl ⟨by rfl, fun W hW => ?_⟩) ?_; rotate_left
          · (go_simp; first | done | with_reducible rfl)
          try simp only [Act.put, List.setIfInBounds_toArray, List.set_cons_zero, List.set_cons_succ]
          refine btake 2 (oi := _) (v := ?_) (by simp only [List.getElem?_toArray, List.getElem?_cons_succ, List.getElem?_cons_zero]; rfl) (by kernel_rfl) (by exact fun _ _ _ h => h) (by first | assumption | exact KB.refl _) (.inl ⟨by rfl, fun W hW => ?_⟩) ?_; rotate_left
          · (go_simp; first | done | with_reducible rfl)
          try simp only [Act.put, List.setIfInBounds_toArray, List.set_cons_zero, List.set_cons_succ]
          refine btake 3 (oi := _) (v := ?_) (by simp only [List.getElem?_toArray, List.getElem?_cons_succ, List.getElem?_cons_zero]; rfl) (by kernel_rfl) (by exact fun _ _ _ h => h) (by first | assumption | exact KB.refl _) (.inl ⟨by rfl, fun W hW => ?_⟩) ?_; rotate_left
          · (go_simp; first | done | with_reducible rfl)
          try simp only [Act.put, List.setIfInBounds_toArray, List.set_cons_zero, List.set_cons_succ]
          refine btake 4 (oi := _) (v := ?_) (by simp only [List.getElem?_toArray, List.getElem?_cons_succ, List.getElem?_cons_zero]; rfl) (by kernel_rfl) (by exact fun _ _ _ h => h) (by first | assumption | exact KB.refl _) (.inl ⟨by rfl, fun W hW => ?_⟩) ?_; rotate_left
          · (go_simp; first | done | with_reducible rfl)
          try simp only [Act.put, List.setIfInBounds_toArray, List.set_cons_zero, List.set_cons_succ]
          refine btake 5 (oi := _) (v := ?_) (by simp only [List.getElem?_toArray, List.getElem?_cons_succ, List.getElem?_cons_zero]; rfl) (by kernel_rfl) (by exact fun _ _ _ h => h) (by first | assumption | exact KB.refl _) (.inl ⟨by rfl, fun W hW => ?_⟩) ?_; rotate_left
          · (go_simp; first | done | with_reducible rfl)
          try simp only [Act.put, List.setIfInBounds_toArray, List.set_cons_zero, List.set_cons_succ]
          refine btake 6 (oi := _) (v := ?_) (by simp only [List.getElem?_toArray, List.getElem?_cons_succ, List.getElem?_cons_zero]; rfl) (by kernel_rfl) (by exact fun _ _ _ h => h) (by first | assumption | exact KB.refl _) (.inl ⟨by rfl, fun W hW => ?_⟩) ?_; rotate_left
          · (go_simp; first | done | with_reducible rfl)
          try simp only [Act.put, List.setIfInBounds_toArray, List.set_cons_zero, List.set_cons_succ]
          refine btake 7 (oi := _) (v := ?_) (by simp only [List.getElem?_toArray, List.getElem?_cons_succ, List.getElem?_cons_zero]; rfl) (by kernel_rfl) (by exact fun _ _ _ h => h) (by first | assumption | exact KB.refl _) (.inl ⟨by rfl, fun W hW => ?_⟩) ?_; rotate_left
          · (go_simp; first | done | with_reducible rfl)
          try simp only [Act.put, List.setIfInBounds_toArray, List.set_cons_zero, List.set_cons_succ]
          refine btake 8 (oi := _) (v := ?_) (by simp only [List.getElem?_toArray, List.getElem?_cons_succ, List.getElem?_cons_zero]; rfl) (by kernel_rfl) (by exact fun _ _ _ h => h) (by first | assumption | exact KB.refl _) (.inl ⟨by rfl, fun W hW => ?_⟩) ?_; rotate_left
          · (go_simp; first | done | with_reducible rfl)
          try simp only [Act.put, List.setIfInBounds_toArray, List.set_cons_zero, List.set_cons_succ]
          refine btake 9 (oi := _) (v := ?_) (by simp only [List.getElem?_toArray, List.getElem?_cons_succ, List.getElem?_cons_zero]; rfl) (by kernel_rfl) (by exact fun _ _ _ h => h) (by first | assumption | exact KB.refl _) (.inl ⟨by rfl, fun W hW => ?_⟩) ?_; rotate_left
          · (go_simp; first | done | with_reducible rfl)
          try simp only [Act.put, List.setIfInBounds_toArray, List.set_cons_zero, List.set_cons_succ]
          refine btake 10 (oi := _) (v := ?_) (by simp only [List.getElem?_toArray, List.getElem?_cons_succ, List.getElem?_cons_zero]; rfl) (by kernel_rfl) (by exact fun _ _ _ h => h) (by first | assumption | exact KB.refl _) (.inl ⟨by rfl, fun W hW => ?_⟩) ?_; rotate_left
          · (go_simp; first | done | with_reducible rfl)
          try simp only [Act.put, List.setIfInBounds_toArray, List.set_cons_zero, List.set_cons_succ]
          refine btake 11 (oi := _) (v := ?_) (by simp only [List.getElem?_toArray, List.getElem?_cons_succ, List.getElem?_cons_zero]; rfl) (by kernel_rfl) (by exact fun _ _ _ h => h) (by first | assumption | exact KB.refl _) (.inl ⟨by rfl, fun W hW => ?_⟩) ?_; rotate_left
          · (go_simp; first | done | with_reducible rfl)
          try simp only [Act.put, List.setIfInBounds_toArray, List.set_cons_zero, List.set_cons_succ]
          refine btake 12 (oi := _) (v := ?_) (by simp only [List.getElem?_toArray, List.getElem?_cons_succ, List.getElem?_cons_zero]; rfl) (by kernel_rfl) (by exact fun _ _ _ h => h) (by first | assumption | exact KB.refl _) (.inl ⟨by rfl, fun W hW => ?_⟩) ?_; rotate_left
          · (go_simp; first | done | with_reducible rfl)
          try simp only [Act.put, List.setIfInBounds_toArray, List.set_cons_zero, List.set_cons_succ]
          refine btake 13 (oi := _) (v := ?_) (by simp only [List.getElem?_toArray, List.getElem?_cons_succ, List.getElem?_cons_zero]; rfl) (by kernel_rfl) (by exact fun _ _ _ h => h) (by first | assumption | exact KB.refl _) (.inl ⟨by rfl, fun W hW => ?_⟩) ?_; rotate_left
          · (go_simp; first | done | with_reducible rfl)
          try simp only [Act.put, List.setIfInBounds_toArray, List.set_cons_zero, List.set_cons_succ]
          refine btake 14 (oi := _) (v := ?_) (by simp only [List.getElem?_toArray, List.getElem?_cons_succ, List.getElem?_cons_zero]; rfl) (by kernel_rfl) (by exact fun _ _ _ h => h) (by first | assumption | exact KB.refl _) (.inl ⟨by rfl, fun W hW => ?_⟩) ?_; rotate_left
          · (go_simp; first | done | with_reducible rfl)
          try simp only [Act.put, List.setIfInBounds_toArray, List.set_cons_zero, List.set_cons_succ]
          -- 15: Op.buildSlice 25 1 #[(0, Operand.tmp 45)]
          refine bopH 15 (o := _) (by simp only [List.getElem?_toArray, List.getElem?_cons_succ, List.getElem?_cons_zero]; rfl) (by kernel_rfl) (by first | assumption | exact KB.refl _) (by rfl) (fun K hK => ?_)
          go_simp
          have hkb : KB w.heap (wr.alloc (.cells #[.int .i64 (a : Int), .int .i64 (q : Int)] 23)).drew := KB.of hbel2
          refine hK.out _ _ hkb ?_; clear hK K
          try simp only [Act.put, List.setIfInBounds_toArray, List.set_cons_zero, List.set_cons_succ]
          -- 16: Op.call { callee := Callee.builtin Builtin.append, args := #[Operand.tmp 31, Operand.tmp 46], argTypes := #[25, 25] }
          refine bopH 16 (o := _) (by simp only [List.getElem?_toArray, List.getElem?_cons_succ, List.getElem?_cons_zero]; rfl) (by kernel_rfl) (by first | assumption | exact KB.refl _) (by rfl) (fun K hK => ?_)
          refine wp_appD rfl hown2 hSl rfl rfl rfl (by simp; omega) hbel2.size ?_
          intro v9 w9 how9 hg9 hat9
          have hb9 := own_belowD hbel2 hbel2.size hown2 hg9
          have hkb := KB.of hb9
          refine hK.out _ _ hkb ?_; clear hK K
          try simp only [Act.put, List.setIfInBounds_toArray, List.set_cons_zero, List.set_cons_succ]
          refine btake 17 (oi := _) (v := ?_) (by simp only [List.getElem?_toArray, List.getElem?_cons_succ, List.getElem?_cons_zero]; rfl) (by kernel_rfl) (by exact fun _ _ _ h => h) (by first | assumption | exact KB.refl _) (.inl ⟨by rfl, fun W hW => ?_⟩) ?_; rotate_left
          · (go_simp; first | done | with_reducible rfl)
          try simp only [Act.put, List.setIfInBounds_toArray, List.set_cons_zero, List.set_cons_succ]
          refine bdone (by kernel_rfl) ?_
          rw [← HM.out.1] at how9
          clear hkb e0 f0 hw1 hw2 hw3 hw4 hSl hown2 hbel2 hg9 hat9 hown hbel
          go_wp2_with fail
          go_roundw
          case rel => exact ⟨i + 1, by omega, by go_num, how9, hb9⟩
          case measure => simp [intOf]; omega
        · obtain rfl : i = x.length := by omega
          have hd3 : decide ((x.length : Int) < (x.length : Int)) = false := by rw [decide_eq_false_iff_not]; omega
          rw [List.take_length] at hown
          have hMr : ∀ z ∈ x.map dkB, z.right = true := by
            intro z hz
            obtain ⟨n, hn, rfl⟩ := List.mem_map.1 hz
            exact dkB_right (hxl n hn)
          have hMl : (x.map dkB).length = x.length := List.length_map ..
          generalize x.map dkB = M at *
          obtain ⟨Am, cm, e9, hcm1, hcm2, hsm, _⟩ := hown.form
          rw [hMl] at e9
          subst e9
          have hML : x.length = M.length := hMl.symm
          have hR := RefSort_any wr Am x.length cm M hsm hML (by omega)
          have hSr : ∀ z ∈ sortD M, z.right = true := fun z hz => hMr z ((sortD_mem M z).1 hz)
          have hSo := sortD_rise M
          have hSl := sortD_len M
          unfold DRow at hR
          generalize sortD M = S at *
          obtain ⟨n, hn⟩ : ∃ n, S.length = n := ⟨_, rfl⟩
          rw [hn] at hR hSl
          have hn100 : n ≤ 100 := by omega
          have hgood := good_rise hSo hSr
          obtain ⟨n17, h17⟩ : ∃ n17, min n 17 = n17 := ⟨_, rfl⟩
          obtain ⟨n16, h16⟩ : ∃ n16, min n 16 = n16 := ⟨_, rfl⟩
          have m17 : min (n : Int) 17 = (n17 : Int) := by omega
          have m16 : min (n17 : Int) 16 = (n16 : Int) := by omega
          have z17 : (0 : Int) ≤ (n17 : Int) := by omega
          have z16 : (0 : Int) ≤ (n16 : Int) := by omega
          have hg16 := good_take hgood n16
          have hl17 : (S.take n17).length = n17 := by rw [List.length_take]; omega
          have hl16 : (S.take n16).length = n16 := by rw [List.length_take]; omega
          have HS := Lib.hid (And.intro hn (And.intro hg16 (And.intro hl17 (And.intro hl16 (And.intro h16 h17)))))
          clear hown hMr hMl hML hsm hSr hSo hSl hgood hx hxl h16 h17 hg16 hl17 hl16
          go_wp2_with fail
          refine Calls.mono hR ?_
          rintro e w2 ⟨A3, c3, rfl, hs3, hle3, hcm3, h3⟩
          have hb3 := hbel.trans (h3.mono hbel.size)
          have y17 : (n17 : Int) ≤ (c3 : Int) := by have := HS.out; omega
          have y16 : (n16 : Int) ≤ (c3 : Int) := by have := HS.out; omega
          have hs17 : Sl w2 w2.heap.size A3 (dv (S.take n17)) := by rw [← dv_take]; exact hs3.tk _
          have hs16 : Sl w2 w2.heap.size A3 (dv (S.take n16)) := by rw [← dv_take]; exact hs3.tk _
          have hMat := MatD.three w2 25 (.slice A l.length c) (.slice A3 n17 c3) (.slice A3 n16 c3) l (S.take n17) (S.take n16) ⟨A, c, rfl, (hl.below hb3).more hb3.size, hc, hcm⟩
            ⟨A3, c3, by rw [HS.out.2.2.1], hs17, by rw [HS.out.2.2.1]; omega, hcm3⟩ ⟨A3, c3, by rw [HS.out.2.2.2.1], hs16, by rw [HS.out.2.2.2.1]; omega, hcm3⟩
          have hL3 : ∀ k : Nat, (([l, S.take n17, S.take n16] : List (List D2))[k]?.getD []).length ≤ 100 := by
            intro k
            have := HS.out
            match k with
            | 0 => exact h1
            | 1 => simp; omega
            | 2 => simp; omega
            | k + 3 => simp
          have hlen3 : ([l, S.take n17, S.take n16] : List (List D2)).length = 3 := rfl
          generalize hLL : ([l, S.take n17, S.take n16] : List (List D2)) = LL at *
          have HM := Lib.hid (And.intro hMat (And.intro hL3 hlen3))
          have hs16' := hs16
          have ht2 := (ht.below hb3).more hb3.size
          have hb4 := balloc hb3 (.cells #[.slice A l.length c, .slice A3 n17 c3, .slice A3 n16 c3] 25)
          clear hbel h3 hR hMat hL3 hLL hlen3 hs3 hs17 hl
          go_wp2_with fail
          have ht4 := (ht2.alloc (.cells #[.slice A l.length c, .slice A3 n17 c3, .slice A3 n16 c3] 25)).more (B' := (w2.alloc (.cells #[.slice A l.length c, .slice A3 n17 c3, .slice A3 n16 c3] 25)).heap.size) (by simp)
          have hs4 := (hs16.alloc (.cells #[.slice A l.length c, .slice A3 n17 c3, .slice A3 n16 c3] 25)).more (B' := (w2.alloc (.cells #[.slice A l.length c, .slice A3 n17 c3, .slice A3 n16 c3] 25)).heap.size) (by simp)
          generalize w2.alloc (.cells #[.slice A l.length c, .slice A3 n17 c3, .slice A3 n16 c3] 25) = w4 at *
          clear ht2 hs16 hs16' hb3
          go_loopw [64] (fun x64 wr => ∃ k : Nat, k ≤ 3 ∧ x64 = .int .i64 (k : Int) ∧ Below w4.heap.size w4 wr) (fun x64 _ => 3 - (intOf x64).toNat)
          case atStart => exact ⟨0, by omega, rfl, Below.refl _ _⟩
          case round =>
            obtain ⟨k, hk, rfl, hbel⟩ := hrel
            by_cases hlt : k < 3
            · obtain ⟨bm, om, A5, c5, e9, hbm, f0, hs5, hle5, hcm5⟩ := HM.out.1.at_ (k := k) (by rw [HM.out.2.2]; exact hlt)
              have hV := HM.out.2.1 k
              generalize LL[k]?.getD [] = V at *
              obtain ⟨nv, hnv⟩ : ∃ nv, V.length = nv := ⟨_, rfl⟩
              rw [hnv] at f0 hle5 hV
              cases e9
              rw [Nat.zero_add] at f0
              replace f0 := (hbel.cell hbm).trans f0
              replace hs5 := (hs5.below hbel).more hbel.size
              have ht5 := (ht4.below hbel).more hbel.size
              have hP := DPut_any wr A5 nv c5 V hs5 hnv.symm (by omega)
              have hpl := putDs_le V
              have hpf : putDs V = [] ∨ takeDs (putDs V ++ t) = (V, (putDs V).length, 0) := by
                by_cases hz : putDs V = []
                · exact .inl hz
                · obtain ⟨u1, u2⟩ := putDs_some hz
                  exact .inr (takeDs_put u1 u2 t)
              have hRP := fun W (hW : Below wr.heap.size wr W) => RDPut_any W A5 nv c5 V ((hs5.below hW).more hW.size) hnv.symm (by omega)
              generalize putDs V = P at *
              obtain ⟨np, hnp⟩ : ∃ np, P.length = np := ⟨_, rfl⟩
              rw [hnp] at hpl hpf
              unfold Fresh at hP hRP
              rw [hnp] at hP hRP
              have HR := Lib.hid hRP
              have HP := Lib.hid (And.intro hpf (And.intro hnp hnv))
              have hd5 : decide ((k : Int) < 3) = true := by rw [decide_eq_true_eq]; omega
              have hk0 : (0 : Int) ≤ (k : Int) := by omega
              have hk3 : (k : Int) < 3 := by omega
              clear hRP hpf hnp hnv
              go_wp2_with fail
              refine Calls.mono hP ?_
              rintro e w5 ⟨A6, c6, rfl, g6, hb6⟩
              have hS6 := (OwnB.sl (l := P) (by rw [HP.out.2.1]; exact g6)).1
              have hcv := convB hS6 np c6 HP.out.2.1.symm
              clear hP
              go_wp2_with fail
              refine bstart (by kernel_rfl) ?_
              refine btake 0 (oi := _) (v := ?_) (by simp only [List.getElem?_toArray, List.getElem?_cons_zero]; rfl) (by kernel_rfl) (by exact fun _ _ _ h => h) (by first | assumption | exact KB.refl _) (.inl ⟨by rfl, fun W hW => ?_⟩) ?_; rotate_left
              · (go_simp; first | done | with_reducible rfl)
              try simp only [Act.put, List.setIfInBounds_toArray, List.set_cons_zero, List.set_cons_succ]
              refine btake 1 (oi := _) (v := ?_) (by simp only [List.getElem?_toArray, List.getElem?_cons_succ, List.getElem?_cons_zero]; rfl) (by kernel_rfl) (by exact fun _ _ _ h => h) (by first | assumption | exact KB.refl _) (.inl ⟨by rfl, fun W hW => ?_⟩) ?_; rotate_left
              · (go_simp; first | done | with_reducible rfl)
              try simp only [Act.put, List.setIfInBounds_toArray, List.set_cons_zero, List.set_cons_succ]
              refine btake 2 (oi := _) (v := ?_) (by simp only [List.getElem?_toArray, List.getElem?_cons_succ, List.getElem?_cons_zero]; rfl) (by kernel_rfl) (by exact fun _ _ _ h => h) (by first | assumption | exact KB.refl _) (.inl ⟨by rfl, fun W hW => ?_⟩) ?_; rotate_left
              · (go_simp; first | done | with_reducible rfl)
              try simp only [Act.put, List.setIfInBounds_toArray, List.set_cons_zero, List.set_cons_succ]
              -- 3: newsreel/newsreelref1.DotPut
              refine bop 3 (o := _) (by simp only [List.getElem?_toArray, List.getElem?_cons_succ, List.getElem?_cons_zero]; rfl) (by kernel_rfl) (by first | assumption | exact KB.refl _) (by rfl) (fun K hK => ?_)
              go_simp
              refine (HR.out _ (hb6.trans (Below.refl _ _).drew)).mono ?_
              rintro e w6 ⟨A7, c7, rfl, g7, hb7⟩
              have hb56 : Below w5.heap.size w5 w6 := (Below.refl _ w5).drew.trans hb7
              have hkb := KB.of hb7
              have hcv2 := convB ((OwnB.sl (l := P) (by rw [HP.out.2.1]; exact g7)).1) np c7 HP.out.2.1.symm
              refine hK.out _ _ hkb ?_; clear hK K
              try simp only [Act.put, List.setIfInBounds_toArray, List.set_cons_zero, List.set_cons_succ]
              refine btake 4 (oi := _) (v := ?_) (by simp only [List.getElem?_toArray, List.getElem?_cons_succ, List.getElem?_cons_zero]; rfl) (by kernel_rfl) (by exact fun _ _ _ h => h) (by first | assumption | exact KB.refl _) (.inl ⟨by rfl, fun W hW => ?_⟩) ?_; rotate_left
              · (go_simp; first | done | with_reducible rfl)
              try simp only [Act.put, List.setIfInBounds_toArray, List.set_cons_zero, List.set_cons_succ]
              refine btake 5 (oi := _) (v := ?_) (by simp only [List.getElem?_toArray, List.getElem?_cons_succ, List.getElem?_cons_zero]; rfl) (by kernel_rfl) (by exact fun _ _ _ h => h) (by first | assumption | exact KB.refl _) (.inl ⟨by rfl, fun W hW => ?_⟩) ?_; rotate_left
              · (go_simp; first | done | with_reducible rfl)
              try simp only [Act.put, List.setIfInBounds_toArray, List.set_cons_zero, List.set_cons_succ]
              refine bdone (by kernel_rfl) ?_
              have hS8 := (hS6.below hb56).more hb56.size
              have hbr6 : Below wr.heap.size wr w6 := hb6.trans (hb56.mono hb6.size)
              have hs8 := (hs5.below hbr6).more hbr6.size
              have ht8 := (ht5.below hbr6).more hbr6.size
              have hbz := hbel.trans (hbr6.mono hbel.size)
              clear hcv hcv2 hkb hb56 hbr6 hb6 hb7 g6 g7 hS6 hs5 ht5 f0 hbel HR
              by_cases hnp0 : np = 0
              · have hz : ((np : Int) == 0) = true := by rw [beq_iff_eq]; omega
                go_wp2_with fail
                go_roundw
                case rel => exact ⟨k + 1, by omega, by go_num, hbz⟩
                case measure => simp [intOf]; omega
              · have hz : ((np : Int) == 0) = false := by rw [beq_eq_false_iff_ne]; omega
                have hpf : takeDs (P ++ t) = (V, np, 0) := HP.out.1.resolve_left (fun e => hnp0 (by rw [← HP.out.2.1, e]; rfl))
                have HT := Lib.hid hpf
                have hnn : (np != np) = false := by simp
                clear hpf hnp0
                go_wp2_with (first
                  | (at_builtin; refine app rfl rfl (OwnB.nil w6 w6.heap.size) hS8 HP.out.2.1.symm rfl rfl (by have := HP.out.2.1; simp; omega) (Nat.le_refl _) ?_; intro s9 w9 hown9 hg9 hat9)
                  | (at_builtin; refine app rfl rfl hown9 (ht8.below (below_of_grown hg9 (by simp [Value.ownBlock]) (Nat.le_refl _))) rfl rfl rfl (by have := HP.out.2.1; simp; omega) hg9.size ?_; intro s10 w10 hown10 hg10 hat10))
                have hb9 : Below w6.heap.size w6 w9 := below_of_grown hg9 (by simp [Value.ownBlock]) (Nat.le_refl _)
                have hb10 : Below w6.heap.size w6 w10 := own_below hb9 hb9.size hown9 hg10
                rw [List.nil_append] at hown10
                obtain ⟨A10, c10, e10, hle10, hcm10, hs10, _, _⟩ := hown10.form
                obtain ⟨n10, hn10⟩ : ∃ n10, (P ++ t).length = n10 := ⟨_, rfl⟩
                rw [hn10] at e10 hle10
                subst e10
                have hA := TakeAll_any w10 A10 n10 c10 (P ++ t) hs10 hn10.symm hle10 hcm10
                unfold TakeAllPost at hA
                rw [HT.out] at hA
                simp only [HP.out.2.2] at hA
                refine Calls.mono hA ?_
                rintro e w11 ⟨A11, c11, rfl, g11, _, _, h11⟩
                have hb11 := hb10.trans (h11.mono hb10.size)
                have hs11 := (hs8.below hb11).more hb11.size
                have hbz2 := hbz.trans (hb11.mono hbz.size)
                clear hA hS8 hs8 ht8 hown9 hown10 hg9 hg10 hat9 hat10 hb9 hb10 hs10 hb11 h11 hle10 hn10 hbz
                go_wp2_with fail
                have hSm := Same_any w11 A11 A5 nv nv c11 c5 V V g11 hs11 HP.out.2.2.symm HP.out.2.2.symm (by omega) (by omega) (Nat.le_refl _) (Nat.le_refl _)
                simp only [decide_true] at hSm
                refine Calls.mono hSm ?_
                rintro e w12 ⟨rfl, h12⟩
                have hbz3 := hbz2.trans (h12.mono hbz2.size)
                clear hSm hs11 g11 h12 hbz2
                go_wp2_with fail
                go_roundw
                case rel => exact ⟨k + 1, by omega, by go_num, hbz3⟩
                case measure => simp [intOf]; omega
            · obtain rfl : k = 3 := by omega
              have hs5 := (hs4.below hbel).more hbel.size
              have hP := DPut_any wr A3 n16 c3 (S.take n16) hs5 HS.out.2.2.2.1.symm (by have := HS.out.2.2.2.2; omega)
              have hq1 := putDs_pos (l := S.take n16) (by have := HS.out; omega) HS.out.2.1
              unfold Fresh at hP
              obtain ⟨q, hq⟩ : ∃ q, (putDs (S.take n16)).length = q := ⟨_, rfl⟩
              rw [hq] at hP hq1
              have hd9 : decide ((0 : Int) < (q : Int)) = true := by rw [decide_eq_true_eq]; omega
              clear hs5 hq
              go_wp2_with fail
              refine Calls.mono hP ?_
              rintro e w6 ⟨A7, c7, rfl, g7, hb7⟩
              have hbz := hb4.trans ((hbel.trans (hb7.mono hbel.size)).mono hb4.size)
              go_wp2_with fail
              go_ret
              exact ⟨ret_b (by rw [decide_eq_true_eq]; omega), hbz⟩
    · have hd1 : decide ((100 : Int) < (l.length : Int)) = false := by rw [decide_eq_false_iff_not]; omega
      have hd2 : decide ((100 : Int) < (x.length : Int)) = true := by rw [decide_eq_true_eq]; omega
      go_enter Try.func6, Try.ntmps6
      go_wp2_with fail
      refine (HK.out _).mono ?_
      rintro e w1 ⟨rfl, hw1⟩
      go_wp2_with fail
      go_ret
      exact ⟨rfl, hw1⟩
  · have hd1 : decide ((100 : Int) < (l.length : Int)) = true := by rw [decide_eq_true_eq]; omega
    go_enter Try.func6, Try.ntmps6
    go_wp2_with fail
    refine (HK.out _).mono ?_
    rintro e w1 ⟨rfl, hw1⟩
    go_wp2_with fail
    go_ret
    exact ⟨rfl, hw1⟩
end Go.Proofs.Ytpeecgphmcihaaa

