/- 'CrcBurst': the walk of the law. -/
import Derived.Test.YtandbancbgojjaaCrcB
namespace Go.Proofs.Ytandbancbgojjaa
open Go.RowKit Go.Proofs.Ytandbancbgojjaa.Pc Go.Proofs.Ytandbancbgojjaa.Pl

/-- the row after i of the four bytes have been turned -/
def bst (S : List UInt8) (k n : Nat) : Nat → List UInt8
  | 0 => S
  | i + 1 => (bst S k n i).set (k + i) ((bst S k n i)[k + i]?.getD 0 ^^^ UInt8.ofNat (n / 256 ^ i))
theorem bst_len (S : List UInt8) (k n : Nat) : ∀ i, (bst S k n i).length = S.length
  | 0 => rfl
  | i + 1 => by simp [bst, bst_len S k n i]
theorem bst_app (l F : List UInt8) (k n : Nat) : ∀ i, k + i ≤ l.length → bst (l ++ F) k n i = bst l k n i ++ F
  | 0, _ => rfl
  | i + 1, h => by
    have hl := bst_len l k n i
    simp only [bst]
    rw [bst_app l F k n i (by omega), List.getElem?_append_left (by omega), List.set_append_left _ _ (by omega)]
theorem bst_four (p t : List UInt8) (a b c d : UInt8) (n : Nat) : bst (p ++ a :: b :: c :: d :: t) p.length n 4 = p ++ xorL [a, b, c, d] [UInt8.ofNat n, UInt8.ofNat (n / 256), UInt8.ofNat (n / 65536), UInt8.ofNat (n / 16777216)] ++ t := by
  simp [bst, xorL, List.set_append, List.getElem?_append]
theorem sum_burst (l : List UInt8) (k n : Nat) (hk : k + 4 ≤ l.length) (hn : n < 4294967296) (h0 : n ≠ 0) : sum (bst l k n 4) ≠ sum l := by
  obtain ⟨p, a, b, c, d, t, rfl, rfl⟩ : ∃ p a b c d t, p.length = k ∧ l = p ++ a :: b :: c :: d :: t := by
    refine ⟨l.take k, l[k]'(by omega), l[k+1]'(by omega), l[k+2]'(by omega), l[k+3]'(by omega), l.drop (k + 4), by rw [List.length_take]; omega, ?_⟩
    rw [← List.drop_eq_getElem_cons, ← List.drop_eq_getElem_cons, ← List.drop_eq_getElem_cons, ← List.drop_eq_getElem_cons, List.take_append_drop]
  rw [bst_four]
  have := sum_mid p [a, b, c, d] [UInt8.ofNat n, UInt8.ofNat (n / 256), UInt8.ofNat (n / 65536), UInt8.ofNat (n / 16777216)] t rfl (diff_burst n hn h0)
  simpa using this
theorem open_burst (l : List UInt8) (k n : Nat) (hk : k + 4 ≤ l.length) (hn : n < 4294967296) (h0 : n ≠ 0) : openS (bst (sealS l) k n 4) = none := by
  unfold sealS
  rw [bst_app _ _ _ _ _ hk]
  exact open_other l _ _ (bst_len _ _ _ _) (fixF_len _ _) (.inl ⟨sum_burst l k n hk hn h0, rfl⟩)
theorem bst_take (l : List UInt8) (k n : Nat) (hk : k + 4 ≤ l.length) : (bst (sealS l) k n 4).take l.length = bst l k n 4 := by
  unfold sealS
  rw [bst_app _ _ _ _ _ hk, List.take_append_of_le_length (by rw [bst_len]; omega), List.take_of_length_le (by rw [bst_len]; omega)]
theorem byte_at (n i : Nat) (hi : i < 4) : IntKind.u8.wrap ((n : Int) / ((256 ^ i : Nat) : Int)) = ((UInt8.ofNat (n / 256 ^ i)).toNat : Int) := by
  rw [IntKind.wrap_u8, UInt8.toNat_ofNat']
  have : ((n : Int) / ((256 ^ i : Nat) : Int)) = ((n / 256 ^ i : Nat) : Int) := by rw [Int.natCast_ediv]
  rw [this]
  omega
theorem IntKind.wrap_of_small (z : Int) (h0 : 0 ≤ z) (h1 : z ≤ 140737488355328) : IntKind.i64.wrap z = z := by
  rw [IntKind.wrap_i64]; omega
def BurstRel (w2 : World) (S : List UInt8) (g cap k n : Nat) (x : Value) (wr : World) : Prop := ∃ i : Nat, i ≤ 4 ∧ x = .int .i64 (i : Int) ∧ OwnB wr w2.heap.size (.slice (some ⟨g, 0, none⟩) S.length cap) (bst S k n i) ∧ Below w2.heap.size w2 wr ∧ g < wr.heap.size
set_option maxRecDepth 100000 in
set_option maxHeartbeats 3200000 in
theorem CrcBurst_walk (w : World) (A : Option Addr) (c : Nat) (l : List UInt8) (hb : Sl w w.heap.size A (bv l)) (hc : l.length ≤ c) (hm : c ≤ 140737488351232) (a : Int) (ha : -9223372036854775808 ≤ a ∧ a ≤ 9223372036854775807) (x : Nat) (hx : x < 4294967296) :
    Calls Try.prog 8 #[.slice A l.length c, .int .i64 a, .int .u32 (x : Int)] w fun e w' => e = .returned (.bool true) ∧ Below w.heap.size w w' := by
  obtain ⟨ha1, ha2⟩ := ha
  by_cases hsm : l.length < 4
  · have hd4 : decide ((l.length : Int) < 4) = true := by simp; omega
    go_enter Try.func8, Try.ntmps8
    go_wp2_with fail
    refine (known_any w).mono ?_
    rintro e w1 ⟨rfl, hb1⟩
    go_wp2_with fail
    go_ret
    exact ⟨rfl, hb1⟩
  have hd4 : decide ((l.length : Int) < 4) = false := by simp; omega
  by_cases hx0 : x = 0
  · subst hx0
    go_enter Try.func8, Try.ntmps8
    go_wp2_with fail
    refine (known_any w).mono ?_
    rintro e w1 ⟨rfl, hb1⟩
    go_wp2_with fail
    go_ret
    exact ⟨rfl, hb1⟩
  · have hxi : ((x : Int) == 0) = false := by simp; omega
    have hlen := sealS_len l
    have hopen := fun k hk => open_burst l k x hk hx hx0
    have htake := fun k hk => bst_take l k x hk
    have hsumb := fun k hk => sum_burst l k x hk hx hx0
    obtain ⟨S, hS⟩ : ∃ S, sealS l = S := ⟨_, rfl⟩
    have HS := Lib.hid hS
    rw [hS] at hlen
    have HL := Lib.hid hlen
    have HO := Lib.hid hopen
    have HT := Lib.hid htake
    have HB := Lib.hid hsumb
    clear hlen hS hopen htake hsumb
    go_enter Try.func8, Try.ntmps8
    go_wp2_with fail
    refine (known_any w).mono ?_
    rintro e w1 ⟨rfl, hb1⟩
    have hbl := (hb.below hb1).more hb1.size
    go_wp2_with fail
    have hseal := Seal_any w1 A l.length c l hbl rfl hc (by simp only [maxLen]; omega) (by omega)
    rw [HS.out] at hseal
    refine hseal.mono ?_
    clear hseal
    rintro e w2 ⟨A2, c2, rfl, hown2, hb2⟩
    have hs2 := Fresh.sl hown2
    have hb2' := bstep hb1 hb2
    have hSl : S.length ≤ 140737488355328 := by have := HL.out; omega
    go_wp2_with (at_builtin; refine app rfl rfl (OwnB.nil w2 w2.heap.size) hs2.1 rfl rfl rfl (by simpa using hSl) (Nat.le_refl _) ?_; intro s3 w3 hown3 hg3 hat3)
    have hb3 : Below w2.heap.size w2 w3 := below_of_grown hg3 (by simp [Value.ownBlock]) (Nat.le_refl _)
    rw [List.nil_append] at hown3
    have hb3' := bstep hb2' hb3
    obtain ⟨g, cap, rfl, hg, hgw, hcap, hcapm⟩ := hown3.head (by have := HL.out; omega)
    have hsz2 : w.heap.size ≤ w2.heap.size := hb2'.size
    have hgr3 := hb3
    have hbw2 := hb2'
    clear hat3 hg3 hb2 hb3 hb2' hbl hown2 hs2 hb1
    have hlenf := run_len_slice (P := Try.prog) (w := w3) 24 3 (some ⟨g, 0, none⟩) S.length cap Try.underlying24
    go_wp2_with fail
    rw [hlenf]
    clear hlenf
    have hLd : ((S.length : Int) != ((l.length : Int) + 4)) = false := by have := HL.out; simp; omega
    have hsub : ((l.length : Int) - 3) = ((l.length - 3 : Nat) : Int) := by omega
    go_wp2_with fail
    refine (Place_any w3 a (l.length - 3) (by omega) (by omega) ha1 ha2).mono ?_
    rintro e w4 ⟨k, hk, rfl, rfl⟩
    go_wp2_with fail
    have hkS : k + 4 ≤ S.length := by have := HL.out; omega
    go_loopw [9] (fun x9 wr => BurstRel w2 S g cap k x x9 wr) (fun x9 _ => 4 - (intOf x9).toNat)
    case atStart => exact ⟨0, Nat.zero_le _, rfl, hown3, hgr3, hgw⟩
    case round =>
      obtain ⟨i, hi, rfl, hown, hbel, hgwr⟩ := hrel
      by_cases hlt : i < 4
      · have hbl : (bst S k x i).length = S.length := bst_len S k x i
        have hown' : OwnB wr w2.heap.size (.slice (some ⟨g, 0, none⟩) (bst S k x i).length cap) (bst S k x i) := by rw [hbl]; exact hown
        obtain ⟨hcell, hfz, hst, hgr⟩ := OwnB.store hown' (k + i) ((bst S k x i)[k + i]?.getD 0 ^^^ UInt8.ofNat (x / 256 ^ i)).toNat (by omega) (UInt8.toNat_lt _)
        have hlst : bst S k x (i + 1) = (bst S k x i).set (k + i) ((bst S k x i)[k + i]?.getD 0 ^^^ UInt8.ofNat (x / 256 ^ i)) := rfl
        rw [UInt8.ofNat_toNat, hbl] at hst
        clear hown'
        have hkm : k + i < S.length := by omega
        have hsh : Op.shift .shr .u32 (x : Int) .i64 ((8 * i : Nat) : Int) = pure (.int .u32 ((x / 256 ^ i : Nat) : Int)) := by
          rw [shift_shr_any _ _ _ _ (by omega)]
          have e1 : min ((8 * i : Nat) : Int).toNat IntKind.u32.bits = 8 * i := by simp only [IntKind.bits, Int.toNat_natCast]; omega
          rw [e1]
          have e2 : (x : Int) / 2 ^ (8 * i) = ((x / 256 ^ i : Nat) : Int) := by
            rcases (by omega : i = 0 ∨ i = 1 ∨ i = 2 ∨ i = 3) with rfl | rfl | rfl | rfl
            · show (x : Int) / 1 = ((x / 1 : Nat) : Int); omega
            · show (x : Int) / 256 = ((x / 256 : Nat) : Int); omega
            · show (x : Int) / 65536 = ((x / 65536 : Nat) : Int); omega
            · show (x : Int) / 16777216 = ((x / 16777216 : Nat) : Int); omega
          rw [e2]
        have hw8 : IntKind.i64.wrap (8 * (i : Int)) = ((8 * i : Nat) : Int) := by rw [show (8 : Int) * (i : Int) = ((8 * i : Nat) : Int) by omega]; exact IntKind.wrap_of_small _ (by omega) (by omega)
        have hcv : IntKind.u8.wrap ((x / 256 ^ i : Nat) : Int) = ((UInt8.ofNat (x / 256 ^ i)).toNat : Int) := by rw [IntKind.wrap_u8, UInt8.toNat_ofNat']; omega
        have hki : (k : Int) + (i : Int) = ((k + i : Nat) : Int) := by omega
        have hxr := xor_u8 ((bst S k x i)[k + i]?.getD 0) (UInt8.ofNat (x / 256 ^ i))
        generalize (bst S k x i)[k + i]?.getD 0 ^^^ UInt8.ofNat (x / 256 ^ i) = z at *
        generalize (bst S k x i)[k + i]?.getD 0 = y at *
        generalize UInt8.ofNat (x / 256 ^ i) = D at *
        generalize x / 256 ^ i = q at *
        generalize 8 * i = j at *
        have HLST := Lib.hid hlst
        have HBL := Lib.hid hbl
        clear hlst hbl
        generalize hT : bst S k x i = T at *
        obtain ⟨m, hmk⟩ : ∃ m, k + i = m := ⟨_, rfl⟩
        rw [hmk] at hki hkm hst hgr hcell hfz
        have HMK := Lib.hid hmk
        clear hmk hT
        have hkc : (m : Int) ≤ (cap : Int) := by omega
        have hkn : (m : Int) < (S.length : Int) := by omega
        have hwm : IntKind.i64.wrap (m : Int) = (m : Int) := IntKind.wrap_of_small _ (by omega) (by omega)
        go_wp2_with fail
        have hS0 : KB (w2.heap) wr.drew := KB.of hbel.drew
        refine bstartH (w2.heap) (by kernel_rfl) ?_
        refine btake 0 (oi := _) (v := ?_) (by simp only [List.getElem?_toArray, List.getElem?_cons_succ, List.getElem?_cons_zero]; rfl) (by kernel_rfl) (by exact fun _ _ _ h => h) (by first | assumption | exact KB.refl _) (.inl ⟨by rfl, fun W hW => ?_⟩) ?_; rotate_left
        · (go_simp; first | done | with_reducible rfl)
        try simp only [Act.put, List.setIfInBounds_toArray, List.set_cons_zero, List.set_cons_succ]
        refine btake 1 (oi := _) (v := ?_) (by simp only [List.getElem?_toArray, List.getElem?_cons_succ, List.getElem?_cons_zero]; rfl) (by kernel_rfl) (by exact fun _ _ _ h => h) (by first | assumption | exact KB.refl _) (.inl ⟨by rfl, fun W hW => ?_⟩) ?_; rotate_left
        · (go_simp; first | done | with_reducible rfl)
        try simp only [Act.put, List.setIfInBounds_toArray, List.set_cons_zero, List.set_cons_succ]
        refine btake 2 (oi := _) (v := ?_) (by simp only [List.getElem?_toArray, List.getElem?_cons_succ, List.getElem?_cons_zero]; rfl) (by kernel_rfl) (by exact fun _ _ _ h => h) (by first | assumption | exact KB.refl _) (.inl ⟨by rfl, fun W hW => ?_⟩) ?_; rotate_left
        · (go_simp; first | done | with_reducible rfl)
        try simp only [Act.put, List.setIfInBounds_toArray, List.set_cons_zero, List.set_cons_succ]
        refine btake 3 (oi := _) (v := ?_) (by simp only [List.getElem?_toArray, List.getElem?_cons_succ, List.getElem?_cons_zero]; rfl) (by kernel_rfl) (by exact fun _ _ _ h => h) (by first | assumption | exact KB.refl _) (.inl ⟨by rfl, fun W hW => ?_⟩) ?_; rotate_left
        · (go_simp; first | done | with_reducible rfl)
        try simp only [Act.put, List.setIfInBounds_toArray, List.set_cons_zero, List.set_cons_succ]
        refine btake 4 (oi := _) (v := ?_) (by simp only [List.getElem?_toArray, List.getElem?_cons_succ, List.getElem?_cons_zero]; rfl) (by kernel_rfl) (by exact fun _ _ _ h => h) (by first | assumption | exact KB.refl _) (.inl ⟨by rfl, fun W hW => ?_⟩) ?_; rotate_left
        · (go_simp; first | done | with_reducible rfl)
        try simp only [Act.put, List.setIfInBounds_toArray, List.set_cons_zero, List.set_cons_succ]
        refine btake 6 (oi := _) (v := ?_) (by simp only [List.getElem?_toArray, List.getElem?_cons_succ, List.getElem?_cons_zero]; rfl) (by kernel_rfl) (by exact fun _ _ _ h => h) (by first | assumption | exact KB.refl _) (.inl ⟨by rfl, fun W hW => ?_⟩) ?_; rotate_left
        · (go_simp; first | done | with_reducible rfl)
        try simp only [Act.put, List.setIfInBounds_toArray, List.set_cons_zero, List.set_cons_succ]
        refine btake 7 (oi := _) (v := ?_) (by simp only [List.getElem?_toArray, List.getElem?_cons_succ, List.getElem?_cons_zero]; rfl) (by kernel_rfl) (by exact fun _ _ _ h => h) (by first | assumption | exact KB.refl _) (.inl ⟨by rfl, fun W hW => ?_⟩) ?_; rotate_left
        · (go_simp; first | done | with_reducible rfl)
        try simp only [Act.put, List.setIfInBounds_toArray, List.set_cons_zero, List.set_cons_succ]
        refine btake 8 (oi := _) (v := ?_) (by simp only [List.getElem?_toArray, List.getElem?_cons_succ, List.getElem?_cons_zero]; rfl) (by kernel_rfl) (by exact fun _ _ _ h => h) (by first | assumption | exact KB.refl _) (.inl ⟨by rfl, fun W hW => ?_⟩) ?_; rotate_left
        · (go_simp; first | done | with_reducible rfl)
        try simp only [Act.put, List.setIfInBounds_toArray, List.set_cons_zero, List.set_cons_succ]
        refine btake 9 (oi := _) (v := ?_) (by simp only [List.getElem?_toArray, List.getElem?_cons_succ, List.getElem?_cons_zero]; rfl) (by kernel_rfl) (by exact fun _ _ _ h => h) (by first | assumption | exact KB.refl _) (.inl ⟨by rfl, fun W hW => ?_⟩) ?_; rotate_left
        · (go_simp; first | done | with_reducible rfl)
        try simp only [Act.put, List.setIfInBounds_toArray, List.set_cons_zero, List.set_cons_succ]
        refine btake 10 (oi := _) (v := ?_) (by simp only [List.getElem?_toArray, List.getElem?_cons_succ, List.getElem?_cons_zero]; rfl) (by kernel_rfl) (by exact fun _ _ _ h => h) (by first | assumption | exact KB.refl _) (.inl ⟨by rfl, fun W hW => ?_⟩) ?_; rotate_left
        · (go_simp; first | done | with_reducible rfl)
        try simp only [Act.put, List.setIfInBounds_toArray, List.set_cons_zero, List.set_cons_succ]
        -- 5: Op.load 5 (Operand.tmp 43)
        refine bopH 5 (o := _) (by simp only [List.getElem?_toArray, List.getElem?_cons_succ, List.getElem?_cons_zero]; rfl) (by kernel_rfl) (by first | assumption | exact KB.refl _) (by rfl) (fun K hK => ?_)
        go_simp
        have hkb := hS0
        refine hK.out _ _ hkb ?_; clear hK K
        try simp only [Act.put, List.setIfInBounds_toArray, List.set_cons_zero, List.set_cons_succ]
        refine btake 11 (oi := _) (v := ?_) (by simp only [List.getElem?_toArray, List.getElem?_cons_succ, List.getElem?_cons_zero]; rfl) (by kernel_rfl) (by exact fun _ _ _ h => h) (by first | assumption | exact KB.refl _) (.inl ⟨by rfl, fun W hW => ?_⟩) ?_; rotate_left
        · (go_simp; first | done | with_reducible rfl)
        try simp only [Act.put, List.setIfInBounds_toArray, List.set_cons_zero, List.set_cons_succ]
        refine btake 12 (oi := _) (v := ?_) (by simp only [List.getElem?_toArray, List.getElem?_cons_succ, List.getElem?_cons_zero]; rfl) (by kernel_rfl) (by exact fun _ _ _ h => h) (by first | assumption | exact KB.refl _) (.inl ⟨by rfl, fun W hW => ?_⟩) ?_; rotate_left
        · (go_simp; first | done | with_reducible rfl)
        try simp only [Act.put, List.setIfInBounds_toArray, List.set_cons_zero, List.set_cons_succ]
        -- 13: Op.store 5 (Operand.tmp 51) (Operand.tmp 50)
        refine bopH 13 (o := _) (by simp only [List.getElem?_toArray, List.getElem?_cons_succ, List.getElem?_cons_zero]; rfl) (by kernel_rfl) (by first | assumption | exact KB.refl _) (by rfl) (fun K hK => ?_)
        go_simp
        have hbst := below_of_grown hgr (B := w2.heap.size) (fun g' e => by cases e; exact hg) hbel.size
        have hbel2 := hbel.trans hbst
        have hkb := KB.of hbel2.drew
        refine hK.out _ _ hkb ?_; clear hK K
        try simp only [Act.put, List.setIfInBounds_toArray, List.set_cons_zero, List.set_cons_succ]
        refine bdone (by kernel_rfl) ?_
        go_wp2_with fail
        go_roundw
        case rel => exact ⟨i + 1, hlt, by go_num, by rw [HLST.out, HMK.out]; exact hst, hbel2.drew, by simpa using hgwr⟩
        case measure => simp [intOf]; omega
      · obtain rfl : i = 4 := by omega
        have hop4 := HO.out k (by omega)
        have htk4 := HT.out k (by omega)
        have hsm4 := HB.out k (by omega)
        have hbl : (bst S k x 4).length = S.length := bst_len S k x 4
        rw [HS.out] at hop4 htk4
        generalize bst S k x 4 = T at *
        generalize bst l k x 4 = L4 at *
        have hso := OwnB.sl (l := T) (by rw [hbl]; exact hown)
        rw [hbl] at hso
        have hop := fun W hW => Open_any W (some ⟨g, 0, none⟩) S.length cap T hW hbl.symm hso.2.1 hso.2.2 (by omega)
        rw [hop4] at hop
        have HOP := Lib.hid hop
        have HBL := Lib.hid hbl
        clear hop hbl
        go_wp2_with fail
        refine (HOP.out _ (by exact hso.1)).mono ?_
        rintro e w5 ⟨rfl, hb5⟩
        have hb5' : Below w.heap.size w w5 := bstep (hbw2.trans (hbel.mono hsz2)) hb5
        have hlc : (l.length : Int) ≤ (cap : Int) := by have := HL.out; omega
        have hbl5 := (hb.below (hbw2.trans (hbel.mono hsz2))).below' hb5
        have hs5 := (hso.1.tk l.length).below' hb5
        rw [bv_take, htk4] at hs5
        have hll4 : L4.length = l.length := by rw [← htk4, List.length_take, HBL.out]; have := HL.out; omega
        have hM1 := Mat.one w5 24 (.slice (some ⟨g, 0, none⟩) l.length cap) L4 ⟨some ⟨g, 0, none⟩, cap, by rw [hll4], hs5.more hb5.size, by rw [hll4]; omega, hso.2.2⟩
        have hs1 := fun W h => Sum_any W (some ⟨w5.heap.size, 0, none⟩) 1 1 [L4] h rfl (by simp [maxLen])
        have hs2 := fun W A h => Sum_any W A 1 1 [l] h rfl (by simp [maxLen])
        rw [show [L4].flatten = L4 by simp] at hs1
        rw [show [l].flatten = l by simp] at hs2
        have hne : (((sum L4).toNat : Int) != ((sum l).toNat : Int)) = true := by
          simp only [bne_iff_ne, ne_eq]
          intro e
          exact hsm4 (BitVec.eq_of_toNat_eq (by omega))
        generalize (sum L4).toNat = N4 at *
        generalize (sum l).toNat = N at *
        have HS1 := Lib.hid hs1
        have HS2 := Lib.hid hs2
        have HLL := Lib.hid hll4
        clear hs1 hs2 hll4 htk4 hsm4
        go_wp2_with fail
        refine (HS1.out _ hM1).mono ?_
        rintro e w6 ⟨rfl, hb6⟩
        have hb56 : Below w5.heap.size w5 w6 := bstep (balloc (Below.refl _ _) _) hb6
        have hb6' := bstep hb5' hb56
        have hM2 := Mat.one w6 24 (.slice A l.length c) l ⟨A, c, rfl, (hbl5.below' hb56).more hb6'.size, hc, by simp only [maxLen]; omega⟩
        clear hM1 hs5 hb6 hb56 hbl5 hso
        go_wp2_with fail
        refine (HS2.out _ _ hM2).mono ?_
        rintro e w7 ⟨rfl, hb7⟩
        have hb7' := bstep (balloc hb6' (.cells #[.slice A l.length c] 24)) hb7
        go_wp2_with fail
        go_ret
        exact ⟨rfl, hb7'⟩
end Go.Proofs.Ytandbancbgojjaa

