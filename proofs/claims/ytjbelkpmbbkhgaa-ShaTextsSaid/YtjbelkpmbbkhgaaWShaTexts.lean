/- ShaTexts, walked. -/
import Derived.Test.YtjbelkpmbbkhgaaShC
import Derived.Test.YtjbelkpmbbkhgaaShO
namespace Go.Proofs.Ytjbelkpmbbkhgaa
open Go.RowKit Go.Proofs.Ytjbelkpmbbkhgaa.Sh

set_option maxRecDepth 100000 in
set_option maxHeartbeats 6400000 in
theorem ShaTexts_walk (w : World) (l : List UInt8) (hl : l.length = 32) (s : List UInt8) (hs : s.length ≤ 140737488351232) (at0 : Nat) (hat : at0 < 256) (by0 : Nat) (hby : by0 < 256) :
    Calls Try.prog 3 #[.agg (bv l).toArray, .string ⟨s.toArray⟩, .int .u8 (at0 : Int), .int .u8 (by0 : Int)] w fun e w' => e = .returned (.bool true) ∧ Below w.heap.size w w' := by
  have hA := At.new w 23 (bv l).toArray
  have hb1 := balloc (Below.refl w.heap.size w) (.cells (bv l).toArray 23)
  have hb32 : (bv l).length = 32 := by rw [bv_len, hl]
  have HL := Lib.hid (And.intro hl (And.intro hb32 hs))
  change Calls _ _ #[.agg (bv l).toArray, str s, .int .u8 (at0 : Int), .int .u8 (by0 : Int)] _ _
  clear hl hb32 hs
  go_enter Try.func3, Try.ntmps3
  replace hA : At (w.alloc (.cells (bv l).toArray 23)) w.heap.size (bv l) := hA
  go_wp2_with (refine opVal rfl (ex_box32 rfl rfl) ?_)
  generalize w.alloc (.cells (bv l).toArray 23) = w1 at hA hb1 ⊢
  refine (shknown_any w1).mono ?_
  rintro e w2 ⟨rfl, hb2⟩
  have hA2 := hA.below hb2
  have hb2' := hb1.trans (hb2.mono hb1.size)
  clear hA hb1 hb2
  go_wp2_with (refine opVal rfl (ex_ld32 rfl rfl hA2 HL.out.2.1) ?_)
  refine (Text_any w2 l HL.out.1).mono ?_
  rintro e w3 ⟨rfl, hb3⟩
  have hA3 := hA2.below hb3
  have hb3' := hb2'.trans (hb3.mono hb2'.size)
  clear hA2 hb3 hb2'
  go_wp2_with (refine opVal rfl (ex_ld32 rfl rfl hA3 HL.out.2.1) ?_)
  refine (IdText_any w3 l HL.out.1).mono ?_
  rintro e w4 ⟨rfl, hb4⟩
  have hb4' := hb3'.trans (hb4.mono hb3'.size)
  have htl : (text l).length = 64 := by rw [text_len, HL.out.1]
  generalize text l = T at *
  clear hA3 hb4 hb3'
  have hlen := fun w => len_str w T 64 htl
  rw [show (((64 : Nat)) : Int) = (64 : Int) from rfl] at hlen
  obtain ⟨c5, w5, hcv, hC5, hb5, hc5⟩ := str_bytes w4 T
  rw [htl] at hcv hc5
  have hb5' := hb4'.trans (hb5.mono hb4'.size)
  obtain ⟨a, ha⟩ : ∃ a, a = at0 % 64 := ⟨_, rfl⟩
  have ha64 : a < 64 := by omega
  have qa : (at0 : Int) % 64 = (a : Int) := by omega
  have qt : (at0 : Int).tmod 64 = (a : Int) := by rw [Int.tmod_eq_emod_of_nonneg (by omega)]; exact qa
  have hg4 : w.heap.size ≤ w4.heap.size := hb4'.size
  have hst := hC5.set a (.int .u8 (by0 : Int)) (by rw [bv_len, htl]; exact ha64)
  rw [bv_set _ _ _ hby] at hst
  have e5 := hC5.c a (bv_get T a (by omega))
  have f5 := hC5.f a (bv_get T a (by omega))
  have hb6 := hb5'.setCell (p := ⟨w4.heap.size, a, none⟩) hg4 (.int .u8 (by0 : Int))
  have HT := Lib.hid htl
  have HCV := Lib.hid hcv
  clear hcv htl hC5 ha
  generalize hgc : w4.heap.size = gc at *
  go_wp2_with (first
    | (refine opVal rfl (ex_nes rfl rfl rfl) ?_)
    | (refine opVal rfl (ex_conv rfl rfl HCV.out) ?_))
  have hCl : (T.set a (UInt8.ofNat by0)).length = 64 := by rw [List.length_set, HT.out]
  generalize T.set a (UInt8.ofNat by0) = C at *
  generalize w5.setCell ⟨gc, a, none⟩ (.int .u8 (by0 : Int)) = w6 at *
  have hkb : TxS gc C w w6.drew := ⟨hst, hb6.drew⟩
  have HC := Lib.hid hCl
  have hgb : w.heap.size ≤ w6.heap.size := hb6.size
  clear hst hb6 hCl HCV hb5 hb5' hb4' e5 f5
  refine bstartS (TxS gc C w) (by kernel_rfl) ?_
  refine btakeS 0 (oi := _) (v := ?_) (by simp only [List.getElem?_toArray, List.getElem?_cons_zero]; rfl) (by kernel_rfl) (by exact fun _ _ _ h => h) (by first | assumption | exact KB.refl _) (.inl ⟨by rfl, fun W hW => ?_⟩) ?_; rotate_left
  · (go_simp; first | done | with_reducible rfl)
  try simp only [Act.put, List.setIfInBounds_toArray, List.set_cons_zero, List.set_cons_succ]
  refine btakeS 1 (oi := _) (v := ?_) (by simp only [List.getElem?_toArray, List.getElem?_cons_succ, List.getElem?_cons_zero]; rfl) (by kernel_rfl) (by exact fun _ _ _ h => h) (by first | assumption | exact KB.refl _) (.inl ⟨by rfl, fun W hW => ?_⟩) ?_; rotate_left
  · (go_simp; first | done | with_reducible rfl)
  try simp only [Act.put, List.setIfInBounds_toArray, List.set_cons_zero, List.set_cons_succ]
  refine btakeS 2 (oi := _) (v := ?_) (by simp only [List.getElem?_toArray, List.getElem?_cons_succ, List.getElem?_cons_zero]; rfl) (by kernel_rfl) (by exact fun _ _ _ h => h) (by first | assumption | exact KB.refl _) (.inl ⟨by rfl, fun W hW => ?_⟩) ?_; rotate_left
  · (go_simp; first | done | with_reducible rfl)
  try simp only [Act.put, List.setIfInBounds_toArray, List.set_cons_zero, List.set_cons_succ]
  refine btakeS 3 (oi := _) (v := ?_) (by simp only [List.getElem?_toArray, List.getElem?_cons_succ, List.getElem?_cons_zero]; rfl) (by kernel_rfl) (by exact fun _ _ _ h => h) (by first | assumption | exact KB.refl _) (.inl ⟨by rfl, fun W hW => ?_⟩) ?_; rotate_left
  · (go_simp; first | done | with_reducible rfl)
  try simp only [Act.put, List.setIfInBounds_toArray, List.set_cons_zero, List.set_cons_succ]
  refine btakeS 4 (oi := _) (v := ?_) (by simp only [List.getElem?_toArray, List.getElem?_cons_succ, List.getElem?_cons_zero]; rfl) (by kernel_rfl) (by exact fun _ _ _ h => h) (by first | assumption | exact KB.refl _) (.inl ⟨by rfl, fun W hW => ?_⟩) ?_; rotate_left
  · (go_simp; first | done | with_reducible rfl)
  try simp only [Act.put, List.setIfInBounds_toArray, List.set_cons_zero, List.set_cons_succ]
  refine btakeS 5 (oi := _) (v := ?_) (by simp only [List.getElem?_toArray, List.getElem?_cons_succ, List.getElem?_cons_zero]; rfl) (by kernel_rfl) (by exact fun _ _ _ h => h) (by first | assumption | exact KB.refl _) (.inl ⟨by rfl, fun W hW => ?_⟩) ?_; rotate_left
  · refine Eq.trans (ex_take (l := T) (k := a) (by rfl) (by rfl) (by rfl) (by rw [HT.out]; omega)) ?_
    with_reducible rfl
  try simp only [Act.put, List.setIfInBounds_toArray, List.set_cons_zero, List.set_cons_succ]
  refine btakeS 6 (oi := _) (v := ?_) (by simp only [List.getElem?_toArray, List.getElem?_cons_succ, List.getElem?_cons_zero]; rfl) (by kernel_rfl) (by exact fun _ _ _ h => h) (by first | assumption | exact KB.refl _) (.inl ⟨by rfl, fun W hW => ?_⟩) ?_; rotate_left
  · (go_simp; first | done | with_reducible rfl)
  try simp only [Act.put, List.setIfInBounds_toArray, List.set_cons_zero, List.set_cons_succ]
  refine btakeS 7 (oi := _) (v := ?_) (by simp only [List.getElem?_toArray, List.getElem?_cons_succ, List.getElem?_cons_zero]; rfl) (by kernel_rfl) (by exact fun _ _ _ h => h) (by first | assumption | exact KB.refl _) (.inl ⟨by rfl, fun W hW => ?_⟩) ?_; rotate_left
  · (go_simp; first | done | with_reducible rfl)
  try simp only [Act.put, List.setIfInBounds_toArray, List.set_cons_zero, List.set_cons_succ]
  refine btakeS 8 (oi := _) (v := ?_) (by simp only [List.getElem?_toArray, List.getElem?_cons_succ, List.getElem?_cons_zero]; rfl) (by kernel_rfl) (by exact fun _ _ _ h => h) (by first | assumption | exact KB.refl _) (.inl ⟨by rfl, fun W hW => ?_⟩) ?_; rotate_left
  · refine Eq.trans (ex_adds (l := T) (l' := s) (by rfl) (by rfl) (by rfl) (by have := HL.out.2.2; rw [HT.out]; omega)) ?_
    with_reducible rfl
  try simp only [Act.put, List.setIfInBounds_toArray, List.set_cons_zero, List.set_cons_succ]
  refine btakeS 9 (oi := _) (v := ?_) (by simp only [List.getElem?_toArray, List.getElem?_cons_succ, List.getElem?_cons_zero]; rfl) (by kernel_rfl) (by exact fun _ _ _ h => h) (by first | assumption | exact KB.refl _) (.inl ⟨by rfl, fun W hW => ?_⟩) ?_; rotate_left
  · (go_simp; first | done | with_reducible rfl)
  try simp only [Act.put, List.setIfInBounds_toArray, List.set_cons_zero, List.set_cons_succ]
  refine btakeS 10 (oi := _) (v := ?_) (by simp only [List.getElem?_toArray, List.getElem?_cons_succ, List.getElem?_cons_zero]; rfl) (by kernel_rfl) (by exact fun _ _ _ h => h) (by first | assumption | exact KB.refl _) (.inl ⟨by rfl, fun W hW => ?_⟩) ?_; rotate_left
  · refine Eq.trans (ex_conv (by rfl) (by rfl) (conv hW.1.sl 64 c5 HC.out.symm)) ?_
    with_reducible rfl
  try simp only [Act.put, List.setIfInBounds_toArray, List.set_cons_zero, List.set_cons_succ]
  refine btakeS 13 (oi := _) (v := ?_) (by simp only [List.getElem?_toArray, List.getElem?_cons_succ, List.getElem?_cons_zero]; rfl) (by kernel_rfl) (by exact fun _ _ _ h => h) (by first | assumption | exact KB.refl _) (.inl ⟨by rfl, fun W hW => ?_⟩) ?_; rotate_left
  · (go_simp; first | done | with_reducible rfl)
  try simp only [Act.put, List.setIfInBounds_toArray, List.set_cons_zero, List.set_cons_succ]
  -- 11: Op.buildSlice 27 5 #[(0, Operand.tmp 37), (1, Operand.tmp 38), (2, Operand.tmp 42), (3, Operand.tmp 45), (4, Operand.tmp 47)]
  refine bopS 11 (o := _) (by simp only [List.getElem?_toArray, List.getElem?_cons_succ, List.getElem?_cons_zero]; rfl) (by kernel_rfl) (by rfl) (fun K hK => ?_)
  simp only [str]
  go_simp
  have hV := At.new w6.drew 9 #[str s, str T, str (T.take a), str (T ++ s), str C]
  have hb7 : Below w.heap.size w (w6.drew.alloc (.cells #[str s, str T, str (T.take a), str (T ++ s), str C] 9)) := balloc hkb.2 _
  replace hkb : TxS gc C w (w6.drew.alloc (.cells #[str s, str T, str (T.take a), str (T ++ s), str C] 9)) := ⟨hkb.1.alloc _, hb7⟩
  change At (w6.drew.alloc (.cells #[str s, str T, str (T.take a), str (T ++ s), str C] 9)) w6.heap.size ([s, T, T.take a, T ++ s, C].map str) at hV
  change K _ (w6.drew.alloc (.cells #[str s, str T, str (T.take a), str (T ++ s), str C] 9))
  have hSS : [s, T, T.take a, T ++ s, C].length = 5 := rfl
  generalize [s, T, T.take a, T ++ s, C] = SS at hV hSS
  generalize w6.drew.alloc _ = w7 at hV hb7 hkb ⊢
  generalize w6.heap.size = gv at hV ⊢
  refine hK.out _ _ hkb ?_; clear hK K
  try simp only [Act.put, List.setIfInBounds_toArray, List.set_cons_zero, List.set_cons_succ]
  refine btakeS 12 (oi := _) (v := ?_) (by simp only [List.getElem?_toArray, List.getElem?_cons_succ, List.getElem?_cons_zero]; rfl) (by kernel_rfl) (by exact fun _ _ _ h => h) (by first | assumption | exact KB.refl _) (.inl ⟨by rfl, fun W hW => ?_⟩) ?_; rotate_left
  · (go_simp; first | done | with_reducible rfl)
  try simp only [Act.put, List.setIfInBounds_toArray, List.set_cons_zero, List.set_cons_succ]
  refine bdoneS (by kernel_rfl) ?_
  have HSS := Lib.hid hSS
  clear hSS hkb hlen hgc hgb hg4 HT HC ha64 qa qt hc5
  go_wp2_with fail
  go_loopw [50] (fun z50 wr => ∃ k : Nat, k ≤ 5 ∧ z50 = .int .i64 (k : Int) ∧ At wr gv (SS.map str) ∧ Below w.heap.size w wr) (fun z50 _ => 5 - (intOf z50).toNat)
  case atStart => exact ⟨0, by omega, rfl, hV, hb7⟩
  case round =>
    clear hV hb7
    obtain ⟨k, hk, rfl, hV, hbel⟩ := hrel
    by_cases hlt : k < 5
    · obtain ⟨v, hv⟩ : ∃ v, SS[k]? = some v := ⟨_, List.getElem?_eq_getElem (by rw [HSS.out]; exact hlt)⟩
      have e0 := hV.c k (v := str v) (by rw [List.getElem?_map, hv]; rfl)
      have hgs := hbel.size
      clear hv
      go_wp2_with fail
      have hyl := parse_len v
      have hyt := fun h => parse_text (s := v) h
      have hPar := Parse_any wr v
      have hIdp := fun w => IdParse_any w v
      generalize (parse v).1 = y at hyl hyt hPar hIdp
      generalize (parse v).2 = ok at hyt hPar hIdp
      have HY := Lib.hid (And.intro hyl (show (bv y).length = 32 by rw [bv_len, hyl]))
      refine hPar.mono ?_
      clear hPar hyl e0
      rintro e w8 ⟨rfl, hb8⟩
      have hV8 := hV.below hb8
      have hb8' := hbel.trans (hb8.mono hgs)
      clear hV hbel hb8
      have hY0 := At.new w8 23 (bv z32).toArray
      have hY1 := hY0.putL (bv y) (by rw [HY.out.2]; rfl)
      have hV9 := (hV8.alloc (.cells (bv z32).toArray 23)).putL_other (bv y) 0 (g' := w8.heap.size) _ (by have := hV8.1; omega)
      have hb9 := below_putL (bv y) 0 (balloc hb8' (.cells (bv z32).toArray 23)) hb8'.size
      have HX := Lib.hid hY0
      clear hY0 hV8 hb8'
      go_wp2_with (first
        | (refine opVal rfl (ex_al32 rfl) ?_)
        | (refine opSkip rfl (ex_st32 rfl rfl rfl HX.out rfl HY.out.2 (bv_one _)) ?_))
      clear HX
      generalize putL _ w8.heap.size 0 (bv y) = w9 at *
      generalize w8.heap.size = gy at *
      refine (hIdp w9).mono ?_
      clear hIdp
      rintro e w10 ⟨rfl, hb10⟩
      have hV10 := hV9.below hb10
      have hY10 := hY1.below hb10
      have hb10' := hb9.trans (hb10.mono hb9.size)
      clear hV9 hb9 hY1 hb10
      have hZ0 := At.new w10 23 (bv z32).toArray
      have hZ1 := hZ0.putL (bv y) (by rw [HY.out.2]; rfl)
      have hV11 := (hV10.alloc (.cells (bv z32).toArray 23)).putL_other (bv y) 0 (g' := w10.heap.size) _ (by have := hV10.1; omega)
      have hY11 := (hY10.alloc (.cells (bv z32).toArray 23)).putL_other (bv y) 0 (g' := w10.heap.size) _ (by have := hY10.1; omega)
      have hb11 := below_putL (bv y) 0 (balloc hb10' (.cells (bv z32).toArray 23)) hb10'.size
      have HX := Lib.hid hZ0
      clear hZ0 hV10 hb10' hY10
      cases ok with
      | false =>
        clear hyt
        go_wp2_with (first
          | (refine opVal rfl (ex_al32 rfl) ?_)
          | (refine opSkip rfl (ex_st32 rfl rfl rfl HX.out rfl HY.out.2 (bv_one _)) ?_)
          | (refine opVal rfl (ex_ld32 rfl rfl hY11 HY.out.2) ?_)
          | (refine opVal rfl (ex_ld32 rfl rfl hZ1 HY.out.2) ?_)
          | (refine opVal rfl (ex_ne32f rfl rfl rfl HY.out.1) ?_))
        go_roundw
        case rel => exact ⟨k + 1, by omega, by go_num, hV11, hb11⟩
        case measure => simp [intOf] <;> omega
      | true =>
        have HYT := Lib.hid (hyt rfl)
        clear hyt
        go_wp2_with (first
          | (refine opVal rfl (ex_al32 rfl) ?_)
          | (refine opSkip rfl (ex_st32 rfl rfl rfl HX.out rfl HY.out.2 (bv_one _)) ?_)
          | (refine opVal rfl (ex_ld32 rfl rfl hY11 HY.out.2) ?_)
          | (refine opVal rfl (ex_ld32 rfl rfl hZ1 HY.out.2) ?_)
          | (refine opValG rfl (ex_ld32 rfl rfl hY11 HY.out.2) ?_)
          | (refine opVal rfl (ex_ne32f rfl rfl rfl HY.out.1) ?_))
        refine (Text_any _ y HY.out.1).mono ?_
        rintro e w12 ⟨rfl, hb12⟩
        rw [HYT.out]
        have hV12 := hV11.below hb12
        have hb13 := hb11.trans (hb12.mono hb11.size)
        clear hV11 hb11 hb12 hY11 hZ1 HX
        go_wp2_with (refine opValG rfl (ex_nes rfl rfl rfl) ?_)
        go_roundw
        case rel => exact ⟨k + 1, by omega, by go_num, hV12, hb13⟩
        case measure => simp [intOf] <;> omega
    · obtain rfl : k = 5 := by omega
      rw [show (((5 : Nat)) : Int) = (5 : Int) from rfl]
      go_wp2_with fail
      go_ret
      exact ⟨rfl, hbel⟩
end Go.Proofs.Ytjbelkpmbbkhgaa

