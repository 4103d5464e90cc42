/- Digests: the known one, walked. -/
import Derived.Test.YtjbelkpmbbkhgaaShY
import Derived.Test.YtjbelkpmbbkhgaaShE
import Derived.Test.YtjbelkpmbbkhgaaShK
namespace Go.Proofs.Ytjbelkpmbbkhgaa
open Go.RowKit Go.Proofs.Ytjbelkpmbbkhgaa.Sh

def abcT : List UInt8 := [98, 97, 55, 56, 49, 54, 98, 102, 56, 102, 48, 49, 99, 102, 101, 97, 52, 49, 52, 49, 52, 48, 100, 101, 53, 100, 97, 101, 50, 50, 50, 51, 98, 48, 48, 51, 54, 49, 97, 51, 57, 54, 49, 55, 55, 97, 57, 99, 98, 52, 49, 48, 102, 102, 54, 49, 102, 50, 48, 48, 49, 53, 97, 100]
set_option maxRecDepth 100000 in
theorem sum_abc2 : (new0.write [97, 98, 99]).sum = abcD := by kernel_rfl
set_option maxRecDepth 100000 in
theorem text_abc : text abcD = abcT := by kernel_rfl
set_option maxRecDepth 100000 in
theorem parse_abc : parse abcT = (abcD, true) := by kernel_rfl
set_option maxRecDepth 100000 in
theorem less_abc : ltB abcD (sumS []) = true := by kernel_rfl
theorem ex_eqs {o : Oper} {a : Act} {w : World} {x y : Operand} (ho : o.op = .binOp .eql 9 x y 9) {l : List UInt8} (hx : a.eval x = str l) (hy : a.eval y = str l) : (execOp a.eval o).run Try.prog w = .ok (.value (.bool true)) w := by
  unfold str at hx hy
  generalize (ByteArray.mk l.toArray) = s at *
  have h : (binOp .eql 9 (.string s) (.string s)).run Try.prog w = .ok (.bool true) w := by
    go_simp
  simp only [execOp, ho, hx, hy, Sem.run_bind, eqGuard_at_string, Sem.run_pure, h, Result.andThen_ok]
def KnS (gx gy gh : Nat) (D : List UInt8) (sh : Hs) (w W : World) : Prop := At W gx (bv D) ∧ At W gy (bv D) ∧ HStands W gh (gh + 1) sh ∧ Below w.heap.size w W
theorem KnS.below {gx gy gh : Nat} {D : List UInt8} {sh : Hs} {w W W' : World} (h : KnS gx gy gh D sh w W) (hb : Below W.heap.size W W') : KnS gx gy gh D sh w W' := ⟨h.1.below hb, h.2.1.below hb, h.2.2.1.below hb, h.2.2.2.trans (hb.mono h.2.2.2.size)⟩
set_option maxRecDepth 100000 in
set_option maxHeartbeats 1600000 in
theorem shknown_any (w : World) : Calls Try.prog 5 #[] w fun e w' => e = .returned (.bool true) ∧ Below w.heap.size w w' := by
  have kc := fun (w : World) (C : Array Value) (n c : Nat) => Lib.run_convert_bytes_const (P := Try.prog) w 26 5 C n c Try.underlying26 Try.underlying5
  have kc1 := fun (w : World) (C1 C : Array Value) (fr : Nat × Nat) (n c : Nat) => run_const_at (w.alloc (.cells C1 5 fr)) C n c (w.heap.size + 1) (by simp)
  go_enter Try.func5, Try.ntmps5
  go_wp2_with fail
  have ha := (SlcIs.mark w [97] #[.int .u8 97] 1 (1, 2) rfl rfl (by simp)).alloc (.cells #[.int .u8 98, .int .u8 99] 5 (2, 3))
  have hc := SlcIs.mark (w.alloc (.cells #[.int .u8 97] 5 (1, 2))) [98, 99] #[.int .u8 98, .int .u8 99] 2 (2, 3) rfl rfl (by simp)
  have hM := Mat.two _ 26 _ _ _ _ ha hc
  have hsum := ShaSum_any _ _ 2 2 [[97], [98, 99]] hM rfl (by simp) (by simp)
  rw [sum_abc] at hsum
  simp only [World.size_alloc] at hsum
  refine hsum.mono ?_
  clear hsum hM ha hc
  rintro e w2 ⟨rfl, hb2⟩
  have hb2' : Below w.heap.size w w2 := (balloc (balloc (balloc (Below.refl _ _) _) _) _).trans (hb2.mono (by omega))
  clear hb2
  have h32 : (bv abcD).length = 32 := rfl
  generalize hD : abcD = D at *
  have HD := Lib.hid hD
  have H32 := Lib.hid h32
  clear hD h32
  have hX0 := At.new w2 23 (bv z32).toArray
  have hb3 := balloc hb2' (.cells (bv z32).toArray 23)
  have hX1 := hX0.putL (bv D) (by rw [H32.out]; rfl)
  have hb4 := below_putL (bv D) 0 hb3 hb2'.size
  have HX := Lib.hid hX0
  clear hX0 hb3
  go_wp2_with (first
    | (refine opVal rfl (ex_al32 rfl) ?_)
    | (refine opSkip rfl (ex_st32 rfl rfl rfl HX.out rfl H32.out (bv_one _)) ?_))
  clear HX
  generalize putL _ w2.heap.size 0 (bv D) = w3 at *
  generalize hgx : w2.heap.size = gx at *
  have hbs := hb2'.size
  rw [hgx] at hbs
  clear hb2' hgx
  refine (New_any w3).mono ?_
  rintro e w4 ⟨rfl, hH, hb5⟩
  have hX := hX1.below hb5
  have hb6 := hb4.trans (hb5.mono hb4.size)
  have hgh := hb4.size
  have hxh : gx < w3.heap.size := hX1.1
  generalize w3.heap.size = gh at *
  clear hX1 hb5 hb4
  go_wp2_with fail
  obtain ⟨l, hl⟩ : ∃ l : List UInt8, l = [97, 98, 99] := ⟨_, rfl⟩
  have hS5 : Sl (w4.alloc (.cells #[.int .u8 97, .int .u8 98, .int .u8 99] 5 (3, 4))) (w4.heap.size + 1) (some ⟨w4.heap.size, 0, none⟩) (bv l) := by rw [hl]; exact Sl.new w4 5 #[.int .u8 97, .int .u8 98, .int .u8 99] (3, 4)
  have hb5 : Below w4.heap.size w4 (w4.alloc (.cells #[.int .u8 97, .int .u8 98, .int .u8 99] 5 (3, 4))) := balloc (Below.refl _ _) _
  have hb7 := hb6.trans (hb5.mono hb6.size)
  have hX7 := hX.below hb5
  have hg4 : gh < w4.heap.size := by have := hH.1; have := hH.2.1; omega
  refine (Write_any _ gh (gh + 1) new0 (hH.below hb5) new0_ok (some ⟨w4.heap.size, 0, none⟩) 3 3 l (hS5.more (by simp)) (fun a e _ h => by cases e; simp only at h; omega) (by rw [hl]; rfl) (by omega)).mono ?_
  rintro e w5 ⟨rfl, hH5, hg5⟩
  have hX5 := hX7.grown hg5 (by intro e; injection e with e; omega)
  have hb8 := hb7.trans (below_of_grown hg5 (fun b e => by injection e with e; omega) hb7.size)
  have hok := Hs.write_ok new0_ok l
  have hsum : (new0.write l).sum = D := by rw [hl, ← HD.out]; exact sum_abc2
  clear hS5 hb5 hb7 hX7 hg5 hl hX hH hb6
  generalize new0.write l = sh at *
  have HH := Lib.hid (And.intro hsum hok)
  clear hsum hok
  have hTP : parse (text D) = (D, true) := by rw [← HD.out, text_abc]; exact parse_abc
  have HTP := Lib.hid hTP
  clear hTP
  go_wp2_with (refine opVal rfl (ex_ld32 rfl rfl hX5 H32.out) ?_)
  refine (Text_any w5 D (by have := H32.out; rwa [bv_len] at this)).mono ?_
  rintro e w6 ⟨rfl, hb9⟩
  have hX6 := hX5.below hb9
  have hH6 := hH5.below hb9
  have hb10 := hb8.trans (hb9.mono hb8.size)
  clear hX5 hH5 hb8 hb9
  go_wp2_with fail
  have hpar := Parse_any w6 (text D)
  rw [HTP.out] at hpar
  refine hpar.mono ?_
  clear hpar
  rintro e w7 ⟨rfl, hb9⟩
  have hX7 := hX6.below hb9
  have hH7 := hH6.below hb9
  have hb11 := hb10.trans (hb9.mono hb10.size)
  clear hX6 hH6 hb10 hb9
  have hY0 := At.new w7 23 (bv z32).toArray
  have hY1 := hY0.putL (bv D) (by rw [H32.out]; rfl)
  have hX8 := (hX7.alloc (.cells (bv z32).toArray 23)).putL_other (bv D) 0 (g' := w7.heap.size) _ (by have := hX7.1; omega)
  have hb12 := below_putL (bv D) 0 (balloc hb11 (.cells (bv z32).toArray 23)) hb11.size
  have hH8 := hH7.below (below_putL (bv D) 0 (balloc (Below.refl w7.heap.size w7) (.cells (bv z32).toArray 23)) (Nat.le_refl _))
  have HX := Lib.hid hY0
  clear hY0 hX7 hb11 hH7
  go_wp2_with (first
    | (refine opVal rfl (ex_al32 rfl) ?_)
    | (refine opSkip rfl (ex_st32 rfl rfl rfl HX.out rfl H32.out (bv_one _)) ?_))
  clear HX
  generalize putL _ w7.heap.size 0 (bv D) = w8 at *
  generalize w7.heap.size = gy at *
  have hT : text D = abcT := by rw [← HD.out]; exact text_abc
  have hL : ltB D (sumS []) = true := by rw [← HD.out]; exact less_abc
  have hDl : D.length = 32 := by have := H32.out; rwa [bv_len] at this
  have hYb : gy < w8.heap.size := hY1.1
  have hkb : KnS gx gy gh D sh w w8.drew := ⟨hX8, hY1, hH8, hb12.drew⟩
  have HT := Lib.hid (And.intro hT (And.intro hL hDl))
  clear hT hL hDl hX8 hY1 hH8 hb12 kc kc1
  refine bstartS (KnS gx gy gh D sh w) (by kernel_rfl) ?_
  refine btakeS 0 (oi := _) (v := ?_) (by simp only [List.getElem?_toArray, List.getElem?_cons_zero]; rfl) (by kernel_rfl) (by exact fun _ _ _ h => h) (by first | assumption | exact KB.refl _) (.inl ⟨by rfl, fun W hW => ?_⟩) ?_; rotate_left
  · refine Eq.trans (ex_ld32 (by rfl) (by rfl) hW.1 H32.out) ?_
    with_reducible rfl
  try simp only [Act.put, List.setIfInBounds_toArray, List.set_cons_zero, List.set_cons_succ]
  -- 1: newsreel/sha.Text
  refine bopS 1 (o := _) (by simp only [List.getElem?_toArray, List.getElem?_cons_succ, List.getElem?_cons_zero]; rfl) (by kernel_rfl) (by rfl) (fun K hK => ?_)
  go_simp
  refine (Text_any _ D HT.out.2.2).mono ?_
  rintro e w9 ⟨rfl, hb9⟩
  replace hkb := hkb.below hb9
  clear hb9
  refine hK.out _ _ hkb ?_; clear hK K
  try simp only [Act.put, List.setIfInBounds_toArray, List.set_cons_zero, List.set_cons_succ]
  refine btakeS 2 (oi := _) (v := ?_) (by simp only [List.getElem?_toArray, List.getElem?_cons_succ, List.getElem?_cons_zero]; rfl) (by kernel_rfl) (by exact fun _ _ _ h => h) (by first | assumption | exact KB.refl _) (.inl ⟨by rfl, fun W hW => ?_⟩) ?_; rotate_left
  · refine Eq.trans (ex_eqs (l := text D) (by rfl) (by rfl) (by rw [HT.out.1]; rfl)) ?_
    with_reducible rfl
  try simp only [Act.put, List.setIfInBounds_toArray, List.set_cons_zero, List.set_cons_succ]
  refine btakeS 3 (oi := _) (v := ?_) (by simp only [List.getElem?_toArray, List.getElem?_cons_succ, List.getElem?_cons_zero]; rfl) (by kernel_rfl) (by exact fun _ _ _ h => h) (by first | assumption | exact KB.refl _) (.inl ⟨by rfl, fun W hW => ?_⟩) ?_; rotate_left
  · (go_simp; first | done | with_reducible rfl)
  try simp only [Act.put, List.setIfInBounds_toArray, List.set_cons_zero, List.set_cons_succ]
  refine btakeS 4 (oi := _) (v := ?_) (by simp only [List.getElem?_toArray, List.getElem?_cons_succ, List.getElem?_cons_zero]; rfl) (by kernel_rfl) (by exact fun _ _ _ h => h) (by first | assumption | exact KB.refl _) (.inl ⟨by rfl, fun W hW => ?_⟩) ?_; rotate_left
  · (go_simp; first | done | with_reducible rfl)
  try simp only [Act.put, List.setIfInBounds_toArray, List.set_cons_zero, List.set_cons_succ]
  refine btakeS 6 (oi := _) (v := ?_) (by simp only [List.getElem?_toArray, List.getElem?_cons_succ, List.getElem?_cons_zero]; rfl) (by kernel_rfl) (by exact fun _ _ _ h => h) (by first | assumption | exact KB.refl _) (.inl ⟨by rfl, fun W hW => ?_⟩) ?_; rotate_left
  · refine Eq.trans (ex_ld32 (by rfl) (by rfl) hW.1 H32.out) ?_
    with_reducible rfl
  try simp only [Act.put, List.setIfInBounds_toArray, List.set_cons_zero, List.set_cons_succ]
  -- 5: (*newsreel/sha.Hash).Sum
  refine bopS 5 (o := _) (by simp only [List.getElem?_toArray, List.getElem?_cons_succ, List.getElem?_cons_zero]; rfl) (by kernel_rfl) (by rfl) (fun K hK => ?_)
  go_simp
  refine (HSum_any _ gh (gh + 1) sh hkb.2.2.1 HH.out.2).mono ?_
  rintro e w10 ⟨rfl, hb9⟩
  rw [HH.out.1]
  replace hkb := hkb.below hb9
  clear hb9
  refine hK.out _ _ hkb ?_; clear hK K
  try simp only [Act.put, List.setIfInBounds_toArray, List.set_cons_zero, List.set_cons_succ]
  refine btakeS 7 (oi := _) (v := ?_) (by simp only [List.getElem?_toArray, List.getElem?_cons_succ, List.getElem?_cons_zero]; rfl) (by kernel_rfl) (by exact fun _ _ _ h => h) (by first | assumption | exact KB.refl _) (.inl ⟨by rfl, fun W hW => ?_⟩) ?_; rotate_left
  · refine Eq.trans (ex_eq32t (by rfl) (by rfl) (by rfl) HT.out.2.2) ?_
    with_reducible rfl
  try simp only [Act.put, List.setIfInBounds_toArray, List.set_cons_zero, List.set_cons_succ]
  refine btakeS 8 (oi := _) (v := ?_) (by simp only [List.getElem?_toArray, List.getElem?_cons_succ, List.getElem?_cons_zero]; rfl) (by kernel_rfl) (by exact fun _ _ _ h => h) (by first | assumption | exact KB.refl _) (.inl ⟨by rfl, fun W hW => ?_⟩) ?_; rotate_left
  · (go_simp; first | done | with_reducible rfl)
  try simp only [Act.put, List.setIfInBounds_toArray, List.set_cons_zero, List.set_cons_succ]
  refine btakeS 9 (oi := _) (v := ?_) (by simp only [List.getElem?_toArray, List.getElem?_cons_succ, List.getElem?_cons_zero]; rfl) (by kernel_rfl) (by exact fun _ _ _ h => h) (by first | assumption | exact KB.refl _) (.inl ⟨by rfl, fun W hW => ?_⟩) ?_; rotate_left
  · (go_simp; first | done | with_reducible rfl)
  try simp only [Act.put, List.setIfInBounds_toArray, List.set_cons_zero, List.set_cons_succ]
  refine btakeS 10 (oi := _) (v := ?_) (by simp only [List.getElem?_toArray, List.getElem?_cons_succ, List.getElem?_cons_zero]; rfl) (by kernel_rfl) (by exact fun _ _ _ h => h) (by first | assumption | exact KB.refl _) (.inl ⟨by rfl, fun W hW => ?_⟩) ?_; rotate_left
  · (go_simp; first | done | with_reducible rfl)
  try simp only [Act.put, List.setIfInBounds_toArray, List.set_cons_zero, List.set_cons_succ]
  refine btakeS 11 (oi := _) (v := ?_) (by simp only [List.getElem?_toArray, List.getElem?_cons_succ, List.getElem?_cons_zero]; rfl) (by kernel_rfl) (by exact fun _ _ _ h => h) (by first | assumption | exact KB.refl _) (.inl ⟨by rfl, fun W hW => ?_⟩) ?_; rotate_left
  · (go_simp; first | done | with_reducible rfl)
  try simp only [Act.put, List.setIfInBounds_toArray, List.set_cons_zero, List.set_cons_succ]
  refine btakeS 12 (oi := _) (v := ?_) (by simp only [List.getElem?_toArray, List.getElem?_cons_succ, List.getElem?_cons_zero]; rfl) (by kernel_rfl) (by exact fun _ _ _ h => h) (by first | assumption | exact KB.refl _) (.inl ⟨by rfl, fun W hW => ?_⟩) ?_; rotate_left
  · (go_simp; first | done | with_reducible rfl)
  try simp only [Act.put, List.setIfInBounds_toArray, List.set_cons_zero, List.set_cons_succ]
  refine btakeS 13 (oi := _) (v := ?_) (by simp only [List.getElem?_toArray, List.getElem?_cons_succ, List.getElem?_cons_zero]; rfl) (by kernel_rfl) (by exact fun _ _ _ h => h) (by first | assumption | exact KB.refl _) (.inl ⟨by rfl, fun W hW => ?_⟩) ?_; rotate_left
  · refine Eq.trans (ex_ld32 (by rfl) (by rfl) hW.2.1 H32.out) ?_
    with_reducible rfl
  try simp only [Act.put, List.setIfInBounds_toArray, List.set_cons_zero, List.set_cons_succ]
  refine btakeS 14 (oi := _) (v := ?_) (by simp only [List.getElem?_toArray, List.getElem?_cons_succ, List.getElem?_cons_zero]; rfl) (by kernel_rfl) (by exact fun _ _ _ h => h) (by first | assumption | exact KB.refl _) (.inl ⟨by rfl, fun W hW => ?_⟩) ?_; rotate_left
  · refine Eq.trans (ex_ld32 (by rfl) (by rfl) hW.1 H32.out) ?_
    with_reducible rfl
  try simp only [Act.put, List.setIfInBounds_toArray, List.set_cons_zero, List.set_cons_succ]
  refine btakeS 15 (oi := _) (v := ?_) (by simp only [List.getElem?_toArray, List.getElem?_cons_succ, List.getElem?_cons_zero]; rfl) (by kernel_rfl) (by exact fun _ _ _ h => h) (by first | assumption | exact KB.refl _) (.inl ⟨by rfl, fun W hW => ?_⟩) ?_; rotate_left
  · refine Eq.trans (ex_eq32t (by rfl) (by rfl) (by rfl) HT.out.2.2) ?_
    with_reducible rfl
  try simp only [Act.put, List.setIfInBounds_toArray, List.set_cons_zero, List.set_cons_succ]
  refine btakeS 16 (oi := _) (v := ?_) (by simp only [List.getElem?_toArray, List.getElem?_cons_succ, List.getElem?_cons_zero]; rfl) (by kernel_rfl) (by exact fun _ _ _ h => h) (by first | assumption | exact KB.refl _) (.inl ⟨by rfl, fun W hW => ?_⟩) ?_; rotate_left
  · (go_simp; first | done | with_reducible rfl)
  try simp only [Act.put, List.setIfInBounds_toArray, List.set_cons_zero, List.set_cons_succ]
  refine btakeS 17 (oi := _) (v := ?_) (by simp only [List.getElem?_toArray, List.getElem?_cons_succ, List.getElem?_cons_zero]; rfl) (by kernel_rfl) (by exact fun _ _ _ h => h) (by first | assumption | exact KB.refl _) (.inl ⟨by rfl, fun W hW => ?_⟩) ?_; rotate_left
  · (go_simp; first | done | with_reducible rfl)
  try simp only [Act.put, List.setIfInBounds_toArray, List.set_cons_zero, List.set_cons_succ]
  refine btakeS 18 (oi := _) (v := ?_) (by simp only [List.getElem?_toArray, List.getElem?_cons_succ, List.getElem?_cons_zero]; rfl) (by kernel_rfl) (by exact fun _ _ _ h => h) (by first | assumption | exact KB.refl _) (.inl ⟨by rfl, fun W hW => ?_⟩) ?_; rotate_left
  · refine Eq.trans (ex_ld32 (by rfl) (by rfl) hW.1 H32.out) ?_
    with_reducible rfl
  try simp only [Act.put, List.setIfInBounds_toArray, List.set_cons_zero, List.set_cons_succ]
  -- 19: newsreel/sha.Sum
  refine bopS 19 (o := _) (by simp only [List.getElem?_toArray, List.getElem?_cons_succ, List.getElem?_cons_zero]; rfl) (by kernel_rfl) (by rfl) (fun K hK => ?_)
  go_simp
  refine (ShaSum_any _ none 0 0 [] (Mat.nil _ _) rfl (by omega) (by simp)).mono ?_
  rintro e w11 ⟨rfl, hb9⟩
  replace hkb := hkb.below hb9
  clear hb9
  refine hK.out _ _ hkb ?_; clear hK K
  try simp only [Act.put, List.setIfInBounds_toArray, List.set_cons_zero, List.set_cons_succ]
  -- 20: newsreel/sha.Less
  refine bopS 20 (o := _) (by simp only [List.getElem?_toArray, List.getElem?_cons_succ, List.getElem?_cons_zero]; rfl) (by kernel_rfl) (by rfl) (fun K hK => ?_)
  go_simp
  refine (Less_any _ D (sumS []) HT.out.2.2 (sum_len _)).mono ?_
  rintro e w12 ⟨rfl, hb9⟩
  rw [HT.out.2.1]
  replace hkb := hkb.below hb9
  clear hb9
  refine hK.out _ _ hkb ?_; clear hK K
  try simp only [Act.put, List.setIfInBounds_toArray, List.set_cons_zero, List.set_cons_succ]
  refine btakeS 21 (oi := _) (v := ?_) (by simp only [List.getElem?_toArray, List.getElem?_cons_succ, List.getElem?_cons_zero]; rfl) (by kernel_rfl) (by exact fun _ _ _ h => h) (by first | assumption | exact KB.refl _) (.inl ⟨by rfl, fun W hW => ?_⟩) ?_; rotate_left
  · (go_simp; first | done | with_reducible rfl)
  try simp only [Act.put, List.setIfInBounds_toArray, List.set_cons_zero, List.set_cons_succ]
  refine btakeS 22 (oi := _) (v := ?_) (by simp only [List.getElem?_toArray, List.getElem?_cons_succ, List.getElem?_cons_zero]; rfl) (by kernel_rfl) (by exact fun _ _ _ h => h) (by first | assumption | exact KB.refl _) (.inl ⟨by rfl, fun W hW => ?_⟩) ?_; rotate_left
  · (go_simp; first | done | with_reducible rfl)
  try simp only [Act.put, List.setIfInBounds_toArray, List.set_cons_zero]
  refine bdoneS (by kernel_rfl) ?_
  go_wp2_with fail
  go_ret
  exact ⟨rfl, hkb.2.2.2⟩
end Go.Proofs.Ytjbelkpmbbkhgaa

