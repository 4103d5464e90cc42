/- 'HlcRises': the walk of the law. -/
import Derived.Test.YthpooogjlmaemaaHlcR
import Derived.Test.YthpooogjlmaemaaStampF
import Derived.Laws.BitsAllLaws
namespace Go.Proofs.Ythpooogjlmaemaa
open Go.RowKit

theorem u32_low (x m : Nat) (k : Nat) (hx : x < 4294967296) (hm : m = 2 ^ k - 1) (hk : k ≤ 8) : bits .and .u32 (x : Int) (m : Int) = ((x % 2 ^ k : Nat) : Int) := by
  have h2 : (2 : Nat) ^ k ≤ 2 ^ 8 := Nat.pow_le_pow_right (by omega) hk
  rw [u32_and_nat _ _ hx (by omega), hm, Nat.and_two_pow_sub_one_eq_mod]
set_option maxRecDepth 100000 in
set_option maxHeartbeats 12800000 in
theorem HlcRises_walk (w : World) (k : Nat) (hk : k < 256) (A : Option Addr) (c : Nat) (l : List Nat) (hb : Sl w w.heap.size A (l.map (fun (n : Nat) => Value.int .u32 (n : Int)))) (hc : l.length ≤ c) (_ : c * 4 ≤ 140737488351232) (hu : ∀ n ∈ l, n < 4294967296) :
    Calls Try.prog 10 #[.int .u8 (k : Int), .slice A l.length c] w fun e w' => e = .returned (.bool true) ∧ Below w.heap.size w w' := by
  by_cases h400 : 400 < l.length
  · have hd : decide (400 < (l.length : Int)) = true := by simp; omega
    go_enter Try.func10, Try.ntmps10
    go_wp2_with fail
    refine (hlcKnown_any w).mono ?_
    rintro e w1 ⟨rfl, hb1⟩
    go_wp2_with fail
    go_ret
    exact ⟨rfl, hb1⟩
  have h400' : l.length ≤ 400 := by omega
  have k64 : (k : Int) % 64 = ((k % 64 : Nat) : Int) := by omega
  have k64m : (k : Int).tmod 64 = ((k % 64 : Nat) : Int) := by rw [Int.tmod_eq_emod_of_nonneg (by omega)]; omega
  have k3 : (k : Int) % 3 = ((k % 3 : Nat) : Int) := by omega
  have ka : k % 64 < 64 := by omega
  have kb : k % 3 < 3 := by omega
  generalize k % 64 = R at *
  generalize k % 3 = M at *
  have hnew := fun W => New_ok W (R : Int) (M : Int) 1048576 (by omega) (by omega) (by decide)
  have hinv : RInv (R : Int) (M : Int) 0 ⟨-1, 0, 0⟩ ⟨⟨0, 0, (R : Int)⟩, (M : Int), 1048576⟩ := by
    refine ⟨rfl, rfl, rfl, ?_, ?_, ?_, ?_, ?_, ?_⟩ <;> simp only <;> omega
  go_enter Try.func10, Try.ntmps10
  go_wp2_with fail
  refine (hlcKnown_any w).mono ?_
  rintro e w1 ⟨rfl, hb1⟩
  go_wp2_with fail
  refine (hnew w1).mono ?_
  clear hnew
  rintro e w2 ⟨g, rfl, hg, hst2, hb2⟩
  have hb2' := bstep hb1 hb2
  have hgw : w.heap.size ≤ g := Nat.le_trans hb1.size hg
  clear hb2 hg
  go_wp2_with fail
  have vl := Stands.new w2 23 ⟨-1, 0, 0⟩
  have hst3 := hst2.alloc (.cells #[.int .i64 (-1), .int .i64 0, .int .i64 0] 23)
  have b3 := hb2'.alloc hb2'.size (.cells #[.int .i64 (-1), .int .i64 0, .int .i64 0] 23)
  have hgl : w2.heap.size ≠ g := by have := hst2.1.1; omega
  have hglw : w.heap.size ≤ w2.heap.size := hb2'.size
  generalize w2.alloc (.cells #[.int .i64 (-1), .int .i64 0, .int .i64 0] 23) = w3 at *
  generalize w2.heap.size = gl at *
  clear hst2 hb2'
  go_loopw [9] (fun x9 wr => ∃ i : Nat, i ≤ l.length ∧ x9 = .int .i64 (i : Int) ∧ ∃ (low : S3) (cl : Clk), Below w.heap.size w wr ∧ StandsC wr g cl ∧ Stands wr gl low ∧ RInv (R : Int) (M : Int) i low cl) (fun x9 _ => l.length - (intOf x9).toNat)
  case atStart => exact ⟨0, Nat.zero_le _, rfl, _, _, b3, hst3, vl, hinv⟩
  case round =>
    obtain ⟨i, hi, rfl, low, cl, hbel, hst, vlow, hin⟩ := hrel
    by_cases hlt : i < l.length
    · obtain ⟨b, o, rfl, hbB, hbW, hce⟩ := (hb.below hbel).at_ (k := i) (by simpa using hlt)
      have hcell := hce i (.int .u32 ((l[i]?.getD 0 : Nat) : Int)) (by rw [List.getElem?_map, List.getElem?_eq_getElem hlt]; rfl)
      have hx := hu (l[i]?.getD 0) (by rw [List.getElem?_eq_getElem hlt]; exact List.getElem_mem hlt)
      generalize l[i]?.getD 0 = x at *
      obtain ⟨nw, hnw, hnwl⟩ : ∃ nw : Nat, bits .and .u32 ((x : Int) / 4) 31 = (nw : Int) ∧ nw ≤ 31 := ⟨x / 4 % 2 ^ 5, by rw [show (x : Int) / 4 = ((x / 4 : Nat) : Int) by omega]; exact u32_low (x / 4) 31 5 (by omega) rfl (by omega), by omega⟩
      obtain ⟨L, hLv, hLl⟩ : ∃ L : Nat, bits .and .u32 ((x : Int) / 256) 3 = (L : Int) ∧ L ≤ 3 := ⟨x / 256 % 2 ^ 2, by rw [show (x : Int) / 256 = ((x / 256 : Nat) : Int) by omega]; exact u32_low (x / 256) 3 2 (by omega) rfl (by omega), by omega⟩
      obtain ⟨r, hrv, hrl⟩ : ∃ r : Nat, bits .and .u32 ((x : Int) / 1024) 63 = (r : Int) ∧ r ≤ 63 := ⟨x / 1024 % 2 ^ 6, by rw [show (x : Int) / 1024 = ((x / 1024 : Nat) : Int) by omega]; exact u32_low (x / 1024) 63 6 (by omega) rfl (by omega), by omega⟩
      obtain ⟨sw, hsw, hswl⟩ : ∃ sw : Nat, bits .and .u32 (x : Int) 3 = (sw : Int) ∧ sw ≤ 3 := ⟨x % 2 ^ 2, u32_low x 3 2 hx rfl (by omega), by omega⟩
      have hok := hin.ok (by omega) (by omega)
      have kn1 : IntKind.i64.wrap (nw : Int) = (nw : Int) := by rw [IntKind.wrap_i64]; omega
      have kn2 : IntKind.i64.wrap (L : Int) = (L : Int) := by rw [IntKind.wrap_i64]; omega
      have kn3 : IntKind.i64.wrap (r : Int) = (r : Int) := by rw [IntKind.wrap_i64]; omega
      have hcl := cellB hcell
      clear hce
      by_cases hs0 : sw = 0
      · subst hs0
        obtain ⟨hck, hri⟩ := rise_wit hin (now := (nw : Int)) (L := (L : Int)) (r := (r : Int)) (by omega) (by omega) (by omega) (by omega) (by omega) (by omega)
        have hwt := fun W h => Witness_any W g cl (nw : Int) ⟨(nw : Int), (L : Int), (r : Int)⟩ h hok
        rw [hck] at hwt
        have HW := Lib.hid (And.intro hwt hri)
        clear hwt hck hri
        go_wp2_with fail
        have hS0 : KB wr.heap wr.drew := KB.refl wr
        refine bstartH (wr.heap) (by kernel_rfl) ?_
        refine btake 0 (oi := _) (v := ?_) (by simp only [List.getElem?_toArray, List.getElem?_cons_succ, List.getElem?_cons_zero]; rfl) (by kernel_rfl) (by exact fun _ _ _ h => h) (by first | assumption | exact KB.refl _) (.inl ⟨by rfl, fun W hW => ?_⟩) ?_; rotate_left
        · (go_simp; first | done | with_reducible rfl)
        try simp only [Act.put, List.setIfInBounds_toArray, List.set_cons_zero, List.set_cons_succ]
        refine btake 1 (oi := _) (v := ?_) (by simp only [List.getElem?_toArray, List.getElem?_cons_succ, List.getElem?_cons_zero]; rfl) (by kernel_rfl) (by exact fun _ _ _ h => h) (by first | assumption | exact KB.refl _) (.inl ⟨by rfl, fun W hW => ?_⟩) ?_; rotate_left
        · (go_simp; first | done | with_reducible rfl)
        try simp only [Act.put, List.setIfInBounds_toArray, List.set_cons_zero, List.set_cons_succ]
        refine btake 2 (oi := _) (v := ?_) (by simp only [List.getElem?_toArray, List.getElem?_cons_succ, List.getElem?_cons_zero]; rfl) (by kernel_rfl) (by exact fun _ _ _ h => h) (by first | assumption | exact KB.refl _) (.inl ⟨by rfl, fun W hW => ?_⟩) ?_; rotate_left
        · (go_simp; first | done | with_reducible rfl)
        try simp only [Act.put, List.setIfInBounds_toArray, List.set_cons_zero, List.set_cons_succ]
        refine btake 3 (oi := _) (v := ?_) (by simp only [List.getElem?_toArray, List.getElem?_cons_succ, List.getElem?_cons_zero]; rfl) (by kernel_rfl) (by exact fun _ _ _ h => h) (by first | assumption | exact KB.refl _) (.inl ⟨by rfl, fun W hW => ?_⟩) ?_; rotate_left
        · (go_simp; first | done | with_reducible rfl)
        try simp only [Act.put, List.setIfInBounds_toArray, List.set_cons_zero, List.set_cons_succ]
        refine btake 4 (oi := _) (v := ?_) (by simp only [List.getElem?_toArray, List.getElem?_cons_succ, List.getElem?_cons_zero]; rfl) (by kernel_rfl) (by exact fun _ _ _ h => h) (by first | assumption | exact KB.refl _) (.inl ⟨by rfl, fun W hW => ?_⟩) ?_; rotate_left
        · (go_simp; first | done | with_reducible rfl)
        try simp only [Act.put, List.setIfInBounds_toArray, List.set_cons_zero, List.set_cons_succ]
        refine btake 5 (oi := _) (v := ?_) (by simp only [List.getElem?_toArray, List.getElem?_cons_succ, List.getElem?_cons_zero]; rfl) (by kernel_rfl) (by exact fun _ _ _ h => h) (by first | assumption | exact KB.refl _) (.inl ⟨by rfl, fun W hW => ?_⟩) ?_; rotate_left
        · (go_simp; first | done | with_reducible rfl)
        try simp only [Act.put, List.setIfInBounds_toArray, List.set_cons_zero, List.set_cons_succ]
        refine btake 6 (oi := _) (v := ?_) (by simp only [List.getElem?_toArray, List.getElem?_cons_succ, List.getElem?_cons_zero]; rfl) (by kernel_rfl) (by exact fun _ _ _ h => h) (by first | assumption | exact KB.refl _) (.inl ⟨by rfl, fun W hW => ?_⟩) ?_; rotate_left
        · (go_simp; first | done | with_reducible rfl)
        try simp only [Act.put, List.setIfInBounds_toArray, List.set_cons_zero, List.set_cons_succ]
        refine btake 7 (oi := _) (v := ?_) (by simp only [List.getElem?_toArray, List.getElem?_cons_succ, List.getElem?_cons_zero]; rfl) (by kernel_rfl) (by exact fun _ _ _ h => h) (by first | assumption | exact KB.refl _) (.inl ⟨by rfl, fun W hW => ?_⟩) ?_; rotate_left
        · (go_simp; first | done | with_reducible rfl)
        try simp only [Act.put, List.setIfInBounds_toArray, List.set_cons_zero, List.set_cons_succ]
        refine btake 8 (oi := _) (v := ?_) (by simp only [List.getElem?_toArray, List.getElem?_cons_succ, List.getElem?_cons_zero]; rfl) (by kernel_rfl) (by exact fun _ _ _ h => h) (by first | assumption | exact KB.refl _) (.inl ⟨by rfl, fun W hW => ?_⟩) ?_; rotate_left
        · (go_simp; first | done | with_reducible rfl)
        try simp only [Act.put, List.setIfInBounds_toArray, List.set_cons_zero, List.set_cons_succ]
        refine btake 9 (oi := _) (v := ?_) (by simp only [List.getElem?_toArray, List.getElem?_cons_succ, List.getElem?_cons_zero]; rfl) (by kernel_rfl) (by exact fun _ _ _ h => h) (by first | assumption | exact KB.refl _) (.inl ⟨by rfl, fun W hW => ?_⟩) ?_; rotate_left
        · (go_simp; first | done | with_reducible rfl)
        try simp only [Act.put, List.setIfInBounds_toArray, List.set_cons_zero, List.set_cons_succ]
        refine btake 10 (oi := _) (v := ?_) (by simp only [List.getElem?_toArray, List.getElem?_cons_succ, List.getElem?_cons_zero]; rfl) (by kernel_rfl) (by exact fun _ _ _ h => h) (by first | assumption | exact KB.refl _) (.inl ⟨by rfl, fun W hW => ?_⟩) ?_; rotate_left
        · (go_simp; first | done | with_reducible rfl)
        try simp only [Act.put, List.setIfInBounds_toArray, List.set_cons_zero, List.set_cons_succ]
        refine btake 11 (oi := _) (v := ?_) (by simp only [List.getElem?_toArray, List.getElem?_cons_succ, List.getElem?_cons_zero]; rfl) (by kernel_rfl) (by exact fun _ _ _ h => h) (by first | assumption | exact KB.refl _) (.inl ⟨by rfl, fun W hW => ?_⟩) ?_; rotate_left
        · (go_simp; first | done | with_reducible rfl)
        try simp only [Act.put, List.setIfInBounds_toArray, List.set_cons_zero, List.set_cons_succ]
        refine btake 12 (oi := _) (v := ?_) (by simp only [List.getElem?_toArray, List.getElem?_cons_succ, List.getElem?_cons_zero]; rfl) (by kernel_rfl) (by exact fun _ _ _ h => h) (by first | assumption | exact KB.refl _) (.inl ⟨by rfl, fun W hW => ?_⟩) ?_; rotate_left
        · (go_simp; first | done | with_reducible rfl)
        try simp only [Act.put, List.setIfInBounds_toArray, List.set_cons_zero, List.set_cons_succ]
        refine btake 13 (oi := _) (v := ?_) (by simp only [List.getElem?_toArray, List.getElem?_cons_succ, List.getElem?_cons_zero]; rfl) (by kernel_rfl) (by exact fun _ _ _ h => h) (by first | assumption | exact KB.refl _) (.inl ⟨by rfl, fun W hW => ?_⟩) ?_; rotate_left
        · (go_simp; first | done | with_reducible rfl)
        try simp only [Act.put, List.setIfInBounds_toArray, List.set_cons_zero, List.set_cons_succ]
        refine btake 14 (oi := _) (v := ?_) (by simp only [List.getElem?_toArray, List.getElem?_cons_succ, List.getElem?_cons_zero]; rfl) (by kernel_rfl) (by exact fun _ _ _ h => h) (by first | assumption | exact KB.refl _) (.inl ⟨by rfl, fun W hW => ?_⟩) ?_; rotate_left
        · (go_simp; first | done | with_reducible rfl)
        try simp only [Act.put, List.setIfInBounds_toArray, List.set_cons_zero, List.set_cons_succ]
        refine btake 15 (oi := _) (v := ?_) (by simp only [List.getElem?_toArray, List.getElem?_cons_succ, List.getElem?_cons_zero]; rfl) (by kernel_rfl) (by exact fun _ _ _ h => h) (by first | assumption | exact KB.refl _) (.inl ⟨by rfl, fun W hW => ?_⟩) ?_; rotate_left
        · (go_simp; first | done | with_reducible rfl)
        try simp only [Act.put, List.setIfInBounds_toArray, List.set_cons_zero, List.set_cons_succ]
        -- 16: Op.alloc 23
        refine bopH 16 (o := _) (by simp only [List.getElem?_toArray, List.getElem?_cons_succ, List.getElem?_cons_zero]; rfl) (by kernel_rfl) (by first | assumption | exact KB.refl _) (by rfl) (fun K hK => ?_)
        go_simp
        have hkb : KB wr.heap (wr.alloc (.cells #[.int .i64 0, .int .i64 0, .int .i64 0] 23)).drew := KB.alloc wr _
        refine hK.out _ _ hkb ?_; clear hK K
        try simp only [Act.put, List.setIfInBounds_toArray, List.set_cons_zero, List.set_cons_succ]
        -- 17: Op.store 23 (Operand.tmp 11) (Operand.tmp 117)
        refine bopH 17 (o := _) (by simp only [List.getElem?_toArray, List.getElem?_cons_succ, List.getElem?_cons_zero]; rfl) (by kernel_rfl) (by first | assumption | exact KB.refl _) (by rfl) (fun K hK => ?_)
        go_simp
        have hkb : KB wr.heap (wr.alloc (.cells #[.int .i64 (nw : Int), .int .i64 (L : Int), .int .i64 (r : Int)] 23)).drew := KB.alloc wr _
        refine hK.out _ _ hkb ?_; clear hK K
        try simp only [Act.put, List.setIfInBounds_toArray, List.set_cons_zero, List.set_cons_succ]
        refine bdone (by kernel_rfl) ?_
        have vs := (Stands.new wr 23 ⟨(nw : Int), (L : Int), (r : Int)⟩).below (Below.refl _ _).drew
        have vl4 := (vlow.alloc (.cells #[.int .i64 (nw : Int), .int .i64 (L : Int), .int .i64 (r : Int)] 23)).below (Below.refl _ _).drew
        have hst4 := (hst.alloc (.cells #[.int .i64 (nw : Int), .int .i64 (L : Int), .int .i64 (r : Int)] 23)).below (Below.refl _ _).drew
        have b4 := (hbel.alloc hbel.size (.cells #[.int .i64 (nw : Int), .int .i64 (L : Int), .int .i64 (r : Int)] 23)).drew
        have hgs : wr.heap.size ≠ g := by have := hst.1.1; omega
        generalize (wr.alloc (.cells #[.int .i64 (nw : Int), .int .i64 (L : Int), .int .i64 (r : Int)] 23)).drew = w4 at *
        generalize wr.heap.size = gs at *
        clear hcl hcell hkb hS0 hst vlow hbel
        obtain ⟨_, f0, f1, f2, _, _, _⟩ := id vs
        simp only at f0 f1 f2
        go_wp2_with fail
        refine (HW.out.1 w4 hst4).mono ?_
        rintro e w5 ⟨rfl, hst5, hg5⟩
        have vs5 := vs.grown hg5 hgs
        have vl5 := vl4.grown hg5 hgl
        have b5 := below_grown b4 hg5 hgw b4.size
        clear f0 f1 f2 vs hst4 vl4 b4
        obtain ⟨_, f0, f1, f2, _, _, _⟩ := id vs5
        obtain ⟨_, f3, f4, f5, _, _, _⟩ := id vl5
        simp only at f0 f1 f2
        go_wp2_with fail
        refine (RefMax_any (w5.alloc (.cells #[.int .i64 low.p, .int .i64 low.l, .int .i64 low.r, .int .i64 (nw : Int), .int .i64 (L : Int), .int .i64 63] 23)) (some ⟨w5.heap.size, 0, none⟩) 2 2 [low, ⟨(nw : Int), (L : Int), 63⟩] ((Sl.new w5 23 #[.int .i64 low.p, .int .i64 low.l, .int .i64 low.r, .int .i64 (nw : Int), .int .i64 (L : Int), .int .i64 63] (0, 0)).more (by simp)) rfl (by omega)).mono ?_
        rintro e w9 ⟨rfl, hb9⟩
        have vl9 := (vl5.alloc (.cells #[.int .i64 low.p, .int .i64 low.l, .int .i64 low.r, .int .i64 (nw : Int), .int .i64 (L : Int), .int .i64 63] 23)).below hb9
        have hst9 := (hst5.alloc (.cells #[.int .i64 low.p, .int .i64 low.l, .int .i64 low.r, .int .i64 (nw : Int), .int .i64 (L : Int), .int .i64 63] 23)).below hb9
        have b9 := (b5.alloc b5.size (.cells #[.int .i64 low.p, .int .i64 low.l, .int .i64 low.r, .int .i64 (nw : Int), .int .i64 (L : Int), .int .i64 63] 23)).trans (hb9.mono (b5.alloc b5.size (.cells #[.int .i64 low.p, .int .i64 low.l, .int .i64 low.r, .int .i64 (nw : Int), .int .i64 (L : Int), .int .i64 63] 23)).size)
        generalize mxS [low, ⟨(nw : Int), (L : Int), 63⟩] = nl at *
        have hput := vl9.put nl
        have hstp := hst9.put_other (g' := gl) nl hgl
        have bp := below_put3 b9 hglw nl
        obtain ⟨_, y0, y1, y2, y3, y4, y5⟩ := vl9
        unfold S3.v
        go_wp2_with fail
        go_roundw
        case rel => exact ⟨i + 1, hlt, by go_num, nl, _, bp, hstp, hput, HW.out.2⟩
        case measure => simp [intOf]; omega
      · by_cases hs1 : sw = 1
        · subst hs1
          have hri := rise_floor hin (by omega) (now := (nw : Int)) (by omega) (by omega)
          have HF := Lib.hid (And.intro (fun W h => Floor_any W g cl (nw : Int) h) hri)
          clear hri
          go_wp2_with fail
          refine (HF.out.1 wr hst).mono ?_
          rintro e w5 ⟨rfl, hst5, hg5⟩
          have vl5 := vlow.grown hg5 hgl
          have b5 := below_grown hbel hg5 hgw hbel.size
          clear hcl hcell hst vlow hbel
          obtain ⟨_, f3, f4, f5, _, _, _⟩ := id vl5
          go_wp2_with fail
          refine (RefMax_any (w5.alloc (.cells #[.int .i64 low.p, .int .i64 low.l, .int .i64 low.r, .int .i64 (nw : Int), .int .i64 (M : Int), .int .i64 63] 23)) (some ⟨w5.heap.size, 0, none⟩) 2 2 [low, ⟨(nw : Int), (M : Int), 63⟩] ((Sl.new w5 23 #[.int .i64 low.p, .int .i64 low.l, .int .i64 low.r, .int .i64 (nw : Int), .int .i64 (M : Int), .int .i64 63] (0, 0)).more (by simp)) rfl (by omega)).mono ?_
          rintro e w9 ⟨rfl, hb9⟩
          have vl9 := (vl5.alloc (.cells #[.int .i64 low.p, .int .i64 low.l, .int .i64 low.r, .int .i64 (nw : Int), .int .i64 (M : Int), .int .i64 63] 23)).below hb9
          have hst9 := (hst5.alloc (.cells #[.int .i64 low.p, .int .i64 low.l, .int .i64 low.r, .int .i64 (nw : Int), .int .i64 (M : Int), .int .i64 63] 23)).below hb9
          have b9 := (b5.alloc b5.size (.cells #[.int .i64 low.p, .int .i64 low.l, .int .i64 low.r, .int .i64 (nw : Int), .int .i64 (M : Int), .int .i64 63] 23)).trans (hb9.mono (b5.alloc b5.size (.cells #[.int .i64 low.p, .int .i64 low.l, .int .i64 low.r, .int .i64 (nw : Int), .int .i64 (M : Int), .int .i64 63] 23)).size)
          generalize mxS [low, ⟨(nw : Int), (M : Int), 63⟩] = nl at *
          have hput := vl9.put nl
          have hstp := hst9.put_other (g' := gl) nl hgl
          have bp := below_put3 b9 hglw nl
          obtain ⟨_, y0, y1, y2, y3, y4, y5⟩ := vl9
          unfold S3.v
          go_wp2_with fail
          go_roundw
          case rel => exact ⟨i + 1, hlt, by go_num, nl, _, bp, hstp, hput, HF.out.2⟩
          case measure => simp [intOf]; omega
        · obtain ⟨s, hpk, hnx, hls, hsp, hsr, hsl, hri⟩ := rise_next hin (by omega) (by omega) (now := (nw : Int)) (by omega) (by omega)
          obtain ⟨sp, sl, sr⟩ := s
          simp only at hsp hsr hsl
          subst hsr
          have hn := fun W h => Next_any W g cl (nw : Int) h hok
          rw [hpk, hnx] at hn
          simp only at hn
          have hle := fun W => RefLess_any W low ⟨sp, sl, (R : Int)⟩
          rw [hls] at hle
          have HN := Lib.hid (And.intro hn (And.intro hle hri))
          have kn4 : IntKind.i64.wrap (R : Int) = (R : Int) := by rw [IntKind.wrap_i64]; omega
          have q0 : ((sw : Int) == 0) = false := by simp; omega
          have q1 : ((sw : Int) == 1) = false := by simp; omega
          have q2 : decide (sp < (nw : Int)) = false := by rw [decide_eq_false_iff_not]; omega
          have q4 : decide ((M : Int) < sl) = false := by rw [decide_eq_false_iff_not]; omega
          clear hn hle hri hpk hnx hls
          go_wp2_with fail
          refine (HN.out.1 wr hst).mono ?_
          rintro e w5 ⟨rfl, hst5, hg5⟩
          have vl5 := vlow.grown hg5 hgl
          have b5 := below_grown hbel hg5 hgw hbel.size
          have vs := Stands.new w5 23 ⟨sp, sl, (R : Int)⟩
          replace vl5 := vl5.alloc (.cells #[.int .i64 sp, .int .i64 sl, .int .i64 (R : Int)] 23)
          replace hst5 := hst5.alloc (.cells #[.int .i64 sp, .int .i64 sl, .int .i64 (R : Int)] 23)
          replace b5 := b5.alloc b5.size (.cells #[.int .i64 sp, .int .i64 sl, .int .i64 (R : Int)] 23)
          clear hcl hcell hst vlow hbel
          unfold S3.v
          go_wp2_with fail
          generalize w5.alloc (.cells #[.int .i64 sp, .int .i64 sl, .int .i64 (R : Int)] 23) = w6 at *
          generalize w5.heap.size = gs at *
          have e0 := cellB vl5.2.1
          have e1 := cellB vl5.2.2.1
          have e2 := cellB vl5.2.2.2.1
          have e3 := cellB vs.2.1
          have e4 := cellB vs.2.2.1
          have e5 := cellB vs.2.2.2.1
          simp only at e3 e4 e5
          have hS0 : KB w6.heap w6.drew := KB.refl w6
          refine bstartH (w6.heap) (by kernel_rfl) ?_
          refine btake 0 (oi := _) (v := ?_) (by simp only [List.getElem?_toArray, List.getElem?_cons_succ, List.getElem?_cons_zero]; rfl) (by kernel_rfl) (by exact fun _ _ _ h => h) (by first | assumption | exact KB.refl _) (.inl ⟨by rfl, fun W hW => ?_⟩) ?_; rotate_left
          · (go_simp; first | done | with_reducible rfl)
          try simp only [Act.put, List.setIfInBounds_toArray, List.set_cons_zero, List.set_cons_succ]
          refine btake 1 (oi := _) (v := ?_) (by simp only [List.getElem?_toArray, List.getElem?_cons_succ, List.getElem?_cons_zero]; rfl) (by kernel_rfl) (by exact fun _ _ _ h => h) (by first | assumption | exact KB.refl _) (.inl ⟨by rfl, fun W hW => ?_⟩) ?_; rotate_left
          · (go_simp; first | done | with_reducible rfl)
          try simp only [Act.put, List.setIfInBounds_toArray, List.set_cons_zero, List.set_cons_succ]
          refine btake 2 (oi := _) (v := ?_) (by simp only [List.getElem?_toArray, List.getElem?_cons_succ, List.getElem?_cons_zero]; rfl) (by kernel_rfl) (by exact fun _ _ _ h => h) (by first | assumption | exact KB.refl _) (.inl ⟨by rfl, fun W hW => ?_⟩) ?_; rotate_left
          · (go_simp; first | done | with_reducible rfl)
          try simp only [Act.put, List.setIfInBounds_toArray, List.set_cons_zero, List.set_cons_succ]
          refine btake 3 (oi := _) (v := ?_) (by simp only [List.getElem?_toArray, List.getElem?_cons_succ, List.getElem?_cons_zero]; rfl) (by kernel_rfl) (by exact fun _ _ _ h => h) (by first | assumption | exact KB.refl _) (.inl ⟨by rfl, fun W hW => ?_⟩) ?_; rotate_left
          · (go_simp; first | done | with_reducible rfl)
          try simp only [Act.put, List.setIfInBounds_toArray, List.set_cons_zero, List.set_cons_succ]
          refine btake 4 (oi := _) (v := ?_) (by simp only [List.getElem?_toArray, List.getElem?_cons_succ, List.getElem?_cons_zero]; rfl) (by kernel_rfl) (by exact fun _ _ _ h => h) (by first | assumption | exact KB.refl _) (.inl ⟨by rfl, fun W hW => ?_⟩) ?_; rotate_left
          · (go_simp; first | done | with_reducible rfl)
          try simp only [Act.put, List.setIfInBounds_toArray, List.set_cons_zero, List.set_cons_succ]
          -- 5: newsreel/newsreelref1.StampLess
          refine bopH 5 (o := _) (by simp only [List.getElem?_toArray, List.getElem?_cons_succ, List.getElem?_cons_zero]; rfl) (by kernel_rfl) (by first | assumption | exact KB.refl _) (by rfl) (fun K hK => ?_)
          go_simp
          refine (HN.out.2.1 _).mono ?_
          rintro e w7 ⟨rfl, hb7⟩
          have hB7 : Below w6.heap.size w6 w7 := (Below.refl _ w6).drew.trans hb7
          have hkb := KB.of hB7
          refine hK.out _ _ hkb ?_; clear hK K
          try simp only [Act.put, List.setIfInBounds_toArray, List.set_cons_zero, List.set_cons_succ]
          refine btake 6 (oi := _) (v := ?_) (by simp only [List.getElem?_toArray, List.getElem?_cons_succ, List.getElem?_cons_zero]; rfl) (by kernel_rfl) (by exact fun _ _ _ h => h) (by first | assumption | exact KB.refl _) (.inl ⟨by rfl, fun W hW => ?_⟩) ?_; rotate_left
          · (go_simp; first | done | with_reducible rfl)
          try simp only [Act.put, List.setIfInBounds_toArray, List.set_cons_zero, List.set_cons_succ]
          refine btake 7 (oi := _) (v := ?_) (by simp only [List.getElem?_toArray, List.getElem?_cons_succ, List.getElem?_cons_zero]; rfl) (by kernel_rfl) (by exact fun _ _ _ h => h) (by first | assumption | exact KB.refl _) (.inl ⟨by rfl, fun W hW => ?_⟩) ?_; rotate_left
          · (go_simp; first | done | with_reducible rfl)
          try simp only [Act.put, List.setIfInBounds_toArray, List.set_cons_zero, List.set_cons_succ]
          refine btake 8 (oi := _) (v := ?_) (by simp only [List.getElem?_toArray, List.getElem?_cons_succ, List.getElem?_cons_zero]; rfl) (by kernel_rfl) (by exact fun _ _ _ h => h) (by first | assumption | exact KB.refl _) (.inl ⟨by rfl, fun W hW => ?_⟩) ?_; rotate_left
          · (go_simp; first | done | with_reducible rfl)
          try simp only [Act.put, List.setIfInBounds_toArray, List.set_cons_zero, List.set_cons_succ]
          refine btake 9 (oi := _) (v := ?_) (by simp only [List.getElem?_toArray, List.getElem?_cons_succ, List.getElem?_cons_zero]; rfl) (by kernel_rfl) (by exact fun _ _ _ h => h) (by first | assumption | exact KB.refl _) (.inl ⟨by rfl, fun W hW => ?_⟩) ?_; rotate_left
          · (go_simp; first | done | with_reducible rfl)
          try simp only [Act.put, List.setIfInBounds_toArray, List.set_cons_zero, List.set_cons_succ]
          refine btake 10 (oi := _) (v := ?_) (by simp only [List.getElem?_toArray, List.getElem?_cons_succ, List.getElem?_cons_zero]; rfl) (by kernel_rfl) (by exact fun _ _ _ h => h) (by first | assumption | exact KB.refl _) (.inl ⟨by rfl, fun W hW => ?_⟩) ?_; rotate_left
          · (go_simp; first | done | with_reducible rfl)
          try simp only [Act.put, List.setIfInBounds_toArray, List.set_cons_zero, List.set_cons_succ]
          refine btake 11 (oi := _) (v := ?_) (by simp only [List.getElem?_toArray, List.getElem?_cons_succ, List.getElem?_cons_zero]; rfl) (by kernel_rfl) (by exact fun _ _ _ h => h) (by first | assumption | exact KB.refl _) (.inl ⟨by rfl, fun W hW => ?_⟩) ?_; rotate_left
          · (go_simp; first | done | with_reducible rfl)
          try simp only [Act.put, List.setIfInBounds_toArray, List.set_cons_zero, List.set_cons_succ]
          refine btake 12 (oi := _) (v := ?_) (by simp only [List.getElem?_toArray, List.getElem?_cons_succ, List.getElem?_cons_zero]; rfl) (by kernel_rfl) (by exact fun _ _ _ h => h) (by first | assumption | exact KB.refl _) (.inl ⟨by rfl, fun W hW => ?_⟩) ?_; rotate_left
          · (go_simp; first | done | with_reducible rfl)
          try simp only [Act.put, List.setIfInBounds_toArray, List.set_cons_zero, List.set_cons_succ]
          refine btake 13 (oi := _) (v := ?_) (by simp only [List.getElem?_toArray, List.getElem?_cons_succ, List.getElem?_cons_zero]; rfl) (by kernel_rfl) (by exact fun _ _ _ h => h) (by first | assumption | exact KB.refl _) (.inl ⟨by rfl, fun W hW => ?_⟩) ?_; rotate_left
          · (go_simp; first | done | with_reducible rfl)
          try simp only [Act.put, List.setIfInBounds_toArray, List.set_cons_zero, List.set_cons_succ]
          refine btake 14 (oi := _) (v := ?_) (by simp only [List.getElem?_toArray, List.getElem?_cons_succ, List.getElem?_cons_zero]; rfl) (by kernel_rfl) (by exact fun _ _ _ h => h) (by first | assumption | exact KB.refl _) (.inl ⟨by rfl, fun W hW => ?_⟩) ?_; rotate_left
          · (go_simp; first | done | with_reducible rfl)
          try simp only [Act.put, List.setIfInBounds_toArray, List.set_cons_zero, List.set_cons_succ]
          refine btake 15 (oi := _) (v := ?_) (by simp only [List.getElem?_toArray, List.getElem?_cons_succ, List.getElem?_cons_zero]; rfl) (by kernel_rfl) (by exact fun _ _ _ h => h) (by first | assumption | exact KB.refl _) (.inl ⟨by rfl, fun W hW => ?_⟩) ?_; rotate_left
          · (go_simp; first | done | with_reducible rfl)
          try simp only [Act.put, List.setIfInBounds_toArray, List.set_cons_zero, List.set_cons_succ]
          refine btake 16 (oi := _) (v := ?_) (by simp only [List.getElem?_toArray, List.getElem?_cons_succ, List.getElem?_cons_zero]; rfl) (by kernel_rfl) (by exact fun _ _ _ h => h) (by first | assumption | exact KB.refl _) (.inl ⟨by rfl, fun W hW => ?_⟩) ?_; rotate_left
          · (go_simp; first | done | with_reducible rfl)
          try simp only [Act.put, List.setIfInBounds_toArray, List.set_cons_zero, List.set_cons_succ]
          refine btake 17 (oi := _) (v := ?_) (by simp only [List.getElem?_toArray, List.getElem?_cons_succ, List.getElem?_cons_zero]; rfl) (by kernel_rfl) (by exact fun _ _ _ h => h) (by first | assumption | exact KB.refl _) (.inl ⟨by rfl, fun W hW => ?_⟩) ?_; rotate_left
          · (go_simp; first | done | with_reducible rfl)
          try simp only [Act.put, List.setIfInBounds_toArray, List.set_cons_zero, List.set_cons_succ]
          refine btake 18 (oi := _) (v := ?_) (by simp only [List.getElem?_toArray, List.getElem?_cons_succ, List.getElem?_cons_zero]; rfl) (by kernel_rfl) (by exact fun _ _ _ h => h) (by first | assumption | exact KB.refl _) (.inl ⟨by rfl, fun W hW => ?_⟩) ?_; rotate_left
          · (go_simp; first | done | with_reducible rfl)
          try simp only [Act.put, List.setIfInBounds_toArray, List.set_cons_zero, List.set_cons_succ]
          refine btake 19 (oi := _) (v := ?_) (by simp only [List.getElem?_toArray, List.getElem?_cons_succ, List.getElem?_cons_zero]; rfl) (by kernel_rfl) (by exact fun _ _ _ h => h) (by first | assumption | exact KB.refl _) (.inl ⟨by rfl, fun W hW => ?_⟩) ?_; rotate_left
          · (go_simp; first | done | with_reducible rfl)
          try simp only [Act.put, List.setIfInBounds_toArray, List.set_cons_zero, List.set_cons_succ]
          refine btake 20 (oi := _) (v := ?_) (by simp only [List.getElem?_toArray, List.getElem?_cons_succ, List.getElem?_cons_zero]; rfl) (by kernel_rfl) (by exact fun _ _ _ h => h) (by first | assumption | exact KB.refl _) (.inl ⟨by rfl, fun W hW => ?_⟩) ?_; rotate_left
          · (go_simp; first | done | with_reducible rfl)
          try simp only [Act.put, List.setIfInBounds_toArray, List.set_cons_zero, List.set_cons_succ]
          refine btake 21 (oi := _) (v := ?_) (by simp only [List.getElem?_toArray, List.getElem?_cons_succ, List.getElem?_cons_zero]; rfl) (by kernel_rfl) (by exact fun _ _ _ h => h) (by first | assumption | exact KB.refl _) (.inl ⟨by rfl, fun W hW => ?_⟩) ?_; rotate_left
          · (go_simp; first | done | with_reducible rfl)
          try simp only [Act.put, List.setIfInBounds_toArray, List.set_cons_zero, List.set_cons_succ]
          refine btake 22 (oi := _) (v := ?_) (by simp only [List.getElem?_toArray, List.getElem?_cons_succ, List.getElem?_cons_zero]; rfl) (by kernel_rfl) (by exact fun _ _ _ h => h) (by first | assumption | exact KB.refl _) (.inl ⟨by rfl, fun W hW => ?_⟩) ?_; rotate_left
          · (go_simp; first | done | with_reducible rfl)
          try simp only [Act.put, List.setIfInBounds_toArray, List.set_cons_zero, List.set_cons_succ]
          refine btake 23 (oi := _) (v := ?_) (by simp only [List.getElem?_toArray, List.getElem?_cons_succ, List.getElem?_cons_zero]; rfl) (by kernel_rfl) (by exact fun _ _ _ h => h) (by first | assumption | exact KB.refl _) (.inl ⟨by rfl, fun W hW => ?_⟩) ?_; rotate_left
          · (go_simp; first | done | with_reducible rfl)
          try simp only [Act.put, List.setIfInBounds_toArray, List.set_cons_zero, List.set_cons_succ]
          refine btake 24 (oi := _) (v := ?_) (by simp only [List.getElem?_toArray, List.getElem?_cons_succ, List.getElem?_cons_zero]; rfl) (by kernel_rfl) (by exact fun _ _ _ h => h) (by first | assumption | exact KB.refl _) (.inl ⟨by rfl, fun W hW => ?_⟩) ?_; rotate_left
          · (go_simp; first | done | with_reducible rfl)
          try simp only [Act.put, List.setIfInBounds_toArray, List.set_cons_zero, List.set_cons_succ]
          refine btake 25 (oi := _) (v := ?_) (by simp only [List.getElem?_toArray, List.getElem?_cons_succ, List.getElem?_cons_zero]; rfl) (by kernel_rfl) (by exact fun _ _ _ h => h) (by first | assumption | exact KB.refl _) (.inl ⟨by rfl, fun W hW => ?_⟩) ?_; rotate_left
          · (go_simp; first | done | with_reducible rfl)
          try simp only [Act.put, List.setIfInBounds_toArray, List.set_cons_zero, List.set_cons_succ]
          refine btake 26 (oi := _) (v := ?_) (by simp only [List.getElem?_toArray, List.getElem?_cons_succ, List.getElem?_cons_zero]; rfl) (by kernel_rfl) (by exact fun _ _ _ h => h) (by first | assumption | exact KB.refl _) (.inl ⟨by rfl, fun W hW => ?_⟩) ?_; rotate_left
          · (go_simp; first | done | with_reducible rfl)
          try simp only [Act.put, List.setIfInBounds_toArray, List.set_cons_zero, List.set_cons_succ]
          refine btake 27 (oi := _) (v := ?_) (by simp only [List.getElem?_toArray, List.getElem?_cons_succ, List.getElem?_cons_zero]; rfl) (by kernel_rfl) (by exact fun _ _ _ h => h) (by first | assumption | exact KB.refl _) (.inl ⟨by rfl, fun W hW => ?_⟩) ?_; rotate_left
          · (go_simp; first | done | with_reducible rfl)
          try simp only [Act.put, List.setIfInBounds_toArray, List.set_cons_zero, List.set_cons_succ]
          refine btake 28 (oi := _) (v := ?_) (by simp only [List.getElem?_toArray, List.getElem?_cons_succ, List.getElem?_cons_zero]; rfl) (by kernel_rfl) (by exact fun _ _ _ h => h) (by first | assumption | exact KB.refl _) (.inl ⟨by rfl, fun W hW => ?_⟩) ?_; rotate_left
          · (go_simp; first | done | with_reducible rfl)
          try simp only [Act.put, List.setIfInBounds_toArray, List.set_cons_zero, List.set_cons_succ]
          refine btake 29 (oi := _) (v := ?_) (by simp only [List.getElem?_toArray, List.getElem?_cons_succ, List.getElem?_cons_zero]; rfl) (by kernel_rfl) (by exact fun _ _ _ h => h) (by first | assumption | exact KB.refl _) (.inl ⟨by rfl, fun W hW => ?_⟩) ?_; rotate_left
          · (go_simp; first | done | with_reducible rfl)
          try simp only [Act.put, List.setIfInBounds_toArray, List.set_cons_zero, List.set_cons_succ]
          refine btake 30 (oi := _) (v := ?_) (by simp only [List.getElem?_toArray, List.getElem?_cons_succ, List.getElem?_cons_zero]; rfl) (by kernel_rfl) (by exact fun _ _ _ h => h) (by first | assumption | exact KB.refl _) (.inl ⟨by rfl, fun W hW => ?_⟩) ?_; rotate_left
          · (go_simp; first | done | with_reducible rfl)
          try simp only [Act.put, List.setIfInBounds_toArray, List.set_cons_zero, List.set_cons_succ]
          -- 31: (*newsreel/hlc.Clock).Last
          refine bopH 31 (o := _) (by simp only [List.getElem?_toArray, List.getElem?_cons_succ, List.getElem?_cons_zero]; rfl) (by kernel_rfl) (by first | assumption | exact KB.refl _) (by rfl) (fun K hK => ?_)
          go_simp
          refine (Last_any w7 g _ (hst5.below hB7)).mono ?_
          rintro e w8 ⟨rfl, hb8⟩
          have hB8 := hB7.trans (hb8.mono hB7.size)
          have hkb := KB.of hB8
          unfold S3.v
          refine hK.out _ _ hkb ?_; clear hK K
          try simp only [Act.put, List.setIfInBounds_toArray, List.set_cons_zero, List.set_cons_succ]
          refine btake 32 (oi := _) (v := ?_) (by simp only [List.getElem?_toArray, List.getElem?_cons_succ, List.getElem?_cons_zero]; rfl) (by kernel_rfl) (by exact fun _ _ _ h => h) (by first | assumption | exact KB.refl _) (.inl ⟨by rfl, fun W hW => ?_⟩) ?_; rotate_left
          · (go_simp; first | done | with_reducible rfl)
          try simp only [Act.put, List.setIfInBounds_toArray, List.set_cons_zero, List.set_cons_succ]
          refine btake 33 (oi := _) (v := ?_) (by simp only [List.getElem?_toArray, List.getElem?_cons_succ, List.getElem?_cons_zero]; rfl) (by kernel_rfl) (by exact fun _ _ _ h => h) (by first | assumption | exact KB.refl _) (.inl ⟨by rfl, fun W hW => ?_⟩) ?_; rotate_left
          · (go_simp; first | done | with_reducible rfl)
          try simp only [Act.put, List.setIfInBounds_toArray, List.set_cons_zero, List.set_cons_succ]
          refine bdone (by kernel_rfl) ?_
          have vl8 := vl5.below hB8
          have vs8 := vs.below hB8
          have hst8 := hst5.below hB8
          have b8 := b5.trans (hB8.mono b5.size)
          clear e0 e1 e2 e3 e4 e5 hkb hS0 hB7 hb7 hb8
          have hput := vl8.put ⟨sp, sl, 63⟩
          have hstp := hst8.put_other (g' := gl) ⟨sp, sl, 63⟩ hgl
          have bp := below_put3 b8 hglw ⟨sp, sl, 63⟩
          obtain ⟨_, y0, y1, y2, y3, y4, y5⟩ := vl8
          obtain ⟨_, f0, f1, f2, _, _, _⟩ := vs8
          simp only at f0 f1 f2
          go_wp2_with fail
          go_roundw
          case rel => exact ⟨i + 1, hlt, by go_num, ⟨sp, sl, 63⟩, _, bp, hstp, hput, HN.out.2.2⟩
          case measure => simp [intOf]; omega
    · go_wp2_with fail
      go_ret
      exact ⟨rfl, hbel⟩
end Go.Proofs.Ythpooogjlmaemaa

