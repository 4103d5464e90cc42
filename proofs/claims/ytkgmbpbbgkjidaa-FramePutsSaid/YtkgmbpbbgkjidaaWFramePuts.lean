/- 'FramePuts': the walk of the law. -/
import Derived.Test.YtkgmbpbbgkjidaaFrU
namespace Go.Proofs.Ytkgmbpbbgkjidaa
open Go.RowKit Go.Proofs.Ytkgmbpbbgkjidaa.Pl Go.Proofs.Ytkgmbpbbgkjidaa.Pc

/-- what is held of a frame and of where its payload lies -/
def FrIn (w : World) (x : Fr) (A : Option Addr) (c : Nat) : Prop := Sl w w.heap.size A (bv x.p) ∧ x.p.length ≤ c ∧ c ≤ maxLen ∧ x.p.length ≤ 2000 ∧ x.g < 4294967296
theorem frames_cells {w6 : World} {B gL : Nat} {xs : Array Value} (h : Sl w6 B (some ⟨gL, 0, none⟩) xs.toList) {x0 x1 x2 : Fr} {A0 A1 A2 : Option Addr} {c0 c1 c2 : Nat} (h0 : FrIn w6 x0 A0 c0) (h1 : FrIn w6 x1 A1 c1) (h2 : FrIn w6 x2 A2 c2)
    (hx : xs = #[.int .i64 x0.k, .int .u32 (x0.g : Int), .int .i64 x0.f, .int .i64 x0.t, .slice A0 x0.p.length c0, .int .i64 x1.k, .int .u32 (x1.g : Int), .int .i64 x1.f, .int .i64 x1.t, .slice A1 x1.p.length c1, .int .i64 x2.k, .int .u32 (x2.g : Int), .int .i64 x2.f, .int .i64 x2.t, .slice A2 x2.p.length c2]) :
    ∃ (X : Nat → Fr) (A : Nat → Option Addr) (c : Nat → Nat), ∀ k, k < 3 → FrIn w6 (X k) (A k) (c k) ∧ ∀ W, Below w6.heap.size w6 W → W.cell? ⟨gL, k * 5, none⟩ = some (.int .i64 (X k).k) ∧ W.cell? ⟨gL, k * 5 + 1, none⟩ = some (.int .u32 ((X k).g : Int)) ∧ W.cell? ⟨gL, k * 5 + 2, none⟩ = some (.int .i64 (X k).f) ∧ W.cell? ⟨gL, k * 5 + 3, none⟩ = some (.int .i64 (X k).t) ∧ W.cell? ⟨gL, k * 5 + 4, none⟩ = some (.slice (A k) (X k).p.length (c k)) := by
  subst hx
  obtain ⟨b, o, e, _, hbW, hc⟩ := h.at_ (k := 0) (by simp)
  cases e
  refine ⟨fun k => match k with | 0 => x0 | 1 => x1 | _ => x2, fun k => match k with | 0 => A0 | 1 => A1 | _ => A2, fun k => match k with | 0 => c0 | 1 => c1 | _ => c2, fun k hk => ?_⟩
  have g := fun W (hW : Below w6.heap.size w6 W) j u hu => (hW.cell (p := ⟨gL, 0 + j, none⟩) hbW).trans (hc j u hu)
  simp only [Nat.zero_add] at g
  match k, hk with
  | 0, _ => exact ⟨h0, fun W hW => ⟨g W hW 0 _ rfl, g W hW 1 _ rfl, g W hW 2 _ rfl, g W hW 3 _ rfl, g W hW 4 _ rfl⟩⟩
  | 1, _ => exact ⟨h1, fun W hW => ⟨g W hW 5 _ rfl, g W hW 6 _ rfl, g W hW 7 _ rfl, g W hW 8 _ rfl, g W hW 9 _ rfl⟩⟩
  | 2, _ => exact ⟨h2, fun W hW => ⟨g W hW 10 _ rfl, g W hW 11 _ rfl, g W hW 12 _ rfl, g W hW 13 _ rfl, g W hW 14 _ rfl⟩⟩
theorem four_cells {w6 : World} {B gL : Nat} {a b c d : Int} (h : Sl w6 B (some ⟨gL, 0, none⟩) [.int .i64 a, .int .i64 b, .int .i64 c, .int .i64 d]) :
    ∃ L : Nat → Int, ∀ j, j < 4 → ∀ W, Below w6.heap.size w6 W → W.cell? ⟨gL, j, none⟩ = some (.int .i64 (L j)) := by
  obtain ⟨bk, o, e, _, hbW, hc⟩ := h.at_ (k := 0) (by simp)
  cases e
  refine ⟨fun k => match k with | 0 => a | 1 => b | 2 => c | _ => d, fun k hk W hW => ?_⟩
  have g := fun j u hu => (hW.cell (p := ⟨gL, 0 + j, none⟩) hbW).trans (hc j u hu)
  simp only [Nat.zero_add] at g
  match k, hk with
  | 0, _ => exact g 0 _ rfl
  | 1, _ => exact g 1 _ rfl
  | 2, _ => exact g 2 _ rfl
  | 3, _ => exact g 3 _ rfl
theorem FrIn.below {w w' : World} {x : Fr} {A : Option Addr} {c : Nat} (h : FrIn w x A c) (hb : Below w.heap.size w w') : FrIn w' x A c := ⟨(h.1.below hb).more hb.size, h.2⟩
set_option maxRecDepth 100000 in
set_option maxHeartbeats 12800000 in
theorem FramePuts_walk (w : World) (f : Fr) (Af : Option Addr) (cf : Nat) (hf1 : Sl w w.heap.size Af (bv f.p)) (hf2 : f.p.length ≤ cf) (hf3 : cf ≤ maxLen) (hfo : f.ok) (limit : Int) (hlim : -9223372036854775808 ≤ limit ∧ limit ≤ 9223372036854775807) (k : Nat) (hk : k < 256) (g : Nat) (hg : g < 4294967296) (A : Option Addr) (c : Nat) (p : List UInt8) (hb : Sl w w.heap.size A (bv p)) (hc : p.length ≤ c) (hm : c ≤ 140737488351232) :
    Calls Try.prog 9 #[f.v Af cf, .int .i64 limit, .int .u8 (k : Int), .int .u32 (g : Int), .slice A p.length c] w fun e w' => e = .returned (.bool true) ∧ Below w.heap.size w w' := by
  have hcm : c ≤ maxLen := by simp [maxLen]; omega
  have hm1 := u8_half63 k hk
  have hm2 := u32_63 g hg
  have hm3 : (k : Int) % 2 = ((k % 2 : Nat) : Int) := by omega
  have hm4 : IntKind.i64.wrap (((k / 2 % 64 : Nat) : Int)) = ((k / 2 % 64 : Nat) : Int) := by rw [IntKind.wrap_i64]; omega
  have hmr := mk_right k g p
  have hml : (mkF k g p).p = p := rfl
  have hmg : (mkF k g p).g = g := rfl
  obtain ⟨x1, hx1⟩ : ∃ x1, x1 = mkF k g p := ⟨_, rfl⟩
  have hx1' : x1 = ⟨((k % 2 + 1 : Nat) : Int), g, ((k / 2 % 64 : Nat) : Int), ((g % 64 : Nat) : Int), p⟩ := hx1
  have hkk : ((k % 2 + 1 : Nat) : Int) = ((k % 2 : Nat) : Int) + 1 := by omega
  rw [hkk] at hx1'
  have hk2 : k % 2 < 2 := by omega
  have hk64 : k / 2 % 64 < 64 := by omega
  have hg64 : g % 64 < 64 := by omega
  rw [← hx1] at hmr hml hmg
  generalize k / 2 % 64 = K64 at *
  generalize k % 2 = K2 at *
  generalize g % 64 = G64 at *
  obtain ⟨fk, fg, ff, ft, fp⟩ := f
  obtain ⟨F127, hF127⟩ : ∃ F, bits .and .i64 ff 127 = F := ⟨_, rfl⟩
  obtain ⟨T127, hT127⟩ : ∃ F, bits .and .i64 ft 127 = F := ⟨_, rfl⟩
  unfold Fr.v Fr.ok at *
  simp only at *
  obtain ⟨hfo1, hfo2, hfo3, hfo4⟩ := hfo
  have hF := At.new w 47 #[.int .i64 fk, .int .u32 (fg : Int), .int .i64 ff, .int .i64 ft, .slice Af fp.length cf]
  have b1 := balloc (Below.refl w.heap.size w) (.cells #[.int .i64 fk, .int .u32 (fg : Int), .int .i64 ff, .int .i64 ft, .slice Af fp.length cf] 47)
  have sf := (hf1.below b1).more b1.size
  have sp := (hb.below b1).more b1.size
  clear hb hf1 hx1
  have HX := Lib.hid hx1'
  clear hx1'
  go_enter Try.func9, Try.ntmps9
  go_wp2_with fail
  generalize w.alloc (.cells #[.int .i64 fk, .int .u32 (fg : Int), .int .i64 ff, .int .i64 ft, .slice Af fp.length cf] 47) = w1 at *
  refine (frKnown_any w1).mono ?_
  rintro e w2 ⟨rfl, hb2⟩
  replace hF := hF.below hb2
  replace sf := (sf.below hb2).more hb2.size
  replace sp := (sp.below hb2).more hb2.size
  have b2 := b1.trans (hb2.mono b1.size)
  clear b1 hb2
  have a4 := hF.c 4 rfl
  by_cases h1 : 2000 < fp.length
  · have hd : decide (2000 < (fp.length : Int)) = true := by simp; omega
    go_wp2_with fail
    go_ret
    exact ⟨rfl, b2⟩
  have hd1 : decide (2000 < (fp.length : Int)) = false := by simp; omega
  by_cases h2 : 2000 < p.length
  · have hd : decide (2000 < (p.length : Int)) = true := by simp; omega
    go_wp2_with fail
    go_ret
    exact ⟨rfl, b2⟩
  have hd2 : decide (2000 < (p.length : Int)) = false := by simp; omega
  have bG := balloc (Below.refl w2.heap.size w2) (.cells #[.int .i64 ((K2 : Int) + 1), .int .u32 (g : Int), .int .i64 (K64 : Int), .int .i64 (G64 : Int), .slice A p.length c] 47)
  have hG := At.new w2 47 #[.int .i64 ((K2 : Int) + 1), .int .u32 (g : Int), .int .i64 (K64 : Int), .int .i64 (G64 : Int), .slice A p.length c]
  have hF3 := hF.below bG
  have b3 := b2.trans (bG.mono b2.size)
  have sf3 := (sf.below bG).more bG.size
  have sp3 := (sp.below bG).more bG.size
  have a0 := hF3.c 0 rfl
  have a1 := hF3.c 1 rfl
  have a2 := hF3.c 2 rfl
  have a3 := hF3.c 3 rfl
  have a5 := hF3.c 4 rfl
  clear sf sp hF
  go_wp2_with fail
  clear hd1 hd2
  have HZ := Lib.hid (show (w2.alloc (.cells #[.int .i64 ((K2 : Int) + 1), .int .u32 (g : Int), .int .i64 (K64 : Int), .int .i64 (G64 : Int), .slice A p.length c] 47)).heap.size = w2.heap.size + 1 by simp)
  generalize w2.alloc (.cells #[.int .i64 ((K2 : Int) + 1), .int .u32 (g : Int), .int .i64 (K64 : Int), .int .i64 (G64 : Int), .slice A p.length c] 47) = w3 at *
  generalize w2.heap.size = gG at *
  have bL := balloc (Below.refl w3.heap.size w3) (.cells #[.int .i64 fk, .int .u32 (fg : Int), .int .i64 ff, .int .i64 ft, .slice Af fp.length cf, .int .i64 ((K2 : Int) + 1), .int .u32 (g : Int), .int .i64 (K64 : Int), .int .i64 (G64 : Int), .slice A p.length c, .int .i64 fk, .int .u32 (g : Int), .int .i64 F127, .int .i64 T127, .slice A p.length c] 47)
  have sL := Sl.new w3 47 #[.int .i64 fk, .int .u32 (fg : Int), .int .i64 ff, .int .i64 ft, .slice Af fp.length cf, .int .i64 ((K2 : Int) + 1), .int .u32 (g : Int), .int .i64 (K64 : Int), .int .i64 (G64 : Int), .slice A p.length c, .int .i64 fk, .int .u32 (g : Int), .int .i64 F127, .int .i64 T127, .slice A p.length c] (0, 0)
  have b4 := b3.trans (bL.mono b3.size)
  have hG4 := hG.below bL
  have sp4 := (sp3.below bL).more bL.size
  have hI0 : FrIn _ ⟨fk, fg, ff, ft, fp⟩ Af cf := ⟨(sf3.below bL).more bL.size, hf2, hf3, by simp only; omega, hfo2⟩
  have hI1 : FrIn _ ⟨(K2 : Int) + 1, g, (K64 : Int), (G64 : Int), p⟩ A c := ⟨sp4, hc, hcm, by simp only; omega, hg⟩
  have hI2 : FrIn _ ⟨fk, g, F127, T127, p⟩ A c := ⟨sp4, hc, hcm, by simp only; omega, hg⟩
  rw [HZ.out] at sL
  clear HZ
  obtain ⟨X, AX, cX, hX⟩ := frames_cells sL hI0 hI1 hI2 rfl
  have HXX := Lib.hid hX
  clear hX hI0 hI1 hI2 sL bL a0 a1 a2 a3 a4 a5 hF3 sf3 sp3 b3 hG
  generalize w3.alloc (.cells #[.int .i64 fk, .int .u32 (fg : Int), .int .i64 ff, .int .i64 ft, .slice Af fp.length cf, .int .i64 ((K2 : Int) + 1), .int .u32 (g : Int), .int .i64 (K64 : Int), .int .i64 (G64 : Int), .slice A p.length c, .int .i64 fk, .int .u32 (g : Int), .int .i64 F127, .int .i64 T127, .slice A p.length c] 47) = w4 at *
  generalize gG + 1 = gL at *
  clear hm1 hm2 hm3 hm4 hF127 hT127 hkk
  go_loopw [63] (fun x63 wr => ∃ i : Nat, i ≤ 3 ∧ x63 = .int .i64 (i : Int) ∧ Below w4.heap.size w4 wr) (fun x63 _ => 3 - (intOf x63).toNat)
  case atStart => exact ⟨0, by omega, rfl, Below.refl _ _⟩
  case round =>
    obtain ⟨i, hi, rfl, hbel⟩ := hrel
    by_cases hi3 : i < 3
    · have hdi : decide ((i : Int) < 3) = true := by rw [decide_eq_true_eq]; omega
      obtain ⟨hin, hce⟩ := HXX.out i hi3
      obtain ⟨f0, f1, f2, f3, f4⟩ := hce wr hbel
      replace hin := hin.below hbel
      clear hce
      generalize X i = x at *
      generalize AX i = Ax at *
      generalize cX i = cx at *
      obtain ⟨xk, xg, xf, xt, xp⟩ := x
      simp only at f0 f1 f2 f3 f4
      have hXb := At.new wr 47 #[.int .i64 xk, .int .u32 (xg : Int), .int .i64 xf, .int .i64 xt, .slice Ax xp.length cx]
      have bx := balloc (Below.refl wr.heap.size wr) (.cells #[.int .i64 xk, .int .u32 (xg : Int), .int .i64 xf, .int .i64 xt, .slice Ax xp.length cx] 47)
      have hin5 := hin.below bx
      have b5 := hbel.trans (bx.mono hbel.size)
      go_wp2_with fail
      generalize wr.alloc (.cells #[.int .i64 xk, .int .u32 (xg : Int), .int .i64 xf, .int .i64 xt, .slice Ax xp.length cx] 47) = w5 at *
      generalize wr.heap.size = gX at *
      clear bx hin f0 f1 f2 f3 f4 hbel hdi
      obtain ⟨hi1, hi2, hi3', hi4, hi5⟩ := hin5
      simp only at hi1 hi2 hi4 hi5
      have e4 := cellB (hXb.c 4 rfl)
      have kw : IntKind.u64.wrap (xp.length : Int) = (xp.length : Int) := by rw [IntKind.wrap_u64]; omega
      obtain ⟨E, hE⟩ : ∃ E, [] ++ enc xp.length = E := ⟨_, rfl⟩
      have hEl : E.length ≤ 10 := by rw [← hE]; have := enc_len xp.length; simp; omega
      have hEE : E = enc xp.length := by rw [← hE]; rfl
      have HE := Lib.hid (And.intro hE hEE)
      clear hE hEE
      obtain ⟨m, hEm⟩ : ∃ m, E.length = m := ⟨_, rfl⟩
      rw [hEm] at hEl
      have HEM := Lib.hid hEm
      clear hEm
      have sU : Sl (w5.alloc (.cells #[.int .u64 (xp.length : Int)] 33)).drew (w5.alloc (.cells #[.int .u64 (xp.length : Int)] 33)).drew.heap.size (some ⟨w5.heap.size, 0, none⟩) (uv [xp.length]) := (Sl.new w5 33 #[.int .u64 (xp.length : Int)] (0, 0)).more (show w5.heap.size + 1 ≤ (w5.alloc (.cells #[.int .u64 (xp.length : Int)] 33)).heap.size from Nat.le_of_eq (World.size_alloc _ _).symm)
      have SU := Lib.hid sU
      clear sU
      have hS0 : KB w5.heap w5.drew := KB.refl w5
      refine bstartH (w5.heap) (by kernel_rfl) ?_
      refine btake 0 (oi := _) (v := ?_) (by simp only [List.getElem?_toArray, List.getElem?_cons_succ, List.getElem?_cons_zero]; rfl) (by kernel_rfl) (by exact fun _ _ _ h => h) (by first | assumption | exact KB.refl _) (.inl ⟨by rfl, fun W hW => ?_⟩) ?_; rotate_left
      · (go_simp; first | done | with_reducible rfl)
      try simp only [Act.put, List.setIfInBounds_toArray, List.set_cons_zero, List.set_cons_succ]
      refine btake 1 (oi := _) (v := ?_) (by simp only [List.getElem?_toArray, List.getElem?_cons_succ, List.getElem?_cons_zero]; rfl) (by kernel_rfl) (by exact fun _ _ _ h => h) (by first | assumption | exact KB.refl _) (.inl ⟨by rfl, fun W hW => ?_⟩) ?_; rotate_left
      · (go_simp; first | done | with_reducible rfl)
      try simp only [Act.put, List.setIfInBounds_toArray, List.set_cons_zero, List.set_cons_succ]
      refine btake 2 (oi := _) (v := ?_) (by simp only [List.getElem?_toArray, List.getElem?_cons_succ, List.getElem?_cons_zero]; rfl) (by kernel_rfl) (by exact fun _ _ _ h => h) (by first | assumption | exact KB.refl _) (.inl ⟨by rfl, fun W hW => ?_⟩) ?_; rotate_left
      · (go_simp; first | done | with_reducible rfl)
      try simp only [Act.put, List.setIfInBounds_toArray, List.set_cons_zero, List.set_cons_succ]
      refine btake 3 (oi := _) (v := ?_) (by simp only [List.getElem?_toArray, List.getElem?_cons_succ, List.getElem?_cons_zero]; rfl) (by kernel_rfl) (by exact fun _ _ _ h => h) (by first | assumption | exact KB.refl _) (.inl ⟨by rfl, fun W hW => ?_⟩) ?_; rotate_left
      · (go_simp; first | done | with_reducible rfl)
      try simp only [Act.put, List.setIfInBounds_toArray, List.set_cons_zero, List.set_cons_succ]
      refine btake 8 (oi := _) (v := ?_) (by simp only [List.getElem?_toArray, List.getElem?_cons_succ, List.getElem?_cons_zero]; rfl) (by kernel_rfl) (by exact fun _ _ _ h => h) (by first | assumption | exact KB.refl _) (.inl ⟨by rfl, fun W hW => ?_⟩) ?_; rotate_left
      · (go_simp; first | done | with_reducible rfl)
      try simp only [Act.put, List.setIfInBounds_toArray, List.set_cons_zero, List.set_cons_succ]
      refine btake 9 (oi := _) (v := ?_) (by simp only [List.getElem?_toArray, List.getElem?_cons_succ, List.getElem?_cons_zero]; rfl) (by kernel_rfl) (by exact fun _ _ _ h => h) (by first | assumption | exact KB.refl _) (.inl ⟨by rfl, fun W hW => ?_⟩) ?_; rotate_left
      · (go_simp; first | done | with_reducible rfl)
      try simp only [Act.put, List.setIfInBounds_toArray, List.set_cons_zero, List.set_cons_succ]
      refine btake 10 (oi := _) (v := ?_) (by simp only [List.getElem?_toArray, List.getElem?_cons_succ, List.getElem?_cons_zero]; rfl) (by kernel_rfl) (by exact fun _ _ _ h => h) (by first | assumption | exact KB.refl _) (.inl ⟨by rfl, fun W hW => ?_⟩) ?_; rotate_left
      · (go_simp; first | done | with_reducible rfl)
      try simp only [Act.put, List.setIfInBounds_toArray, List.set_cons_zero, List.set_cons_succ]
      -- 4: Op.buildSlice 66 1 #[(0, Operand.tmp 70)]
      refine bopH 4 (o := _) (by simp only [List.getElem?_toArray, List.getElem?_cons_succ, List.getElem?_cons_zero]; rfl) (by kernel_rfl) (by first | assumption | exact KB.refl _) (by rfl) (fun K hK => ?_)
      go_simp
      have hkb : KB w5.heap (w5.alloc (.cells #[.int .u64 (xp.length : Int)] 33)).drew := KB.alloc w5 _
      refine hK.out _ _ hkb ?_; clear hK K
      try simp only [Act.put, List.setIfInBounds_toArray, List.set_cons_zero, List.set_cons_succ]
      -- 5: newsreel/newsreelref1.Put
      refine bopH 5 (o := _) (by simp only [List.getElem?_toArray, List.getElem?_cons_succ, List.getElem?_cons_zero]; rfl) (by kernel_rfl) (by first | assumption | exact KB.refl _) (by rfl) (fun K hK => ?_)
      go_simp
      refine (RefPut_one (w5.alloc (.cells #[.int .u64 (xp.length : Int)] 33)).drew none (some ⟨w5.heap.size, 0, none⟩) 0 0 1 [] xp.length rfl Sl.nil SU.out (by unfold U64; omega) (by simp)).mono ?_
      rw [HE.out.1]
      rintro e w6 ⟨A6, c6, rfl, _, hb6⟩
      rw [HEM.out]
      have hB6 : Below w5.heap.size w5 w6 := (balloc (Below.refl w5.heap.size w5) (.cells #[.int .u64 (xp.length : Int)] 33)).drew.trans (hb6.mono (balloc (Below.refl w5.heap.size w5) (.cells #[.int .u64 (xp.length : Int)] 33)).size)
      have hkb : KB w5.heap w6 := KB.of hB6
      refine hK.out _ _ hkb ?_; clear hK K
      try simp only [Act.put, List.setIfInBounds_toArray, List.set_cons_zero, List.set_cons_succ]
      refine btake 6 (oi := _) (v := ?_) (by simp only [List.getElem?_toArray, List.getElem?_cons_succ, List.getElem?_cons_zero]; rfl) (by kernel_rfl) (by exact fun _ _ _ h => h) (by first | assumption | exact KB.refl _) (.inl ⟨by rfl, fun W hW => ?_⟩) ?_; rotate_left
      · (go_simp; first | done | with_reducible rfl)
      try simp only [Act.put, List.setIfInBounds_toArray, List.set_cons_zero, List.set_cons_succ]
      refine btake 7 (oi := _) (v := ?_) (by simp only [List.getElem?_toArray, List.getElem?_cons_succ, List.getElem?_cons_zero]; rfl) (by kernel_rfl) (by exact fun _ _ _ h => h) (by first | assumption | exact KB.refl _) (.inl ⟨by rfl, fun W hW => ?_⟩) ?_; rotate_left
      · (go_simp; first | done | with_reducible rfl)
      try simp only [Act.put, List.setIfInBounds_toArray, List.set_cons_zero, List.set_cons_succ]
      refine btake 11 (oi := _) (v := ?_) (by simp only [List.getElem?_toArray, List.getElem?_cons_succ, List.getElem?_cons_zero]; rfl) (by kernel_rfl) (by exact fun _ _ _ h => h) (by first | assumption | exact KB.refl _) (.inl ⟨by rfl, fun W hW => ?_⟩) ?_; rotate_left
      · (go_simp; first | done | with_reducible rfl)
      try simp only [Act.put, List.setIfInBounds_toArray, List.set_cons_zero, List.set_cons_succ]
      refine btake 12 (oi := _) (v := ?_) (by simp only [List.getElem?_toArray, List.getElem?_cons_succ, List.getElem?_cons_zero]; rfl) (by kernel_rfl) (by exact fun _ _ _ h => h) (by first | assumption | exact KB.refl _) (.inl ⟨by rfl, fun W hW => ?_⟩) ?_; rotate_left
      · (go_simp; first | done | with_reducible rfl)
      try simp only [Act.put, List.setIfInBounds_toArray, List.set_cons_zero, List.set_cons_succ]
      refine bdone (by kernel_rfl) ?_
      clear e4 hkb hS0 hb6 kw
      replace hXb := hXb.below hB6
      replace hi1 := (hi1.below hB6).more hB6.size
      have b6 := b5.trans (hB6.mono b5.size)
      clear b5 hB6
      go_wp2_with fail
      have sM := Sl.new w6 3 #[.int .i64 limit, .int .i64 (13 + (m : Int) + (xp.length : Int)), .int .i64 (13 + (m : Int) + (xp.length : Int) - 1), .int .i64 65536] (0, 0)
      have bM := balloc (Below.refl w6.heap.size w6) (.cells #[.int .i64 limit, .int .i64 (13 + (m : Int) + (xp.length : Int)), .int .i64 (13 + (m : Int) + (xp.length : Int) - 1), .int .i64 65536] 3)
      obtain ⟨L, hL⟩ := four_cells sM
      have HL := Lib.hid hL
      replace hXb := hXb.below bM
      replace hi1 := (hi1.below bM).more bM.size
      have b7 := b6.trans (bM.mono b6.size)
      clear sM hL bM b6 SU
      generalize w6.alloc (.cells #[.int .i64 limit, .int .i64 (13 + (m : Int) + (xp.length : Int)), .int .i64 (13 + (m : Int) + (xp.length : Int) - 1), .int .i64 65536] 3) = w7 at *
      generalize w6.heap.size = gM at *
      go_loopw [85] (fun x85 wr => ∃ j : Nat, j ≤ 4 ∧ x85 = .int .i64 (j : Int) ∧ Below w7.heap.size w7 wr) (fun x85 _ => 4 - (intOf x85).toNat)
      case atStart => exact ⟨0, by omega, rfl, Below.refl _ _⟩
      case round =>
        obtain ⟨j, hj, rfl, hbel⟩ := hrel
        by_cases hj4 : j < 4
        · have hdj : decide ((j : Int) < 4) = true := by rw [decide_eq_true_eq]; omega
          have l0 := HL.out j hj4 wr hbel
          generalize L j = lim at *
          obtain ⟨r1, r2, hput⟩ : ∃ r1 r2, putF ⟨xk, xg, xf, xt, xp⟩ lim = (r1, r2) := ⟨_, _, rfl⟩
          have hXc := hXb.below hbel
          have s7 := (hi1.below hbel).more hbel.size
          have a0 := hXc.c 0 rfl
          have a1 := hXc.c 1 rfl
          have a2 := hXc.c 2 rfl
          have a3 := hXc.c 3 rfl
          have a4 := hXc.c 4 rfl
          have HP := Lib.hid hput
          clear hput
          go_wp2_with fail
          refine (FPut_lit wr xk xf xt xg xp Ax xp.length cx lim r1 r2 s7 rfl hi2 hi3' (by omega) hi5 HP.out).mono ?_
          rintro e w8 ⟨A8, c8, rfl, s8, hc8, hm8, hb8⟩
          replace hXc := hXc.below hb8
          replace s7 := (s7.below hb8).more hb8.size
          have b8 := hbel.trans (hb8.mono hbel.size)
          clear a0 a1 a2 a3 a4 hbel hb8 l0
          have a0 := hXc.c 0 rfl
          have a1 := hXc.c 1 rfl
          have a2 := hXc.c 2 rfl
          have a3 := hXc.c 3 rfl
          have a4 := hXc.c 4 rfl
          go_wp2_with fail
          refine (RPut_lit w8 xk xf xt xg xp Ax xp.length cx lim r1 r2 s7 rfl hi2 hi3' (by omega) hi5 HP.out).mono ?_
          rintro e w9 ⟨A9, c9, rfl, s9, hc9, hm9, hb9⟩
          have k8 := conv ((s8.below hb9).more hb9.size) r1.length c8 rfl
          have k9 := conv s9 r1.length c9 rfl
          have b9 := b8.trans (hb9.mono b8.size)
          clear a0 a1 a2 a3 a4 b8 hb9 s8 s9 s7 hXc hdj
          by_cases h0 : r2 = 0
          · subst h0
            have hq := (put_len HP.out).1
            simp only at hq
            rw [← HE.out.2, HEM.out] at hq
            have q1 : ((r1.length : Int) != 13 + (m : Int) + (xp.length : Int)) = false := by simp; omega
            clear hq
            go_wp2_with fail
            go_roundw
            case rel => exact ⟨j + 1, by omega, by go_num, b9⟩
            case measure => simp [intOf]; omega
          · have q0 : (r2 == 0) = false := by simpa using h0
            go_wp2_with fail
            go_roundw
            case rel => exact ⟨j + 1, by omega, by go_num, b9⟩
            case measure => simp [intOf]; omega
        · obtain rfl : j = 4 := by omega
          go_wp2_with fail
          go_roundw
          case rel => exact ⟨i + 1, by omega, by go_num, b7.trans (hbel.mono b7.size)⟩
          case measure => simp [intOf]; omega
    · obtain rfl : i = 3 := by omega
      have hGr := hG4.below hbel
      have spr := (sp4.below hbel).more hbel.size
      have a0 := hGr.c 0 rfl
      have a1 := hGr.c 1 rfl
      have a2 := hGr.c 2 rfl
      have a3 := hGr.c 3 rfl
      have a4 := hGr.c 4 rfl
      have hpm : putF ⟨(K2 : Int) + 1, g, (K64 : Int), (G64 : Int), p⟩ 65536 = (x1.bytes, 0) := by
        rw [← HX.out]
        refine put_fits hmr ?_
        rw [held_max]
        have := (len_ge x1).2
        rw [hml] at this
        omega
      have hge : 14 ≤ x1.bytes.length := by rw [bytes_len]; exact (len_ge x1).1
      have HPM := Lib.hid hpm
      clear hpm hmr hml hmg
      generalize x1.bytes = r1 at *
      go_wp2_with fail
      refine (FPut_lit wr _ _ _ g p A p.length c 65536 r1 0 spr rfl hc hcm (by omega) hg HPM.out).mono ?_
      rintro e w8 ⟨A8, c8, rfl, s8, hc8, hm8, hb8⟩
      have q1 : decide (14 ≤ (r1.length : Int)) = true := by rw [decide_eq_true_eq]; omega
      go_wp2_with fail
      go_ret
      exact ⟨rfl, (b4.trans (hbel.mono b4.size)).trans (hb8.mono (b4.trans (hbel.mono b4.size)).size)⟩
end Go.Proofs.Ytkgmbpbbgkjidaa

