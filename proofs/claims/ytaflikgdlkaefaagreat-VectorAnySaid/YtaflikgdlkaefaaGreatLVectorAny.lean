/- The walk of VectorAny. -/
import Derived.Test.YtaflikgdlkaefaaGreatA16
import Derived.Test.YtaflikgdlkaefaaGreatA17
import Derived.Test.YtaflikgdlkaefaaGreatA21
open List (getElem?_toArray getElem?_cons_succ getElem?_cons_zero)
namespace Go.Proofs.YtaflikgdlkaefaaGreat
open Go.RowKit Go.Maps Go.Proofs.YtaflikgdlkaefaaGreat.Pl Go.Proofs.YtaflikgdlkaefaaGreat.Sp Go.Proofs.YtaflikgdlkaefaaGreat.Ve
set_option maxRecDepth 20000

theorem VX.nil (m : Nat) (w : World) : VX m w none 0 0 [] := ⟨[], ⟨rfl, Nat.le_refl _, by simp [maxLen], Sl.nil, by simp, rfl⟩, by omega, fun p hp => absurd hp (by simp)⟩
set_option maxRecDepth 100000 in
set_option maxHeartbeats 25600000 in
theorem VectorAny_walk (w : World) (A : Option Addr) (n c : Nat) (R : List RA) (V : VL) (hv : VS w A n c R V) (A' : Option Addr) (n' c' : Nat) (R' : List RA) (V' : VL) (hv' : VS w A' n' c' R' V') (d : Dt.D2) (hd : d.ok) (p : Int) (hp : -9223372036854775808 ≤ p ∧ p ≤ 9223372036854775807) :
  Calls Tryz.prog 3 #[.agg #[.slice A n c], .agg #[.slice A' n' c'], d.v, .int .i64 p] w fun e w' => e = .returned (.bool true) ∧ Below w.heap.size w w' := by
 obtain ⟨dr, dq⟩ := d
 unfold Dt.D2.v
 have hdr : i64in dr := hd.1
 have hpi : i64in p := hp
 dsimp only
 clear hd hp
 have hb0 : Below w.heap.size w (((w.alloc (.cells #[.slice A n c] 24)).alloc (.cells #[.slice A' n' c'] 24)).alloc (.cells #[.int .i64 dr, .int .i64 dq] 26)) := balloc (balloc (balloc (Below.refl _ _) _) _) _
 have a4 : At (((w.alloc (.cells #[.slice A n c] 24)).alloc (.cells #[.slice A' n' c'] 24)).alloc (.cells #[.int .i64 dr, .int .i64 dq] 26)) w.heap.size [.slice A n c] := ((At.new w 24 #[.slice A n c]).alloc _).alloc _
 have a5 : At (((w.alloc (.cells #[.slice A n c] 24)).alloc (.cells #[.slice A' n' c'] 24)).alloc (.cells #[.int .i64 dr, .int .i64 dq] 26)) (w.heap.size + 1) [.slice A' n' c'] := by
  have := (At.new (w.alloc (.cells #[.slice A n c] 24)) 24 #[.slice A' n' c']).alloc (.cells #[.int .i64 dr, .int .i64 dq] 26)
  rw [World.size_alloc] at this
  exact this
 have a6 : At (((w.alloc (.cells #[.slice A n c] 24)).alloc (.cells #[.slice A' n' c'] 24)).alloc (.cells #[.int .i64 dr, .int .i64 dq] 26)) (w.heap.size + 2) [.int .i64 dr, .int .i64 dq] := by
  have := At.new ((w.alloc (.cells #[.slice A n c] 24)).alloc (.cells #[.slice A' n' c'] 24)) 26 #[.int .i64 dr, .int .i64 dq]
  rw [World.size_alloc, World.size_alloc] at this
  exact this
 have HV := Lib.hid (And.intro (hv.below hb0) (And.intro (hv'.below hb0) (And.intro a4 (And.intro a5 (And.intro a6 hb0)))))
 clear hv hv' a4 a5 a6 hb0
 go_enter Tryz.func3, Tryz.ntmps3
 go_wp2_with fail
 generalize (((w.alloc (.cells #[.slice A n c] 24)).alloc (.cells #[.slice A' n' c'] 24)).alloc (.cells #[.int .i64 dr, .int .i64 dq] 26)) = W0 at *
 refine (vknown_any W0).mono ?_
 rintro e w1 ⟨rfl, h1⟩
 have y4 := (HV.out.2.2.1.below h1).c 0 rfl
 have HL := Lib.hid (Light_any w1 A n c R V (HV.out.1.below h1))
 have H1 := Lib.hid h1
 clear h1
 go_wp2_with fail
 refine HL.out.mono ?_
 rintro e w2 ⟨rfl, h2⟩
 have B2 := Lib.hid (H1.out.trans (h2.mono H1.out.size))
 obtain ⟨la, hla⟩ : ∃ b, lightV V = b := ⟨_, rfl⟩
 rw [hla]
 have HLA := Lib.hid hla
 clear h2 hla y4 HL H1
 cases la with
 | false =>
  have hbz := HV.out.2.2.2.2.2.trans (B2.out.mono HV.out.2.2.2.2.2.size)
  go_wp2_with fail
  go_ret
  exact ⟨rfl, hbz⟩
 | true =>
  have y5 := (HV.out.2.2.2.1.below B2.out).c 0 rfl
  have HL := Lib.hid (Light_any w2 A' n' c' R' V' (HV.out.2.1.below B2.out))
  go_wp2_with fail
  refine HL.out.mono ?_
  rintro e w3 ⟨rfl, h3⟩
  have B3 := Lib.hid (B2.out.trans (h3.mono B2.out.size))
  obtain ⟨lb, hlb⟩ : ∃ b, lightV V' = b := ⟨_, rfl⟩
  rw [hlb]
  have HLB := Lib.hid hlb
  clear h3 hlb y5 HL B2
  cases lb with
  | false =>
   have hbz := HV.out.2.2.2.2.2.trans (B3.out.mono HV.out.2.2.2.2.2.size)
   go_wp2_with fail
   go_ret
   exact ⟨rfl, hbz⟩
  | true =>
   have y4 := (HV.out.2.2.1.below B3.out).c 0 rfl
   have y5 := (HV.out.2.2.2.1.below B3.out).c 0 rfl
   have hbA := balloc (Below.refl w3.heap.size w3) (.cells #[.slice A n c, .slice A' n' c', .slice A' n' c', .slice A n c, .slice A n c, .slice A n c, .slice A n c, .slice none 0 0] 29)
   have a8 := At.new w3 29 #[.slice A n c, .slice A' n' c', .slice A' n' c', .slice A n c, .slice A n c, .slice A n c, .slice A n c, .slice none 0 0]
   have B5 := B3.out.trans (hbA.mono B3.out.size)
   have hva := HV.out.1.below B5
   have hvb := HV.out.2.1.below B5
   have hxa : VX 20 (w3.alloc (.cells #[.slice A n c, .slice A' n' c', .slice A' n' c', .slice A n c, .slice A n c, .slice A n c, .slice A n c, .slice none 0 0] 29)) A n c V := ⟨R, hva, by rw [← hva.len]; exact (lightV_lim HLA.out).2, (lightV_lim HLA.out).1⟩
   have hxb : VX 20 (w3.alloc (.cells #[.slice A n c, .slice A' n' c', .slice A' n' c', .slice A n c, .slice A n c, .slice A n c, .slice A n c, .slice none 0 0] 29)) A' n' c' V' := ⟨R', hvb, by rw [← hvb.len]; exact (lightV_lim HLB.out).2, (lightV_lim HLB.out).1⟩
   have hT : ∀ k : Nat, k < 4 → ∃ A1 n1 c1 V1 A2 n2 c2 V2, ([.slice A n c, .slice A' n' c', .slice A' n' c', .slice A n c, .slice A n c, .slice A n c, .slice A n c, .slice none 0 0] : List Value)[k * 2]? = some (.slice A1 n1 c1) ∧ ([.slice A n c, .slice A' n' c', .slice A' n' c', .slice A n c, .slice A n c, .slice A n c, .slice A n c, .slice none 0 0] : List Value)[k * 2 + 1]? = some (.slice A2 n2 c2) ∧ VX 20 (w3.alloc (.cells #[.slice A n c, .slice A' n' c', .slice A' n' c', .slice A n c, .slice A n c, .slice A n c, .slice A n c, .slice none 0 0] 29)) A1 n1 c1 V1 ∧ VX 20 (w3.alloc (.cells #[.slice A n c, .slice A' n' c', .slice A' n' c', .slice A n c, .slice A n c, .slice A n c, .slice A n c, .slice none 0 0] 29)) A2 n2 c2 V2 := fun k hk => by
    match k, hk with
    | 0, _ => exact ⟨A, n, c, V, A', n', c', V', rfl, rfl, hxa, hxb⟩
    | 1, _ => exact ⟨A', n', c', V', A, n, c, V, rfl, rfl, hxb, hxa⟩
    | 2, _ => exact ⟨A, n, c, V, A, n, c, V, rfl, rfl, hxa, hxa⟩
    | 3, _ => exact ⟨A, n, c, V, none, 0, 0, [], rfl, rfl, hxa, VX.nil _ _⟩
   have HS := Lib.hid (And.intro a8 (And.intro hT (And.intro (HV.out.2.2.2.2.1.below B5) (HV.out.2.2.2.2.2.trans (B5.mono HV.out.2.2.2.2.2.size)))))
   clear hbA a8 B5 hva hvb hxa hxb hT HV B3 HLA HLB
   go_wp2_with fail
   generalize w3.alloc (.cells #[.slice A n c, .slice A' n' c', .slice A' n' c', .slice A n c, .slice A n c, .slice A n c, .slice A n c, .slice none 0 0] 29) = W5 at *
   generalize w3.heap.size = g8 at *
   generalize hVL : ([.slice A n c, .slice A' n' c', .slice A' n' c', .slice A n c, .slice A n c, .slice A n c, .slice A n c, .slice none 0 0] : List Value) = L8 at *
   go_loopw [38] (fun x38 wr => ∃ (k : Nat), k ≤ 4 ∧ x38 = .int .i64 (k : Int) ∧ Below W5.heap.size W5 wr) (fun x38 _ => 4 - (intOf x38).toNat)
   case atStart => exact ⟨0, by omega, rfl, Below.refl _ _⟩
   case round =>
    obtain ⟨k, hk, rfl, hbel⟩ := hrel
    by_cases hlt : k < 4
    ·obtain ⟨A1, n1, c1, V1, A2, n2, c2, V2, hu1, hu2, hx1, hx2⟩ := HS.out.2.1 k hlt
     have ck1 := (HS.out.1.below hbel).c (k * 2) hu1
     have ck2 := (HS.out.1.below hbel).c (k * 2 + 1) hu2
     have hd1 : decide ((k : Int) < 4) = true := by rw [decide_eq_true_eq]; omega
     have hn0 : (0 : Int) ≤ (k : Int) := by omega
     have hn1 : (k : Int) < 4 := by omega
     have hbx := balloc (Below.refl wr.heap.size wr) (.cells #[.slice A1 n1 c1, .slice A2 n2 c2] 29)
     have abx := At.new wr 29 #[.slice A1 n1 c1, .slice A2 n2 c2]
     have hb7 := hbel.trans (hbx.mono hbel.size)
     have HX := Lib.hid (And.intro ((hx1.below hbel).below hbx) (And.intro ((hx2.below hbel).below hbx) (And.intro abx (And.intro (HS.out.2.2.1.below hb7) hb7))))
     clear hu1 hu2 hx1 hx2 hbx abx hb7
     go_wp2_with fail
     clear ck1 ck2
     generalize wr.alloc (.cells #[.slice A1 n1 c1, .slice A2 n2 c2] 29) = W7 at *
     generalize wr.heap.size = gp at *
     have e7 := HX.out.2.2.1.e 0 rfl
     have e8 := HX.out.2.2.1.e 1 rfl
     have hb0 : Below W7.heap.size W7 W7.drew := (Below.refl _ W7).drew
     refine bstart (by kernel_rfl) ?_
     refine btake 0 (oi := _) (v := ?_) (by simp only [List.getElem?_toArray, List.getElem?_cons_zero]; rfl) (by kernel_rfl) (by exact fun _ _ _ h => h) (by first | assumption | exact KB.refl _) (.inl ⟨by rfl, fun W hW => ?_⟩) ?_; rotate_left
     ·(go_simp; first | done | with_reducible rfl)
     try simp only [Act.put, List.setIfInBounds_toArray, List.set_cons_zero, List.set_cons_succ]
     refine btake 1 (oi := _) (v := ?_) (by simp only [getElem?_toArray, getElem?_cons_succ, getElem?_cons_zero]; rfl) (by kernel_rfl) (by exact fun _ _ _ h => h) (by first | assumption | exact KB.refl _) (.inl ⟨by rfl, fun W hW => ?_⟩) ?_; rotate_left
     ·(go_simp; first | done | with_reducible rfl)
     try simp only [Act.put, List.setIfInBounds_toArray, List.set_cons_zero, List.set_cons_succ]
     refine btake 2 (oi := _) (v := ?_) (by simp only [getElem?_toArray, getElem?_cons_succ, getElem?_cons_zero]; rfl) (by kernel_rfl) (by exact fun _ _ _ h => h) (by first | assumption | exact KB.refl _) (.inl ⟨by rfl, fun W hW => ?_⟩) ?_; rotate_left
     ·(go_simp; first | done | with_reducible rfl)
     try simp only [Act.put, List.setIfInBounds_toArray, List.set_cons_zero, List.set_cons_succ]
     refine btake 3 (oi := _) (v := ?_) (by simp only [getElem?_toArray, getElem?_cons_succ, getElem?_cons_zero]; rfl) (by kernel_rfl) (by exact fun _ _ _ h => h) (by first | assumption | exact KB.refl _) (.inl ⟨by rfl, fun W hW => ?_⟩) ?_; rotate_left
     ·(go_simp; first | done | with_reducible rfl)
     try simp only [Act.put, List.setIfInBounds_toArray, List.set_cons_zero, List.set_cons_succ]
     refine bparV [YldV.sl 4 (some 11) none (BxP (.slice none 0 0)) (BxP.st _), YldV.sl 5 (some 12) none (BxP (.slice none 0 0)) (BxP.st _)] 2 rfl (by kernel_rfl) (by kernel_rfl) (fun s hs => ?_) (fun vs W hbW hd hds => ?_)
     ·simp only [List.mem_cons, List.not_mem_nil, or_false] at hs
      rcases hs with rfl | rfl
      · -- 4: Op.alloc 24
       intro vs W hbW hd
       clear hd
       refine parV_of (j := 4) (d := (some 11)) (o := _) (by simp only [getElem?_toArray, getElem?_cons_succ, getElem?_cons_zero]; rfl) (by rfl) (fun K hK => ?_)
       simp only [putv, puts, List.map_cons, List.map_nil, YldV.y, List.foldl_cons, List.foldl_nil, Act.put, List.setIfInBounds_toArray, List.set_cons_zero, List.set_cons_succ, YldV.eq, YldV.at, YldV.sl, YldV.own] at hK ⊢
       go_simp
       exact hK.out _ _ _ (by rfl) (StepV.newB (Bx.new W (.slice none 0 0)) (balloc (Below.refl _ _) _) (Nat.le_refl _))
      · -- 5: Op.alloc 24
       intro vs W hbW hd
       clear hd
       refine parV_of (j := 5) (d := (some 12)) (o := _) (by simp only [getElem?_toArray, getElem?_cons_succ, getElem?_cons_zero]; rfl) (by rfl) (fun K hK => ?_)
       simp only [putv, puts, List.map_cons, List.map_nil, YldV.y, List.foldl_cons, List.foldl_nil, Act.put, List.setIfInBounds_toArray, List.set_cons_zero, List.set_cons_succ, YldV.eq, YldV.at, YldV.sl, YldV.own] at hK ⊢
       go_simp
       exact hK.out _ _ _ (by rfl) (StepV.newB (Bx.new W (.slice none 0 0)) (balloc (Below.refl _ _) _) (Nat.le_refl _))
     obtain ⟨h4, b4⟩ : ((YldV.sl 4 (some 11) none (BxP (.slice none 0 0)) (BxP.st _)).pr (vs 4) W) ∧ ∀ g, (vs 4).bk = some g → _ := hd _ (.head _) rfl
     obtain ⟨h5, b5⟩ : ((YldV.sl 5 (some 12) none (BxP (.slice none 0 0)) (BxP.st _)).pr (vs 5) W) ∧ ∀ g, (vs 5).bk = some g → _ := hd _ (.tail _ (.head _)) rfl
     have n4_5 : (vs 4).bk = none ∨ (vs 4).bk ≠ (vs 5).bk := hds _ (.head _) _ (.tail _ (.head _)) rfl rfl (by simp [YldV.at, YldV.eq, YldV.at, YldV.sl, YldV.own])
     clear hds
     clear hd
     have hKW := KB.of hbW
     simp only [putv, puts, List.map_cons, List.map_nil, YldV.y, List.foldl_cons, List.foldl_nil, Act.put, List.setIfInBounds_toArray, List.set_cons_zero, List.set_cons_succ, YldV.eq, YldV.at, YldV.sl, YldV.own]
     generalize vs 4 = v4 at *
     generalize vs 5 = v5 at *
     obtain ⟨g9, rfl, k9⟩ := h4
     obtain ⟨g10, rfl, k10⟩ := h5
     have ne : g9 ≠ g10 := fun e => by rcases n4_5 with h | h; cases h; exact h (by rw [e])
     have lo9 : W7.heap.size ≤ g9 := (b4 g9 rfl).1
     have lo10 : W7.heap.size ≤ g10 := (b5 g10 rfl).1
     clear n4_5 b4 b5
     have c9 := k9.at_.c 0 rfl
     have f9 := k9.at_.f 0 rfl
     have hb9 := hbW.setCell (p := ⟨g9, 0, none⟩) lo9 (.slice A1 n1 c1)
     have hkb9 := KB.of hb9
     have k10' := k10.other ne (.slice A1 n1 c1)
     have k9' := k9.set (.slice A1 n1 c1)
     have c10 := k10'.at_.c 0 rfl
     have f10 := k10'.at_.f 0 rfl
     have hb10 := hb9.setCell (p := ⟨g10, 0, none⟩) lo10 (.slice A2 n2 c2)
     have hkb10 := KB.of hb10
     have hb10' := hb0.trans (hb10.mono hb0.size)
     have k10'' := k10'.set (.slice A2 n2 c2)
     have k9'' := k9'.other (Ne.symm ne) (.slice A2 n2 c2)
     refine bopH 6 (o := _) (by simp only [getElem?_toArray, getElem?_cons_succ, getElem?_cons_zero]; rfl) (by kernel_rfl) (by first | assumption | exact KB.refl _) (by rfl) (fun K hK => ?_)
     go_simp
     have hkb := hkb9
     refine hK.out _ _ hkb ?_; clear hK K
     try simp only [Act.put, List.setIfInBounds_toArray, List.set_cons_zero, List.set_cons_succ]
     refine bopH 7 (o := _) (by simp only [getElem?_toArray, getElem?_cons_succ, getElem?_cons_zero]; rfl) (by kernel_rfl) (by first | assumption | exact KB.refl _) (by rfl) (fun K hK => ?_)
     go_simp
     have hkb := hkb10
     refine hK.out _ _ hkb ?_; clear hK K
     try simp only [Act.put, List.setIfInBounds_toArray, List.set_cons_zero, List.set_cons_succ]
     refine bdone (by kernel_rfl) ?_
     have HZ := Lib.hid (And.intro (HX.out.1.below hb10') (And.intro (HX.out.2.1.below hb10') (And.intro k9''.at_ (And.intro k10''.at_ (And.intro (HX.out.2.2.2.1.below hb10') (HX.out.2.2.2.2.trans (hb10'.mono HX.out.2.2.2.2.size)))))))
     clear hbW hKW k9 k10 k9' k10' k9'' k10'' c9 f9 c10 f10 hb9 hb10 hb10' hkb9 hkb10 lo9 lo10 ne e7 e8 hb0 HX
     generalize ((W.setCell { block := g9, off := 0 } (Value.slice A1 n1 c1)).setCell { block := g10, off := 0 } (Value.slice A2 n2 c2)) = Z0 at *
     obtain ⟨p1, hp1⟩ : ∃ b, rightV V1 = b := ⟨_, rfl⟩
     obtain ⟨p2, hp2⟩ : ∃ b, rightV V2 = b := ⟨_, rfl⟩
     have HP := Lib.hid (And.intro hp1 hp2)
     clear hp1 hp2
     have y9 := HZ.out.2.2.1.c 0 rfl
     go_wp2_with fail
     refine (HZ.out.1.rright (by omega)).mono ?_
     rintro e z1 ⟨rfl, h1⟩
     rw [HP.out.1]
     have HY := Lib.hid (And.intro (HZ.out.1.below h1) (And.intro (HZ.out.2.1.below h1) (And.intro (HZ.out.2.2.1.below h1) (And.intro (HZ.out.2.2.2.1.below h1) (And.intro (HZ.out.2.2.2.2.1.below h1) (HZ.out.2.2.2.2.2.trans (h1.mono HZ.out.2.2.2.2.2.size)))))))
     clear h1 y9 HZ
     cases p1 with
     | false =>
      have HSM := Lib.hid (show sameV V1 V2 = false by rw [sameV, HP.out.1]; simp)
      have HVW := Lib.hid (fun W' (hW : Below z1.heap.size z1 W') => And.intro (HY.out.1.below hW) (HY.out.2.1.below hW))
      have e9 := HY.out.2.2.1.e 0 rfl
      have e10 := HY.out.2.2.2.1.e 0 rfl
      have e6 := HY.out.2.2.2.2.1.e 0 rfl
      have e6' := HY.out.2.2.2.2.1.e 1 rfl
      have hb0 : Below z1.heap.size z1 z1.drew := (Below.refl _ z1).drew
      have hex := fun m (hl : Lim m V1) => extraV_len hl p
      have HEX := Lib.hid (show (extraV V1 p).length ≤ 20 from by obtain ⟨_, _, _, h3⟩ := HY.out.1; exact extraV_len h3 p)
      clear hex
      go_wp2_with fail
      refine bstartH (z1.heap) (by kernel_rfl) ?_
      refine btake 0 (oi := _) (v := ?_) (by simp only [List.getElem?_toArray, List.getElem?_cons_zero]; rfl) (by kernel_rfl) (by exact fun _ _ _ h => h) (by first | assumption | exact KB.refl _) (.inl ⟨by rfl, fun W hW => ?_⟩) ?_; rotate_left
      ·(go_simp; first | done | with_reducible rfl)
      try simp only [Act.put, List.setIfInBounds_toArray, List.set_cons_zero, List.set_cons_succ]
      refine btake 2 (oi := _) (v := ?_) (by simp only [getElem?_toArray, getElem?_cons_succ, getElem?_cons_zero]; rfl) (by kernel_rfl) (by exact fun _ _ _ h => h) (by first | assumption | exact KB.refl _) (.inl ⟨by rfl, fun W hW => ?_⟩) ?_; rotate_left
      ·(go_simp; first | done | with_reducible rfl)
      try simp only [Act.put, List.setIfInBounds_toArray, List.set_cons_zero, List.set_cons_succ]
      refine bopH 1 (o := _) (by simp only [getElem?_toArray, getElem?_cons_succ, getElem?_cons_zero]; rfl) (by kernel_rfl) (by first | assumption | exact KB.refl _) (by rfl) (fun K hK => ?_)
      go_simp
      refine ((HVW.out _ hb0).1.right (by omega)).mono ?_
      rintro e u1 ⟨rfl, h⟩
      rw [HP.out.1]
      have B1 := Lib.hid (hb0.trans (h.mono hb0.size))
      have hkb : KB z1.heap u1 := KB.of B1.out
      clear h
      refine hK.out _ _ hkb ?_; clear hK K
      try simp only [Act.put, List.setIfInBounds_toArray, List.set_cons_zero, List.set_cons_succ]
      refine bopH 3 (o := _) (by simp only [getElem?_toArray, getElem?_cons_succ, getElem?_cons_zero]; rfl) (by kernel_rfl) (by first | assumption | exact KB.refl _) (by rfl) (fun K hK => ?_)
      go_simp
      refine ((HVW.out _ B1.out).1.rright (by omega)).mono ?_
      rintro e u3 ⟨rfl, h⟩
      rw [HP.out.1]
      have B3 := Lib.hid (B1.out.trans (h.mono B1.out.size))
      have hkb : KB z1.heap u3 := KB.of B3.out
      clear h
      refine hK.out _ _ hkb ?_; clear hK K
      try simp only [Act.put, List.setIfInBounds_toArray, List.set_cons_zero, List.set_cons_succ]
      refine btake 4 (oi := _) (v := ?_) (by simp only [getElem?_toArray, getElem?_cons_succ, getElem?_cons_zero]; rfl) (by kernel_rfl) (by exact fun _ _ _ h => h) (by first | assumption | exact KB.refl _) (.inl ⟨by rfl, fun W hW => ?_⟩) ?_; rotate_left
      ·(go_simp; first | done | with_reducible rfl)
      try simp only [Act.put, List.setIfInBounds_toArray, List.set_cons_zero, List.set_cons_succ]
      refine btake 5 (oi := _) (v := ?_) (by simp only [getElem?_toArray, getElem?_cons_succ, getElem?_cons_zero]; rfl) (by kernel_rfl) (by exact fun _ _ _ h => h) (by first | assumption | exact KB.refl _) (.inl ⟨by rfl, fun W hW => ?_⟩) ?_; rotate_left
      ·(go_simp; first | done | with_reducible rfl)
      try simp only [Act.put, List.setIfInBounds_toArray, List.set_cons_zero, List.set_cons_succ]
      refine btake 6 (oi := _) (v := ?_) (by simp only [getElem?_toArray, getElem?_cons_succ, getElem?_cons_zero]; rfl) (by kernel_rfl) (by exact fun _ _ _ h => h) (by first | assumption | exact KB.refl _) (.inl ⟨by rfl, fun W hW => ?_⟩) ?_; rotate_left
      ·(go_simp; first | done | with_reducible rfl)
      try simp only [Act.put, List.setIfInBounds_toArray, List.set_cons_zero, List.set_cons_succ]
      refine btake 7 (oi := _) (v := ?_) (by simp only [getElem?_toArray, getElem?_cons_succ, getElem?_cons_zero]; rfl) (by kernel_rfl) (by exact fun _ _ _ h => h) (by first | assumption | exact KB.refl _) (.inl ⟨by rfl, fun W hW => ?_⟩) ?_; rotate_left
      ·(go_simp; first | done | with_reducible rfl)
      try simp only [Act.put, List.setIfInBounds_toArray, List.set_cons_zero, List.set_cons_succ]
      refine btake 9 (oi := _) (v := ?_) (by simp only [getElem?_toArray, getElem?_cons_succ, getElem?_cons_zero]; rfl) (by kernel_rfl) (by exact fun _ _ _ h => h) (by first | assumption | exact KB.refl _) (.inl ⟨by rfl, fun W hW => ?_⟩) ?_; rotate_left
      ·(go_simp; first | done | with_reducible rfl)
      try simp only [Act.put, List.setIfInBounds_toArray, List.set_cons_zero, List.set_cons_succ]
      refine btake 10 (oi := _) (v := ?_) (by simp only [getElem?_toArray, getElem?_cons_succ, getElem?_cons_zero]; rfl) (by kernel_rfl) (by exact fun _ _ _ h => h) (by first | assumption | exact KB.refl _) (.inl ⟨by rfl, fun W hW => ?_⟩) ?_; rotate_left
      ·(go_simp; first | done | with_reducible rfl)
      try simp only [Act.put, List.setIfInBounds_toArray, List.set_cons_zero, List.set_cons_succ]
      refine bopH 8 (o := _) (by simp only [getElem?_toArray, getElem?_cons_succ, getElem?_cons_zero]; rfl) (by kernel_rfl) (by first | assumption | exact KB.refl _) (by rfl) (fun K hK => ?_)
      go_simp
      refine ((HVW.out _ B3.out).1.has (by omega) dr dq hdr).mono ?_
      rintro e u8 ⟨rfl, h⟩
      have B8 := Lib.hid (B3.out.trans (h.mono B3.out.size))
      have hkb : KB z1.heap u8 := KB.of B8.out
      clear h
      refine hK.out _ _ hkb ?_; clear hK K
      try simp only [Act.put, List.setIfInBounds_toArray, List.set_cons_zero, List.set_cons_succ]
      refine bopH 11 (o := _) (by simp only [getElem?_toArray, getElem?_cons_succ, getElem?_cons_zero]; rfl) (by kernel_rfl) (by first | assumption | exact KB.refl _) (by rfl) (fun K hK => ?_)
      go_simp
      refine ((HVW.out _ B8.out).1.rhas (by omega) dr dq).mono ?_
      rintro e u11 ⟨rfl, h⟩
      have B11 := Lib.hid (B8.out.trans (h.mono B8.out.size))
      have hkb : KB z1.heap u11 := KB.of B11.out
      clear h
      refine hK.out _ _ hkb ?_; clear hK K
      try simp only [Act.put, List.setIfInBounds_toArray, List.set_cons_zero, List.set_cons_succ]
      refine btake 12 (oi := _) (v := ?_) (by simp only [getElem?_toArray, getElem?_cons_succ, getElem?_cons_zero]; rfl) (by kernel_rfl) (by exact fun _ _ _ h => h) (by first | assumption | exact KB.refl _) (.inl ⟨by rfl, fun W hW => ?_⟩) ?_; rotate_left
      ·(go_simp; first | done | with_reducible rfl)
      try simp only [Act.put, List.setIfInBounds_toArray, List.set_cons_zero, List.set_cons_succ]
      refine btake 13 (oi := _) (v := ?_) (by simp only [getElem?_toArray, getElem?_cons_succ, getElem?_cons_zero]; rfl) (by kernel_rfl) (by exact fun _ _ _ h => h) (by first | assumption | exact KB.refl _) (.inl ⟨by rfl, fun W hW => ?_⟩) ?_; rotate_left
      ·(go_simp; first | done | with_reducible rfl)
      try simp only [Act.put, List.setIfInBounds_toArray, List.set_cons_zero, List.set_cons_succ]
      refine btake 14 (oi := _) (v := ?_) (by simp only [getElem?_toArray, getElem?_cons_succ, getElem?_cons_zero]; rfl) (by kernel_rfl) (by exact fun _ _ _ h => h) (by first | assumption | exact KB.refl _) (.inl ⟨by rfl, fun W hW => ?_⟩) ?_; rotate_left
      ·(go_simp; first | done | with_reducible rfl)
      try simp only [Act.put, List.setIfInBounds_toArray, List.set_cons_zero, List.set_cons_succ]
      refine btake 15 (oi := _) (v := ?_) (by simp only [getElem?_toArray, getElem?_cons_succ, getElem?_cons_zero]; rfl) (by kernel_rfl) (by exact fun _ _ _ h => h) (by first | assumption | exact KB.refl _) (.inl ⟨by rfl, fun W hW => ?_⟩) ?_; rotate_left
      ·(go_simp; first | done | with_reducible rfl)
      try simp only [Act.put, List.setIfInBounds_toArray, List.set_cons_zero, List.set_cons_succ]
      refine btake 17 (oi := _) (v := ?_) (by simp only [getElem?_toArray, getElem?_cons_succ, getElem?_cons_zero]; rfl) (by kernel_rfl) (by exact fun _ _ _ h => h) (by first | assumption | exact KB.refl _) (.inl ⟨by rfl, fun W hW => ?_⟩) ?_; rotate_left
      ·(go_simp; first | done | with_reducible rfl)
      try simp only [Act.put, List.setIfInBounds_toArray, List.set_cons_zero, List.set_cons_succ]
      refine bopH 16 (o := _) (by simp only [getElem?_toArray, getElem?_cons_succ, getElem?_cons_zero]; rfl) (by kernel_rfl) (by first | assumption | exact KB.refl _) (by rfl) (fun K hK => ?_)
      go_simp
      refine ((HVW.out _ B11.out).1.count (by omega)).mono ?_
      rintro e u16 ⟨rfl, h⟩
      have B16 := Lib.hid (B11.out.trans (h.mono B11.out.size))
      have hkb : KB z1.heap u16 := KB.of B16.out
      clear h
      refine hK.out _ _ hkb ?_; clear hK K
      try simp only [Act.put, List.setIfInBounds_toArray, List.set_cons_zero, List.set_cons_succ]
      refine bopH 18 (o := _) (by simp only [getElem?_toArray, getElem?_cons_succ, getElem?_cons_zero]; rfl) (by kernel_rfl) (by first | assumption | exact KB.refl _) (by rfl) (fun K hK => ?_)
      go_simp
      refine ((HVW.out _ B16.out).1.rcount (by omega)).mono ?_
      rintro e u18 ⟨rfl, h⟩
      have B18 := Lib.hid (B16.out.trans (h.mono B16.out.size))
      have hkb : KB z1.heap u18 := KB.of B18.out
      clear h
      refine hK.out _ _ hkb ?_; clear hK K
      try simp only [Act.put, List.setIfInBounds_toArray, List.set_cons_zero, List.set_cons_succ]
      refine btake 19 (oi := _) (v := ?_) (by simp only [getElem?_toArray, getElem?_cons_succ, getElem?_cons_zero]; rfl) (by kernel_rfl) (by exact fun _ _ _ h => h) (by first | assumption | exact KB.refl _) (.inl ⟨by rfl, fun W hW => ?_⟩) ?_; rotate_left
      ·(go_simp; first | done | with_reducible rfl)
      try simp only [Act.put, List.setIfInBounds_toArray, List.set_cons_zero, List.set_cons_succ]
      refine btake 20 (oi := _) (v := ?_) (by simp only [getElem?_toArray, getElem?_cons_succ, getElem?_cons_zero]; rfl) (by kernel_rfl) (by exact fun _ _ _ h => h) (by first | assumption | exact KB.refl _) (.inl ⟨by rfl, fun W hW => ?_⟩) ?_; rotate_left
      ·(go_simp; first | done | with_reducible rfl)
      try simp only [Act.put, List.setIfInBounds_toArray, List.set_cons_zero, List.set_cons_succ]
      refine btake 21 (oi := _) (v := ?_) (by simp only [getElem?_toArray, getElem?_cons_succ, getElem?_cons_zero]; rfl) (by kernel_rfl) (by exact fun _ _ _ h => h) (by first | assumption | exact KB.refl _) (.inl ⟨by rfl, fun W hW => ?_⟩) ?_; rotate_left
      ·(go_simp; first | done | with_reducible rfl)
      try simp only [Act.put, List.setIfInBounds_toArray, List.set_cons_zero, List.set_cons_succ]
      refine btake 22 (oi := _) (v := ?_) (by simp only [getElem?_toArray, getElem?_cons_succ, getElem?_cons_zero]; rfl) (by kernel_rfl) (by exact fun _ _ _ h => h) (by first | assumption | exact KB.refl _) (.inl ⟨by rfl, fun W hW => ?_⟩) ?_; rotate_left
      ·(go_simp; first | done | with_reducible rfl)
      try simp only [Act.put, List.setIfInBounds_toArray, List.set_cons_zero, List.set_cons_succ]
      refine btake 23 (oi := _) (v := ?_) (by simp only [getElem?_toArray, getElem?_cons_succ, getElem?_cons_zero]; rfl) (by kernel_rfl) (by exact fun _ _ _ h => h) (by first | assumption | exact KB.refl _) (.inl ⟨by rfl, fun W hW => ?_⟩) ?_; rotate_left
      ·(go_simp; first | done | with_reducible rfl)
      try simp only [Act.put, List.setIfInBounds_toArray, List.set_cons_zero, List.set_cons_succ]
      refine btake 25 (oi := _) (v := ?_) (by simp only [getElem?_toArray, getElem?_cons_succ, getElem?_cons_zero]; rfl) (by kernel_rfl) (by exact fun _ _ _ h => h) (by first | assumption | exact KB.refl _) (.inl ⟨by rfl, fun W hW => ?_⟩) ?_; rotate_left
      ·(go_simp; first | done | with_reducible rfl)
      try simp only [Act.put, List.setIfInBounds_toArray, List.set_cons_zero, List.set_cons_succ]
      refine btake 26 (oi := _) (v := ?_) (by simp only [getElem?_toArray, getElem?_cons_succ, getElem?_cons_zero]; rfl) (by kernel_rfl) (by exact fun _ _ _ h => h) (by first | assumption | exact KB.refl _) (.inl ⟨by rfl, fun W hW => ?_⟩) ?_; rotate_left
      ·(go_simp; first | done | with_reducible rfl)
      try simp only [Act.put, List.setIfInBounds_toArray, List.set_cons_zero, List.set_cons_succ]
      refine bopH 24 (o := _) (by simp only [getElem?_toArray, getElem?_cons_succ, getElem?_cons_zero]; rfl) (by kernel_rfl) (by first | assumption | exact KB.refl _) (by rfl) (fun K hK => ?_)
      go_simp
      refine ((HVW.out _ B18.out).1.base (by omega) p hpi).mono ?_
      rintro e u24 ⟨rfl, h⟩
      have B24 := Lib.hid (B18.out.trans (h.mono B18.out.size))
      have hkb : KB z1.heap u24 := KB.of B24.out
      clear h
      refine hK.out _ _ hkb ?_; clear hK K
      try simp only [Act.put, List.setIfInBounds_toArray, List.set_cons_zero, List.set_cons_succ]
      refine bopH 27 (o := _) (by simp only [getElem?_toArray, getElem?_cons_succ, getElem?_cons_zero]; rfl) (by kernel_rfl) (by first | assumption | exact KB.refl _) (by rfl) (fun K hK => ?_)
      go_simp
      refine ((HVW.out _ B24.out).1.rbase (by omega) p).mono ?_
      rintro e u27 ⟨rfl, h⟩
      have B27 := Lib.hid (B24.out.trans (h.mono B24.out.size))
      have hkb : KB z1.heap u27 := KB.of B27.out
      clear h
      refine hK.out _ _ hkb ?_; clear hK K
      try simp only [Act.put, List.setIfInBounds_toArray, List.set_cons_zero, List.set_cons_succ]
      refine btake 28 (oi := _) (v := ?_) (by simp only [getElem?_toArray, getElem?_cons_succ, getElem?_cons_zero]; rfl) (by kernel_rfl) (by exact fun _ _ _ h => h) (by first | assumption | exact KB.refl _) (.inl ⟨by rfl, fun W hW => ?_⟩) ?_; rotate_left
      ·(go_simp; first | done | with_reducible rfl)
      try simp only [Act.put, List.setIfInBounds_toArray, List.set_cons_zero, List.set_cons_succ]
      refine btake 29 (oi := _) (v := ?_) (by simp only [getElem?_toArray, getElem?_cons_succ, getElem?_cons_zero]; rfl) (by kernel_rfl) (by exact fun _ _ _ h => h) (by first | assumption | exact KB.refl _) (.inl ⟨by rfl, fun W hW => ?_⟩) ?_; rotate_left
      ·(go_simp; first | done | with_reducible rfl)
      try simp only [Act.put, List.setIfInBounds_toArray, List.set_cons_zero, List.set_cons_succ]
      refine btake 30 (oi := _) (v := ?_) (by simp only [getElem?_toArray, getElem?_cons_succ, getElem?_cons_zero]; rfl) (by kernel_rfl) (by exact fun _ _ _ h => h) (by first | assumption | exact KB.refl _) (.inl ⟨by rfl, fun W hW => ?_⟩) ?_; rotate_left
      ·(go_simp; first | done | with_reducible rfl)
      try simp only [Act.put, List.setIfInBounds_toArray, List.set_cons_zero, List.set_cons_succ]
      refine btake 31 (oi := _) (v := ?_) (by simp only [getElem?_toArray, getElem?_cons_succ, getElem?_cons_zero]; rfl) (by kernel_rfl) (by exact fun _ _ _ h => h) (by first | assumption | exact KB.refl _) (.inl ⟨by rfl, fun W hW => ?_⟩) ?_; rotate_left
      ·(go_simp; first | done | with_reducible rfl)
      try simp only [Act.put, List.setIfInBounds_toArray, List.set_cons_zero, List.set_cons_succ]
      refine btake 32 (oi := _) (v := ?_) (by simp only [getElem?_toArray, getElem?_cons_succ, getElem?_cons_zero]; rfl) (by kernel_rfl) (by exact fun _ _ _ h => h) (by first | assumption | exact KB.refl _) (.inl ⟨by rfl, fun W hW => ?_⟩) ?_; rotate_left
      ·(go_simp; first | done | with_reducible rfl)
      try simp only [Act.put, List.setIfInBounds_toArray, List.set_cons_zero, List.set_cons_succ]
      refine btake 34 (oi := _) (v := ?_) (by simp only [getElem?_toArray, getElem?_cons_succ, getElem?_cons_zero]; rfl) (by kernel_rfl) (by exact fun _ _ _ h => h) (by first | assumption | exact KB.refl _) (.inl ⟨by rfl, fun W hW => ?_⟩) ?_; rotate_left
      ·(go_simp; first | done | with_reducible rfl)
      try simp only [Act.put, List.setIfInBounds_toArray, List.set_cons_zero, List.set_cons_succ]
      refine btake 35 (oi := _) (v := ?_) (by simp only [getElem?_toArray, getElem?_cons_succ, getElem?_cons_zero]; rfl) (by kernel_rfl) (by exact fun _ _ _ h => h) (by first | assumption | exact KB.refl _) (.inl ⟨by rfl, fun W hW => ?_⟩) ?_; rotate_left
      ·(go_simp; first | done | with_reducible rfl)
      try simp only [Act.put, List.setIfInBounds_toArray, List.set_cons_zero, List.set_cons_succ]
      refine bopH 33 (o := _) (by simp only [getElem?_toArray, getElem?_cons_succ, getElem?_cons_zero]; rfl) (by kernel_rfl) (by first | assumption | exact KB.refl _) (by rfl) (fun K hK => ?_)
      go_simp
      refine ((HVW.out _ B27.out).1.extra (by omega) p hpi).mono ?_
      rintro e u33 ⟨X33, k33, rfl, hs, hn, hc, h⟩
      have B33 := Lib.hid (B27.out.trans (h.mono B27.out.size))
      have hkb : KB z1.heap u33 := KB.of B33.out
      have S33 := Lib.hid (And.intro hs h)
      clear h hs hn hc
      refine hK.out _ _ hkb ?_; clear hK K
      try simp only [Act.put, List.setIfInBounds_toArray, List.set_cons_zero, List.set_cons_succ]
      refine bopH 36 (o := _) (by simp only [getElem?_toArray, getElem?_cons_succ, getElem?_cons_zero]; rfl) (by kernel_rfl) (by first | assumption | exact KB.refl _) (by rfl) (fun K hK => ?_)
      go_simp
      refine ((HVW.out _ B33.out).1.rextra (by omega) p).mono ?_
      rintro e u36 ⟨X36, k36, rfl, hs, hn, hc, h⟩
      have B36 := Lib.hid (B33.out.trans (h.mono B33.out.size))
      have hkb : KB z1.heap u36 := KB.of B36.out
      have S36 := Lib.hid (And.intro hs h)
      clear h hs hn hc
      refine hK.out _ _ hkb ?_; clear hK K
      try simp only [Act.put, List.setIfInBounds_toArray, List.set_cons_zero, List.set_cons_succ]
      refine bopH 37 (o := _) (by simp only [getElem?_toArray, getElem?_cons_succ, getElem?_cons_zero]; rfl) (by kernel_rfl) (by first | assumption | exact KB.refl _) (by rfl) (fun K hK => ?_)
      go_simp
      refine (SameR_any u36 X33 X36 _ _ k33 k36 (extraV V1 p) (extraV V1 p) ((S33.out.1.below S36.out.2).more S36.out.2.size) S36.out.1 rfl rfl (by have := HEX.out; omega) (by have := HEX.out; omega) (Nat.le_refl _) (Nat.le_refl _)).mono ?_
      rintro e u37 ⟨rfl, h⟩
      rw [decide_eq_true rfl]
      have B37 := Lib.hid (B36.out.trans (h.mono B36.out.size))
      have hkb : KB z1.heap u37 := KB.of B37.out
      clear h
      refine hK.out _ _ hkb ?_; clear hK K
      try simp only [Act.put, List.setIfInBounds_toArray, List.set_cons_zero, List.set_cons_succ]
      refine btake 38 (oi := _) (v := ?_) (by simp only [getElem?_toArray, getElem?_cons_succ, getElem?_cons_zero]; rfl) (by kernel_rfl) (by exact fun _ _ _ h => h) (by first | assumption | exact KB.refl _) (.inl ⟨by rfl, fun W hW => ?_⟩) ?_; rotate_left
      ·(go_simp; first | done | with_reducible rfl)
      try simp only [Act.put, List.setIfInBounds_toArray, List.set_cons_zero, List.set_cons_succ]
      refine btake 39 (oi := _) (v := ?_) (by simp only [getElem?_toArray, getElem?_cons_succ, getElem?_cons_zero]; rfl) (by kernel_rfl) (by exact fun _ _ _ h => h) (by first | assumption | exact KB.refl _) (.inl ⟨by rfl, fun W hW => ?_⟩) ?_; rotate_left
      ·(go_simp; first | done | with_reducible rfl)
      try simp only [Act.put, List.setIfInBounds_toArray, List.set_cons_zero, List.set_cons_succ]
      refine bdone (by kernel_rfl) ?_
      have HN := Lib.hid (And.intro (HY.out.1.below B37.out) (And.intro (HY.out.2.1.below B37.out) (And.intro (HY.out.2.2.1.below B37.out) (And.intro (HY.out.2.2.2.1.below B37.out) (And.intro (HY.out.2.2.2.2.1.below B37.out) (HY.out.2.2.2.2.2.trans (B37.out.mono HY.out.2.2.2.2.2.size)))))))
      clear e9 e10 e6 e6' hkb hb0 HVW B1 B3 B8 B11 B16 B18 B24 B27 B33 B36 B37 S33 S36 HEX
      have HVW := Lib.hid (fun W' (hW : Below u37.heap.size u37 W') => And.intro (HN.out.1.below hW) (HN.out.2.1.below hW))
      have e9 := HN.out.2.2.1.e 0 rfl
      have e10 := HN.out.2.2.2.1.e 0 rfl
      have e6 := HN.out.2.2.2.2.1.e 0 rfl
      have e6' := HN.out.2.2.2.2.1.e 1 rfl
      have hb0 : Below u37.heap.size u37 u37.drew := (Below.refl _ u37).drew
      go_wp2_with fail
      refine bstartH (u37.heap) (by kernel_rfl) ?_
      refine btake 0 (oi := _) (v := ?_) (by simp only [List.getElem?_toArray, List.getElem?_cons_zero]; rfl) (by kernel_rfl) (by exact fun _ _ _ h => h) (by first | assumption | exact KB.refl _) (.inl ⟨by rfl, fun W hW => ?_⟩) ?_; rotate_left
      ·(go_simp; first | done | with_reducible rfl)
      try simp only [Act.put, List.setIfInBounds_toArray, List.set_cons_zero, List.set_cons_succ]
      refine btake 1 (oi := _) (v := ?_) (by simp only [getElem?_toArray, getElem?_cons_succ, getElem?_cons_zero]; rfl) (by kernel_rfl) (by exact fun _ _ _ h => h) (by first | assumption | exact KB.refl _) (.inl ⟨by rfl, fun W hW => ?_⟩) ?_; rotate_left
      ·(go_simp; first | done | with_reducible rfl)
      try simp only [Act.put, List.setIfInBounds_toArray, List.set_cons_zero, List.set_cons_succ]
      refine btake 3 (oi := _) (v := ?_) (by simp only [getElem?_toArray, getElem?_cons_succ, getElem?_cons_zero]; rfl) (by kernel_rfl) (by exact fun _ _ _ h => h) (by first | assumption | exact KB.refl _) (.inl ⟨by rfl, fun W hW => ?_⟩) ?_; rotate_left
      ·(go_simp; first | done | with_reducible rfl)
      try simp only [Act.put, List.setIfInBounds_toArray, List.set_cons_zero, List.set_cons_succ]
      refine btake 4 (oi := _) (v := ?_) (by simp only [getElem?_toArray, getElem?_cons_succ, getElem?_cons_zero]; rfl) (by kernel_rfl) (by exact fun _ _ _ h => h) (by first | assumption | exact KB.refl _) (.inl ⟨by rfl, fun W hW => ?_⟩) ?_; rotate_left
      ·(go_simp; first | done | with_reducible rfl)
      try simp only [Act.put, List.setIfInBounds_toArray, List.set_cons_zero, List.set_cons_succ]
      refine bopH 2 (o := _) (by simp only [getElem?_toArray, getElem?_cons_succ, getElem?_cons_zero]; rfl) (by kernel_rfl) (by first | assumption | exact KB.refl _) (by rfl) (fun K hK => ?_)
      go_simp
      refine ((HVW.out _ hb0).1.add (by omega) dr dq).mono ?_
      rintro e t2 ⟨X2, m2, k2, rfl, hs, h⟩
      have B2 := Lib.hid (hb0.trans (h.mono hb0.size))
      have hkb : KB u37.heap t2 := KB.of B2.out
      have S2 := Lib.hid (And.intro hs h)
      clear h hs
      refine hK.out _ _ hkb ?_; clear hK K
      try simp only [Act.put, List.setIfInBounds_toArray, List.set_cons_zero, List.set_cons_succ]
      refine bopH 5 (o := _) (by simp only [getElem?_toArray, getElem?_cons_succ, getElem?_cons_zero]; rfl) (by kernel_rfl) (by first | assumption | exact KB.refl _) (by rfl) (fun K hK => ?_)
      go_simp
      refine ((HVW.out _ B2.out).1.radd (by omega) dr dq).mono ?_
      rintro e t5 ⟨X5, m5, k5, rfl, hs, h⟩
      have B5 := Lib.hid (B2.out.trans (h.mono B2.out.size))
      have hkb : KB u37.heap t5 := KB.of B5.out
      have S5 := Lib.hid (And.intro hs h)
      clear h hs
      refine hK.out _ _ hkb ?_; clear hK K
      try simp only [Act.put, List.setIfInBounds_toArray, List.set_cons_zero, List.set_cons_succ]
      refine bopH 6 (o := _) (by simp only [getElem?_toArray, getElem?_cons_succ, getElem?_cons_zero]; rfl) (by kernel_rfl) (by first | assumption | exact KB.refl _) (by rfl) (fun K hK => ?_)
      go_simp
      refine ((S2.out.1.below S5.out.2).rsame S5.out.1 (by omega) (by omega)).mono ?_
      rintro e t6 ⟨rfl, h⟩
      rw [decide_eq_true rfl]
      have B6 := Lib.hid (B5.out.trans (h.mono B5.out.size))
      have hkb : KB u37.heap t6 := KB.of B6.out
      clear h
      refine hK.out _ _ hkb ?_; clear hK K
      try simp only [Act.put, List.setIfInBounds_toArray, List.set_cons_zero, List.set_cons_succ]
      refine btake 7 (oi := _) (v := ?_) (by simp only [getElem?_toArray, getElem?_cons_succ, getElem?_cons_zero]; rfl) (by kernel_rfl) (by exact fun _ _ _ h => h) (by first | assumption | exact KB.refl _) (.inl ⟨by rfl, fun W hW => ?_⟩) ?_; rotate_left
      ·(go_simp; first | done | with_reducible rfl)
      try simp only [Act.put, List.setIfInBounds_toArray, List.set_cons_zero, List.set_cons_succ]
      refine btake 8 (oi := _) (v := ?_) (by simp only [getElem?_toArray, getElem?_cons_succ, getElem?_cons_zero]; rfl) (by kernel_rfl) (by exact fun _ _ _ h => h) (by first | assumption | exact KB.refl _) (.inl ⟨by rfl, fun W hW => ?_⟩) ?_; rotate_left
      ·(go_simp; first | done | with_reducible rfl)
      try simp only [Act.put, List.setIfInBounds_toArray, List.set_cons_zero, List.set_cons_succ]
      refine btake 9 (oi := _) (v := ?_) (by simp only [getElem?_toArray, getElem?_cons_succ, getElem?_cons_zero]; rfl) (by kernel_rfl) (by exact fun _ _ _ h => h) (by first | assumption | exact KB.refl _) (.inl ⟨by rfl, fun W hW => ?_⟩) ?_; rotate_left
      ·(go_simp; first | done | with_reducible rfl)
      try simp only [Act.put, List.setIfInBounds_toArray, List.set_cons_zero, List.set_cons_succ]
      refine btake 10 (oi := _) (v := ?_) (by simp only [getElem?_toArray, getElem?_cons_succ, getElem?_cons_zero]; rfl) (by kernel_rfl) (by exact fun _ _ _ h => h) (by first | assumption | exact KB.refl _) (.inl ⟨by rfl, fun W hW => ?_⟩) ?_; rotate_left
      ·(go_simp; first | done | with_reducible rfl)
      try simp only [Act.put, List.setIfInBounds_toArray, List.set_cons_zero, List.set_cons_succ]
      refine btake 12 (oi := _) (v := ?_) (by simp only [getElem?_toArray, getElem?_cons_succ, getElem?_cons_zero]; rfl) (by kernel_rfl) (by exact fun _ _ _ h => h) (by first | assumption | exact KB.refl _) (.inl ⟨by rfl, fun W hW => ?_⟩) ?_; rotate_left
      ·(go_simp; first | done | with_reducible rfl)
      try simp only [Act.put, List.setIfInBounds_toArray, List.set_cons_zero, List.set_cons_succ]
      refine btake 13 (oi := _) (v := ?_) (by simp only [getElem?_toArray, getElem?_cons_succ, getElem?_cons_zero]; rfl) (by kernel_rfl) (by exact fun _ _ _ h => h) (by first | assumption | exact KB.refl _) (.inl ⟨by rfl, fun W hW => ?_⟩) ?_; rotate_left
      ·(go_simp; first | done | with_reducible rfl)
      try simp only [Act.put, List.setIfInBounds_toArray, List.set_cons_zero, List.set_cons_succ]
      refine bopH 11 (o := _) (by simp only [getElem?_toArray, getElem?_cons_succ, getElem?_cons_zero]; rfl) (by kernel_rfl) (by first | assumption | exact KB.refl _) (by rfl) (fun K hK => ?_)
      go_simp
      refine ((HVW.out _ B6.out).1.join (HVW.out _ B6.out).2 (by omega) (by omega)).mono ?_
      rintro e t11 ⟨X11, m11, k11, rfl, hs, h⟩
      have B11 := Lib.hid (B6.out.trans (h.mono B6.out.size))
      have hkb : KB u37.heap t11 := KB.of B11.out
      have S11 := Lib.hid (And.intro hs h)
      clear h hs
      refine hK.out _ _ hkb ?_; clear hK K
      try simp only [Act.put, List.setIfInBounds_toArray, List.set_cons_zero, List.set_cons_succ]
      refine bopH 14 (o := _) (by simp only [getElem?_toArray, getElem?_cons_succ, getElem?_cons_zero]; rfl) (by kernel_rfl) (by first | assumption | exact KB.refl _) (by rfl) (fun K hK => ?_)
      go_simp
      refine ((HVW.out _ B11.out).1.rjoin (HVW.out _ B11.out).2 (by omega) (by omega)).mono ?_
      rintro e t14 ⟨X14, m14, k14, rfl, hs, h⟩
      have B14 := Lib.hid (B11.out.trans (h.mono B11.out.size))
      have hkb : KB u37.heap t14 := KB.of B14.out
      have S14 := Lib.hid (And.intro hs h)
      clear h hs
      refine hK.out _ _ hkb ?_; clear hK K
      try simp only [Act.put, List.setIfInBounds_toArray, List.set_cons_zero, List.set_cons_succ]
      refine bopH 15 (o := _) (by simp only [getElem?_toArray, getElem?_cons_succ, getElem?_cons_zero]; rfl) (by kernel_rfl) (by first | assumption | exact KB.refl _) (by rfl) (fun K hK => ?_)
      go_simp
      refine ((S11.out.1.below S14.out.2).rsame S14.out.1 (by omega) (by omega)).mono ?_
      rintro e t15 ⟨rfl, h⟩
      rw [decide_eq_true rfl]
      have B15 := Lib.hid (B14.out.trans (h.mono B14.out.size))
      have hkb : KB u37.heap t15 := KB.of B15.out
      clear h
      refine hK.out _ _ hkb ?_; clear hK K
      try simp only [Act.put, List.setIfInBounds_toArray, List.set_cons_zero, List.set_cons_succ]
      refine btake 16 (oi := _) (v := ?_) (by simp only [getElem?_toArray, getElem?_cons_succ, getElem?_cons_zero]; rfl) (by kernel_rfl) (by exact fun _ _ _ h => h) (by first | assumption | exact KB.refl _) (.inl ⟨by rfl, fun W hW => ?_⟩) ?_; rotate_left
      ·(go_simp; first | done | with_reducible rfl)
      try simp only [Act.put, List.setIfInBounds_toArray, List.set_cons_zero, List.set_cons_succ]
      refine btake 17 (oi := _) (v := ?_) (by simp only [getElem?_toArray, getElem?_cons_succ, getElem?_cons_zero]; rfl) (by kernel_rfl) (by exact fun _ _ _ h => h) (by first | assumption | exact KB.refl _) (.inl ⟨by rfl, fun W hW => ?_⟩) ?_; rotate_left
      ·(go_simp; first | done | with_reducible rfl)
      try simp only [Act.put, List.setIfInBounds_toArray, List.set_cons_zero, List.set_cons_succ]
      refine btake 18 (oi := _) (v := ?_) (by simp only [getElem?_toArray, getElem?_cons_succ, getElem?_cons_zero]; rfl) (by kernel_rfl) (by exact fun _ _ _ h => h) (by first | assumption | exact KB.refl _) (.inl ⟨by rfl, fun W hW => ?_⟩) ?_; rotate_left
      ·(go_simp; first | done | with_reducible rfl)
      try simp only [Act.put, List.setIfInBounds_toArray, List.set_cons_zero, List.set_cons_succ]
      refine btake 19 (oi := _) (v := ?_) (by simp only [getElem?_toArray, getElem?_cons_succ, getElem?_cons_zero]; rfl) (by kernel_rfl) (by exact fun _ _ _ h => h) (by first | assumption | exact KB.refl _) (.inl ⟨by rfl, fun W hW => ?_⟩) ?_; rotate_left
      ·(go_simp; first | done | with_reducible rfl)
      try simp only [Act.put, List.setIfInBounds_toArray, List.set_cons_zero, List.set_cons_succ]
      refine btake 20 (oi := _) (v := ?_) (by simp only [getElem?_toArray, getElem?_cons_succ, getElem?_cons_zero]; rfl) (by kernel_rfl) (by exact fun _ _ _ h => h) (by first | assumption | exact KB.refl _) (.inl ⟨by rfl, fun W hW => ?_⟩) ?_; rotate_left
      ·(go_simp; first | done | with_reducible rfl)
      try simp only [Act.put, List.setIfInBounds_toArray, List.set_cons_zero, List.set_cons_succ]
      refine btake 22 (oi := _) (v := ?_) (by simp only [getElem?_toArray, getElem?_cons_succ, getElem?_cons_zero]; rfl) (by kernel_rfl) (by exact fun _ _ _ h => h) (by first | assumption | exact KB.refl _) (.inl ⟨by rfl, fun W hW => ?_⟩) ?_; rotate_left
      ·(go_simp; first | done | with_reducible rfl)
      try simp only [Act.put, List.setIfInBounds_toArray, List.set_cons_zero, List.set_cons_succ]
      refine btake 23 (oi := _) (v := ?_) (by simp only [getElem?_toArray, getElem?_cons_succ, getElem?_cons_zero]; rfl) (by kernel_rfl) (by exact fun _ _ _ h => h) (by first | assumption | exact KB.refl _) (.inl ⟨by rfl, fun W hW => ?_⟩) ?_; rotate_left
      ·(go_simp; first | done | with_reducible rfl)
      try simp only [Act.put, List.setIfInBounds_toArray, List.set_cons_zero, List.set_cons_succ]
      refine bopH 21 (o := _) (by simp only [getElem?_toArray, getElem?_cons_succ, getElem?_cons_zero]; rfl) (by kernel_rfl) (by first | assumption | exact KB.refl _) (by rfl) (fun K hK => ?_)
      go_simp
      refine ((HVW.out _ B15.out).1.minus (HVW.out _ B15.out).2 (by omega) (by omega)).mono ?_
      rintro e t21 ⟨X21, m21, k21, rfl, hs, h⟩
      have B21 := Lib.hid (B15.out.trans (h.mono B15.out.size))
      have hkb : KB u37.heap t21 := KB.of B21.out
      have S21 := Lib.hid (And.intro hs h)
      clear h hs
      refine hK.out _ _ hkb ?_; clear hK K
      try simp only [Act.put, List.setIfInBounds_toArray, List.set_cons_zero, List.set_cons_succ]
      refine bopH 24 (o := _) (by simp only [getElem?_toArray, getElem?_cons_succ, getElem?_cons_zero]; rfl) (by kernel_rfl) (by first | assumption | exact KB.refl _) (by rfl) (fun K hK => ?_)
      go_simp
      refine ((HVW.out _ B21.out).1.rminus (HVW.out _ B21.out).2 (by omega) (by omega)).mono ?_
      rintro e t24 ⟨X24, m24, k24, rfl, hs, h⟩
      have B24 := Lib.hid (B21.out.trans (h.mono B21.out.size))
      have hkb : KB u37.heap t24 := KB.of B24.out
      have S24 := Lib.hid (And.intro hs h)
      clear h hs
      refine hK.out _ _ hkb ?_; clear hK K
      try simp only [Act.put, List.setIfInBounds_toArray, List.set_cons_zero, List.set_cons_succ]
      refine bopH 25 (o := _) (by simp only [getElem?_toArray, getElem?_cons_succ, getElem?_cons_zero]; rfl) (by kernel_rfl) (by first | assumption | exact KB.refl _) (by rfl) (fun K hK => ?_)
      go_simp
      refine ((S21.out.1.below S24.out.2).rsame S24.out.1 (by omega) (by omega)).mono ?_
      rintro e t25 ⟨rfl, h⟩
      rw [decide_eq_true rfl]
      have B25 := Lib.hid (B24.out.trans (h.mono B24.out.size))
      have hkb : KB u37.heap t25 := KB.of B25.out
      clear h
      refine hK.out _ _ hkb ?_; clear hK K
      try simp only [Act.put, List.setIfInBounds_toArray, List.set_cons_zero, List.set_cons_succ]
      refine btake 26 (oi := _) (v := ?_) (by simp only [getElem?_toArray, getElem?_cons_succ, getElem?_cons_zero]; rfl) (by kernel_rfl) (by exact fun _ _ _ h => h) (by first | assumption | exact KB.refl _) (.inl ⟨by rfl, fun W hW => ?_⟩) ?_; rotate_left
      ·(go_simp; first | done | with_reducible rfl)
      try simp only [Act.put, List.setIfInBounds_toArray, List.set_cons_zero, List.set_cons_succ]
      refine btake 27 (oi := _) (v := ?_) (by simp only [getElem?_toArray, getElem?_cons_succ, getElem?_cons_zero]; rfl) (by kernel_rfl) (by exact fun _ _ _ h => h) (by first | assumption | exact KB.refl _) (.inl ⟨by rfl, fun W hW => ?_⟩) ?_; rotate_left
      ·(go_simp; first | done | with_reducible rfl)
      try simp only [Act.put, List.setIfInBounds_toArray, List.set_cons_zero, List.set_cons_succ]
      refine btake 28 (oi := _) (v := ?_) (by simp only [getElem?_toArray, getElem?_cons_succ, getElem?_cons_zero]; rfl) (by kernel_rfl) (by exact fun _ _ _ h => h) (by first | assumption | exact KB.refl _) (.inl ⟨by rfl, fun W hW => ?_⟩) ?_; rotate_left
      ·(go_simp; first | done | with_reducible rfl)
      try simp only [Act.put, List.setIfInBounds_toArray, List.set_cons_zero, List.set_cons_succ]
      refine btake 29 (oi := _) (v := ?_) (by simp only [getElem?_toArray, getElem?_cons_succ, getElem?_cons_zero]; rfl) (by kernel_rfl) (by exact fun _ _ _ h => h) (by first | assumption | exact KB.refl _) (.inl ⟨by rfl, fun W hW => ?_⟩) ?_; rotate_left
      ·(go_simp; first | done | with_reducible rfl)
      try simp only [Act.put, List.setIfInBounds_toArray, List.set_cons_zero, List.set_cons_succ]
      refine btake 30 (oi := _) (v := ?_) (by simp only [getElem?_toArray, getElem?_cons_succ, getElem?_cons_zero]; rfl) (by kernel_rfl) (by exact fun _ _ _ h => h) (by first | assumption | exact KB.refl _) (.inl ⟨by rfl, fun W hW => ?_⟩) ?_; rotate_left
      ·(go_simp; first | done | with_reducible rfl)
      try simp only [Act.put, List.setIfInBounds_toArray, List.set_cons_zero, List.set_cons_succ]
      refine btake 32 (oi := _) (v := ?_) (by simp only [getElem?_toArray, getElem?_cons_succ, getElem?_cons_zero]; rfl) (by kernel_rfl) (by exact fun _ _ _ h => h) (by first | assumption | exact KB.refl _) (.inl ⟨by rfl, fun W hW => ?_⟩) ?_; rotate_left
      ·(go_simp; first | done | with_reducible rfl)
      try simp only [Act.put, List.setIfInBounds_toArray, List.set_cons_zero, List.set_cons_succ]
      refine bopH 31 (o := _) (by simp only [getElem?_toArray, getElem?_cons_succ, getElem?_cons_zero]; rfl) (by kernel_rfl) (by first | assumption | exact KB.refl _) (by rfl) (fun K hK => ?_)
      go_simp
      refine ((HVW.out _ B25.out).1.same (HVW.out _ B25.out).2 (by omega) (by omega)).mono ?_
      rintro e t31 ⟨rfl, h⟩
      rw [HSM.out]
      have B31 := Lib.hid (B25.out.trans (h.mono B25.out.size))
      have hkb : KB u37.heap t31 := KB.of B31.out
      clear h
      refine hK.out _ _ hkb ?_; clear hK K
      try simp only [Act.put, List.setIfInBounds_toArray, List.set_cons_zero, List.set_cons_succ]
      refine btake 33 (oi := _) (v := ?_) (by simp only [getElem?_toArray, getElem?_cons_succ, getElem?_cons_zero]; rfl) (by kernel_rfl) (by exact fun _ _ _ h => h) (by first | assumption | exact KB.refl _) (.inl ⟨by rfl, fun W hW => ?_⟩) ?_; rotate_left
      ·(go_simp; first | done | with_reducible rfl)
      try simp only [Act.put, List.setIfInBounds_toArray, List.set_cons_zero, List.set_cons_succ]
      refine btake 34 (oi := _) (v := undef) (by simp only [getElem?_toArray, getElem?_cons_succ, getElem?_cons_zero]; rfl) (by kernel_rfl) (by exact fun _ _ _ h => h) (by first | assumption | exact KB.refl _) (.inr ⟨by rfl, rfl⟩) ?_
      try simp only [Act.put, List.setIfInBounds_toArray, List.set_cons_zero, List.set_cons_succ]
      refine btake 35 (oi := _) (v := undef) (by simp only [getElem?_toArray, getElem?_cons_succ, getElem?_cons_zero]; rfl) (by kernel_rfl) (by exact fun _ _ _ h => h) (by first | assumption | exact KB.refl _) (.inr ⟨by rfl, rfl⟩) ?_
      try simp only [Act.put, List.setIfInBounds_toArray, List.set_cons_zero, List.set_cons_succ]
      refine btake 36 (oi := _) (v := undef) (by simp only [getElem?_toArray, getElem?_cons_succ, getElem?_cons_zero]; rfl) (by kernel_rfl) (by exact fun _ _ _ h => h) (by first | assumption | exact KB.refl _) (.inr ⟨by rfl, rfl⟩) ?_
      try simp only [Act.put, List.setIfInBounds_toArray, List.set_cons_zero, List.set_cons_succ]
      refine btake 37 (oi := _) (v := ?_) (by simp only [getElem?_toArray, getElem?_cons_succ, getElem?_cons_zero]; rfl) (by kernel_rfl) (by exact fun _ _ _ h => h) (by first | assumption | exact KB.refl _) (.inl ⟨by rfl, fun W hW => ?_⟩) ?_; rotate_left
      ·(go_simp; first | done | with_reducible rfl)
      try simp only [Act.put, List.setIfInBounds_toArray, List.set_cons_zero, List.set_cons_succ]
      refine btake 38 (oi := _) (v := ?_) (by simp only [getElem?_toArray, getElem?_cons_succ, getElem?_cons_zero]; rfl) (by kernel_rfl) (by exact fun _ _ _ h => h) (by first | assumption | exact KB.refl _) (.inl ⟨by rfl, fun W hW => ?_⟩) ?_; rotate_left
      ·(go_simp; first | done | with_reducible rfl)
      try simp only [Act.put, List.setIfInBounds_toArray, List.set_cons_zero, List.set_cons_succ]
      refine btake 39 (oi := _) (v := ?_) (by simp only [getElem?_toArray, getElem?_cons_succ, getElem?_cons_zero]; rfl) (by kernel_rfl) (by exact fun _ _ _ h => h) (by first | assumption | exact KB.refl _) (.inl ⟨by rfl, fun W hW => ?_⟩) ?_; rotate_left
      ·(go_simp; first | done | with_reducible rfl)
      try simp only [Act.put, List.setIfInBounds_toArray, List.set_cons_zero, List.set_cons_succ]
      refine bdone (by kernel_rfl) ?_
      have hbz := HN.out.2.2.2.2.2.trans (B31.out.mono HN.out.2.2.2.2.2.size)
      clear e9 e10 e6 e6' hkb hb0 HVW
      go_wp2_with fail
      go_roundw
      case rel => exact ⟨k + 1, by omega, by go_num, hbz⟩
      case measure => simp [intOf]; omega
     | true =>
      have y10 := HY.out.2.2.2.1.c 0 rfl
      go_wp2_with fail
      refine (HY.out.2.1.rright (by omega)).mono ?_
      rintro e z2 ⟨rfl, h2⟩
      rw [HP.out.2]
      have HW := Lib.hid (And.intro (HY.out.1.below h2) (And.intro (HY.out.2.1.below h2) (And.intro (HY.out.2.2.1.below h2) (And.intro (HY.out.2.2.2.1.below h2) (And.intro (HY.out.2.2.2.2.1.below h2) (HY.out.2.2.2.2.2.trans (h2.mono HY.out.2.2.2.2.2.size)))))))
      clear h2 y10 HY
      cases p2 with
      | false =>
       have HSM := Lib.hid (show sameV V1 V2 = false by rw [sameV, HP.out.2]; simp)
       have HVW := Lib.hid (fun W' (hW : Below z2.heap.size z2 W') => And.intro (HW.out.1.below hW) (HW.out.2.1.below hW))
       have e9 := HW.out.2.2.1.e 0 rfl
       have e10 := HW.out.2.2.2.1.e 0 rfl
       have e6 := HW.out.2.2.2.2.1.e 0 rfl
       have e6' := HW.out.2.2.2.2.1.e 1 rfl
       have hb0 : Below z2.heap.size z2 z2.drew := (Below.refl _ z2).drew
       have hex := fun m (hl : Lim m V1) => extraV_len hl p
       have HEX := Lib.hid (show (extraV V1 p).length ≤ 20 from by obtain ⟨_, _, _, h3⟩ := HW.out.1; exact extraV_len h3 p)
       clear hex
       go_wp2_with fail
       refine bstartH (z2.heap) (by kernel_rfl) ?_
       refine btake 0 (oi := _) (v := ?_) (by simp only [List.getElem?_toArray, List.getElem?_cons_zero]; rfl) (by kernel_rfl) (by exact fun _ _ _ h => h) (by first | assumption | exact KB.refl _) (.inl ⟨by rfl, fun W hW => ?_⟩) ?_; rotate_left
       ·(go_simp; first | done | with_reducible rfl)
       try simp only [Act.put, List.setIfInBounds_toArray, List.set_cons_zero, List.set_cons_succ]
       refine btake 2 (oi := _) (v := ?_) (by simp only [getElem?_toArray, getElem?_cons_succ, getElem?_cons_zero]; rfl) (by kernel_rfl) (by exact fun _ _ _ h => h) (by first | assumption | exact KB.refl _) (.inl ⟨by rfl, fun W hW => ?_⟩) ?_; rotate_left
       ·(go_simp; first | done | with_reducible rfl)
       try simp only [Act.put, List.setIfInBounds_toArray, List.set_cons_zero, List.set_cons_succ]
       refine bopH 1 (o := _) (by simp only [getElem?_toArray, getElem?_cons_succ, getElem?_cons_zero]; rfl) (by kernel_rfl) (by first | assumption | exact KB.refl _) (by rfl) (fun K hK => ?_)
       go_simp
       refine ((HVW.out _ hb0).1.right (by omega)).mono ?_
       rintro e u1 ⟨rfl, h⟩
       rw [HP.out.1]
       have B1 := Lib.hid (hb0.trans (h.mono hb0.size))
       have hkb : KB z2.heap u1 := KB.of B1.out
       clear h
       refine hK.out _ _ hkb ?_; clear hK K
       try simp only [Act.put, List.setIfInBounds_toArray, List.set_cons_zero, List.set_cons_succ]
       refine bopH 3 (o := _) (by simp only [getElem?_toArray, getElem?_cons_succ, getElem?_cons_zero]; rfl) (by kernel_rfl) (by first | assumption | exact KB.refl _) (by rfl) (fun K hK => ?_)
       go_simp
       refine ((HVW.out _ B1.out).1.rright (by omega)).mono ?_
       rintro e u3 ⟨rfl, h⟩
       rw [HP.out.1]
       have B3 := Lib.hid (B1.out.trans (h.mono B1.out.size))
       have hkb : KB z2.heap u3 := KB.of B3.out
       clear h
       refine hK.out _ _ hkb ?_; clear hK K
       try simp only [Act.put, List.setIfInBounds_toArray, List.set_cons_zero, List.set_cons_succ]
       refine btake 4 (oi := _) (v := ?_) (by simp only [getElem?_toArray, getElem?_cons_succ, getElem?_cons_zero]; rfl) (by kernel_rfl) (by exact fun _ _ _ h => h) (by first | assumption | exact KB.refl _) (.inl ⟨by rfl, fun W hW => ?_⟩) ?_; rotate_left
       ·(go_simp; first | done | with_reducible rfl)
       try simp only [Act.put, List.setIfInBounds_toArray, List.set_cons_zero, List.set_cons_succ]
       refine btake 5 (oi := _) (v := ?_) (by simp only [getElem?_toArray, getElem?_cons_succ, getElem?_cons_zero]; rfl) (by kernel_rfl) (by exact fun _ _ _ h => h) (by first | assumption | exact KB.refl _) (.inl ⟨by rfl, fun W hW => ?_⟩) ?_; rotate_left
       ·(go_simp; first | done | with_reducible rfl)
       try simp only [Act.put, List.setIfInBounds_toArray, List.set_cons_zero, List.set_cons_succ]
       refine btake 6 (oi := _) (v := ?_) (by simp only [getElem?_toArray, getElem?_cons_succ, getElem?_cons_zero]; rfl) (by kernel_rfl) (by exact fun _ _ _ h => h) (by first | assumption | exact KB.refl _) (.inl ⟨by rfl, fun W hW => ?_⟩) ?_; rotate_left
       ·(go_simp; first | done | with_reducible rfl)
       try simp only [Act.put, List.setIfInBounds_toArray, List.set_cons_zero, List.set_cons_succ]
       refine btake 7 (oi := _) (v := ?_) (by simp only [getElem?_toArray, getElem?_cons_succ, getElem?_cons_zero]; rfl) (by kernel_rfl) (by exact fun _ _ _ h => h) (by first | assumption | exact KB.refl _) (.inl ⟨by rfl, fun W hW => ?_⟩) ?_; rotate_left
       ·(go_simp; first | done | with_reducible rfl)
       try simp only [Act.put, List.setIfInBounds_toArray, List.set_cons_zero, List.set_cons_succ]
       refine btake 9 (oi := _) (v := ?_) (by simp only [getElem?_toArray, getElem?_cons_succ, getElem?_cons_zero]; rfl) (by kernel_rfl) (by exact fun _ _ _ h => h) (by first | assumption | exact KB.refl _) (.inl ⟨by rfl, fun W hW => ?_⟩) ?_; rotate_left
       ·(go_simp; first | done | with_reducible rfl)
       try simp only [Act.put, List.setIfInBounds_toArray, List.set_cons_zero, List.set_cons_succ]
       refine btake 10 (oi := _) (v := ?_) (by simp only [getElem?_toArray, getElem?_cons_succ, getElem?_cons_zero]; rfl) (by kernel_rfl) (by exact fun _ _ _ h => h) (by first | assumption | exact KB.refl _) (.inl ⟨by rfl, fun W hW => ?_⟩) ?_; rotate_left
       ·(go_simp; first | done | with_reducible rfl)
       try simp only [Act.put, List.setIfInBounds_toArray, List.set_cons_zero, List.set_cons_succ]
       refine bopH 8 (o := _) (by simp only [getElem?_toArray, getElem?_cons_succ, getElem?_cons_zero]; rfl) (by kernel_rfl) (by first | assumption | exact KB.refl _) (by rfl) (fun K hK => ?_)
       go_simp
       refine ((HVW.out _ B3.out).1.has (by omega) dr dq hdr).mono ?_
       rintro e u8 ⟨rfl, h⟩
       have B8 := Lib.hid (B3.out.trans (h.mono B3.out.size))
       have hkb : KB z2.heap u8 := KB.of B8.out
       clear h
       refine hK.out _ _ hkb ?_; clear hK K
       try simp only [Act.put, List.setIfInBounds_toArray, List.set_cons_zero, List.set_cons_succ]
       refine bopH 11 (o := _) (by simp only [getElem?_toArray, getElem?_cons_succ, getElem?_cons_zero]; rfl) (by kernel_rfl) (by first | assumption | exact KB.refl _) (by rfl) (fun K hK => ?_)
       go_simp
       refine ((HVW.out _ B8.out).1.rhas (by omega) dr dq).mono ?_
       rintro e u11 ⟨rfl, h⟩
       have B11 := Lib.hid (B8.out.trans (h.mono B8.out.size))
       have hkb : KB z2.heap u11 := KB.of B11.out
       clear h
       refine hK.out _ _ hkb ?_; clear hK K
       try simp only [Act.put, List.setIfInBounds_toArray, List.set_cons_zero, List.set_cons_succ]
       refine btake 12 (oi := _) (v := ?_) (by simp only [getElem?_toArray, getElem?_cons_succ, getElem?_cons_zero]; rfl) (by kernel_rfl) (by exact fun _ _ _ h => h) (by first | assumption | exact KB.refl _) (.inl ⟨by rfl, fun W hW => ?_⟩) ?_; rotate_left
       ·(go_simp; first | done | with_reducible rfl)
       try simp only [Act.put, List.setIfInBounds_toArray, List.set_cons_zero, List.set_cons_succ]
       refine btake 13 (oi := _) (v := ?_) (by simp only [getElem?_toArray, getElem?_cons_succ, getElem?_cons_zero]; rfl) (by kernel_rfl) (by exact fun _ _ _ h => h) (by first | assumption | exact KB.refl _) (.inl ⟨by rfl, fun W hW => ?_⟩) ?_; rotate_left
       ·(go_simp; first | done | with_reducible rfl)
       try simp only [Act.put, List.setIfInBounds_toArray, List.set_cons_zero, List.set_cons_succ]
       refine btake 14 (oi := _) (v := ?_) (by simp only [getElem?_toArray, getElem?_cons_succ, getElem?_cons_zero]; rfl) (by kernel_rfl) (by exact fun _ _ _ h => h) (by first | assumption | exact KB.refl _) (.inl ⟨by rfl, fun W hW => ?_⟩) ?_; rotate_left
       ·(go_simp; first | done | with_reducible rfl)
       try simp only [Act.put, List.setIfInBounds_toArray, List.set_cons_zero, List.set_cons_succ]
       refine btake 15 (oi := _) (v := ?_) (by simp only [getElem?_toArray, getElem?_cons_succ, getElem?_cons_zero]; rfl) (by kernel_rfl) (by exact fun _ _ _ h => h) (by first | assumption | exact KB.refl _) (.inl ⟨by rfl, fun W hW => ?_⟩) ?_; rotate_left
       ·(go_simp; first | done | with_reducible rfl)
       try simp only [Act.put, List.setIfInBounds_toArray, List.set_cons_zero, List.set_cons_succ]
       refine btake 17 (oi := _) (v := ?_) (by simp only [getElem?_toArray, getElem?_cons_succ, getElem?_cons_zero]; rfl) (by kernel_rfl) (by exact fun _ _ _ h => h) (by first | assumption | exact KB.refl _) (.inl ⟨by rfl, fun W hW => ?_⟩) ?_; rotate_left
       ·(go_simp; first | done | with_reducible rfl)
       try simp only [Act.put, List.setIfInBounds_toArray, List.set_cons_zero, List.set_cons_succ]
       refine bopH 16 (o := _) (by simp only [getElem?_toArray, getElem?_cons_succ, getElem?_cons_zero]; rfl) (by kernel_rfl) (by first | assumption | exact KB.refl _) (by rfl) (fun K hK => ?_)
       go_simp
       refine ((HVW.out _ B11.out).1.count (by omega)).mono ?_
       rintro e u16 ⟨rfl, h⟩
       have B16 := Lib.hid (B11.out.trans (h.mono B11.out.size))
       have hkb : KB z2.heap u16 := KB.of B16.out
       clear h
       refine hK.out _ _ hkb ?_; clear hK K
       try simp only [Act.put, List.setIfInBounds_toArray, List.set_cons_zero, List.set_cons_succ]
       refine bopH 18 (o := _) (by simp only [getElem?_toArray, getElem?_cons_succ, getElem?_cons_zero]; rfl) (by kernel_rfl) (by first | assumption | exact KB.refl _) (by rfl) (fun K hK => ?_)
       go_simp
       refine ((HVW.out _ B16.out).1.rcount (by omega)).mono ?_
       rintro e u18 ⟨rfl, h⟩
       have B18 := Lib.hid (B16.out.trans (h.mono B16.out.size))
       have hkb : KB z2.heap u18 := KB.of B18.out
       clear h
       refine hK.out _ _ hkb ?_; clear hK K
       try simp only [Act.put, List.setIfInBounds_toArray, List.set_cons_zero, List.set_cons_succ]
       refine btake 19 (oi := _) (v := ?_) (by simp only [getElem?_toArray, getElem?_cons_succ, getElem?_cons_zero]; rfl) (by kernel_rfl) (by exact fun _ _ _ h => h) (by first | assumption | exact KB.refl _) (.inl ⟨by rfl, fun W hW => ?_⟩) ?_; rotate_left
       ·(go_simp; first | done | with_reducible rfl)
       try simp only [Act.put, List.setIfInBounds_toArray, List.set_cons_zero, List.set_cons_succ]
       refine btake 20 (oi := _) (v := ?_) (by simp only [getElem?_toArray, getElem?_cons_succ, getElem?_cons_zero]; rfl) (by kernel_rfl) (by exact fun _ _ _ h => h) (by first | assumption | exact KB.refl _) (.inl ⟨by rfl, fun W hW => ?_⟩) ?_; rotate_left
       ·(go_simp; first | done | with_reducible rfl)
       try simp only [Act.put, List.setIfInBounds_toArray, List.set_cons_zero, List.set_cons_succ]
       refine btake 21 (oi := _) (v := ?_) (by simp only [getElem?_toArray, getElem?_cons_succ, getElem?_cons_zero]; rfl) (by kernel_rfl) (by exact fun _ _ _ h => h) (by first | assumption | exact KB.refl _) (.inl ⟨by rfl, fun W hW => ?_⟩) ?_; rotate_left
       ·(go_simp; first | done | with_reducible rfl)
       try simp only [Act.put, List.setIfInBounds_toArray, List.set_cons_zero, List.set_cons_succ]
       refine btake 22 (oi := _) (v := ?_) (by simp only [getElem?_toArray, getElem?_cons_succ, getElem?_cons_zero]; rfl) (by kernel_rfl) (by exact fun _ _ _ h => h) (by first | assumption | exact KB.refl _) (.inl ⟨by rfl, fun W hW => ?_⟩) ?_; rotate_left
       ·(go_simp; first | done | with_reducible rfl)
       try simp only [Act.put, List.setIfInBounds_toArray, List.set_cons_zero, List.set_cons_succ]
       refine btake 23 (oi := _) (v := ?_) (by simp only [getElem?_toArray, getElem?_cons_succ, getElem?_cons_zero]; rfl) (by kernel_rfl) (by exact fun _ _ _ h => h) (by first | assumption | exact KB.refl _) (.inl ⟨by rfl, fun W hW => ?_⟩) ?_; rotate_left
       ·(go_simp; first | done | with_reducible rfl)
       try simp only [Act.put, List.setIfInBounds_toArray, List.set_cons_zero, List.set_cons_succ]
       refine btake 25 (oi := _) (v := ?_) (by simp only [getElem?_toArray, getElem?_cons_succ, getElem?_cons_zero]; rfl) (by kernel_rfl) (by exact fun _ _ _ h => h) (by first | assumption | exact KB.refl _) (.inl ⟨by rfl, fun W hW => ?_⟩) ?_; rotate_left
       ·(go_simp; first | done | with_reducible rfl)
       try simp only [Act.put, List.setIfInBounds_toArray, List.set_cons_zero, List.set_cons_succ]
       refine btake 26 (oi := _) (v := ?_) (by simp only [getElem?_toArray, getElem?_cons_succ, getElem?_cons_zero]; rfl) (by kernel_rfl) (by exact fun _ _ _ h => h) (by first | assumption | exact KB.refl _) (.inl ⟨by rfl, fun W hW => ?_⟩) ?_; rotate_left
       ·(go_simp; first | done | with_reducible rfl)
       try simp only [Act.put, List.setIfInBounds_toArray, List.set_cons_zero, List.set_cons_succ]
       refine bopH 24 (o := _) (by simp only [getElem?_toArray, getElem?_cons_succ, getElem?_cons_zero]; rfl) (by kernel_rfl) (by first | assumption | exact KB.refl _) (by rfl) (fun K hK => ?_)
       go_simp
       refine ((HVW.out _ B18.out).1.base (by omega) p hpi).mono ?_
       rintro e u24 ⟨rfl, h⟩
       have B24 := Lib.hid (B18.out.trans (h.mono B18.out.size))
       have hkb : KB z2.heap u24 := KB.of B24.out
       clear h
       refine hK.out _ _ hkb ?_; clear hK K
       try simp only [Act.put, List.setIfInBounds_toArray, List.set_cons_zero, List.set_cons_succ]
       refine bopH 27 (o := _) (by simp only [getElem?_toArray, getElem?_cons_succ, getElem?_cons_zero]; rfl) (by kernel_rfl) (by first | assumption | exact KB.refl _) (by rfl) (fun K hK => ?_)
       go_simp
       refine ((HVW.out _ B24.out).1.rbase (by omega) p).mono ?_
       rintro e u27 ⟨rfl, h⟩
       have B27 := Lib.hid (B24.out.trans (h.mono B24.out.size))
       have hkb : KB z2.heap u27 := KB.of B27.out
       clear h
       refine hK.out _ _ hkb ?_; clear hK K
       try simp only [Act.put, List.setIfInBounds_toArray, List.set_cons_zero, List.set_cons_succ]
       refine btake 28 (oi := _) (v := ?_) (by simp only [getElem?_toArray, getElem?_cons_succ, getElem?_cons_zero]; rfl) (by kernel_rfl) (by exact fun _ _ _ h => h) (by first | assumption | exact KB.refl _) (.inl ⟨by rfl, fun W hW => ?_⟩) ?_; rotate_left
       ·(go_simp; first | done | with_reducible rfl)
       try simp only [Act.put, List.setIfInBounds_toArray, List.set_cons_zero, List.set_cons_succ]
       refine btake 29 (oi := _) (v := ?_) (by simp only [getElem?_toArray, getElem?_cons_succ, getElem?_cons_zero]; rfl) (by kernel_rfl) (by exact fun _ _ _ h => h) (by first | assumption | exact KB.refl _) (.inl ⟨by rfl, fun W hW => ?_⟩) ?_; rotate_left
       ·(go_simp; first | done | with_reducible rfl)
       try simp only [Act.put, List.setIfInBounds_toArray, List.set_cons_zero, List.set_cons_succ]
       refine btake 30 (oi := _) (v := ?_) (by simp only [getElem?_toArray, getElem?_cons_succ, getElem?_cons_zero]; rfl) (by kernel_rfl) (by exact fun _ _ _ h => h) (by first | assumption | exact KB.refl _) (.inl ⟨by rfl, fun W hW => ?_⟩) ?_; rotate_left
       ·(go_simp; first | done | with_reducible rfl)
       try simp only [Act.put, List.setIfInBounds_toArray, List.set_cons_zero, List.set_cons_succ]
       refine btake 31 (oi := _) (v := ?_) (by simp only [getElem?_toArray, getElem?_cons_succ, getElem?_cons_zero]; rfl) (by kernel_rfl) (by exact fun _ _ _ h => h) (by first | assumption | exact KB.refl _) (.inl ⟨by rfl, fun W hW => ?_⟩) ?_; rotate_left
       ·(go_simp; first | done | with_reducible rfl)
       try simp only [Act.put, List.setIfInBounds_toArray, List.set_cons_zero, List.set_cons_succ]
       refine btake 32 (oi := _) (v := ?_) (by simp only [getElem?_toArray, getElem?_cons_succ, getElem?_cons_zero]; rfl) (by kernel_rfl) (by exact fun _ _ _ h => h) (by first | assumption | exact KB.refl _) (.inl ⟨by rfl, fun W hW => ?_⟩) ?_; rotate_left
       ·(go_simp; first | done | with_reducible rfl)
       try simp only [Act.put, List.setIfInBounds_toArray, List.set_cons_zero, List.set_cons_succ]
       refine btake 34 (oi := _) (v := ?_) (by simp only [getElem?_toArray, getElem?_cons_succ, getElem?_cons_zero]; rfl) (by kernel_rfl) (by exact fun _ _ _ h => h) (by first | assumption | exact KB.refl _) (.inl ⟨by rfl, fun W hW => ?_⟩) ?_; rotate_left
       ·(go_simp; first | done | with_reducible rfl)
       try simp only [Act.put, List.setIfInBounds_toArray, List.set_cons_zero, List.set_cons_succ]
       refine btake 35 (oi := _) (v := ?_) (by simp only [getElem?_toArray, getElem?_cons_succ, getElem?_cons_zero]; rfl) (by kernel_rfl) (by exact fun _ _ _ h => h) (by first | assumption | exact KB.refl _) (.inl ⟨by rfl, fun W hW => ?_⟩) ?_; rotate_left
       ·(go_simp; first | done | with_reducible rfl)
       try simp only [Act.put, List.setIfInBounds_toArray, List.set_cons_zero, List.set_cons_succ]
       refine bopH 33 (o := _) (by simp only [getElem?_toArray, getElem?_cons_succ, getElem?_cons_zero]; rfl) (by kernel_rfl) (by first | assumption | exact KB.refl _) (by rfl) (fun K hK => ?_)
       go_simp
       refine ((HVW.out _ B27.out).1.extra (by omega) p hpi).mono ?_
       rintro e u33 ⟨X33, k33, rfl, hs, hn, hc, h⟩
       have B33 := Lib.hid (B27.out.trans (h.mono B27.out.size))
       have hkb : KB z2.heap u33 := KB.of B33.out
       have S33 := Lib.hid (And.intro hs h)
       clear h hs hn hc
       refine hK.out _ _ hkb ?_; clear hK K
       try simp only [Act.put, List.setIfInBounds_toArray, List.set_cons_zero, List.set_cons_succ]
       refine bopH 36 (o := _) (by simp only [getElem?_toArray, getElem?_cons_succ, getElem?_cons_zero]; rfl) (by kernel_rfl) (by first | assumption | exact KB.refl _) (by rfl) (fun K hK => ?_)
       go_simp
       refine ((HVW.out _ B33.out).1.rextra (by omega) p).mono ?_
       rintro e u36 ⟨X36, k36, rfl, hs, hn, hc, h⟩
       have B36 := Lib.hid (B33.out.trans (h.mono B33.out.size))
       have hkb : KB z2.heap u36 := KB.of B36.out
       have S36 := Lib.hid (And.intro hs h)
       clear h hs hn hc
       refine hK.out _ _ hkb ?_; clear hK K
       try simp only [Act.put, List.setIfInBounds_toArray, List.set_cons_zero, List.set_cons_succ]
       refine bopH 37 (o := _) (by simp only [getElem?_toArray, getElem?_cons_succ, getElem?_cons_zero]; rfl) (by kernel_rfl) (by first | assumption | exact KB.refl _) (by rfl) (fun K hK => ?_)
       go_simp
       refine (SameR_any u36 X33 X36 _ _ k33 k36 (extraV V1 p) (extraV V1 p) ((S33.out.1.below S36.out.2).more S36.out.2.size) S36.out.1 rfl rfl (by have := HEX.out; omega) (by have := HEX.out; omega) (Nat.le_refl _) (Nat.le_refl _)).mono ?_
       rintro e u37 ⟨rfl, h⟩
       rw [decide_eq_true rfl]
       have B37 := Lib.hid (B36.out.trans (h.mono B36.out.size))
       have hkb : KB z2.heap u37 := KB.of B37.out
       clear h
       refine hK.out _ _ hkb ?_; clear hK K
       try simp only [Act.put, List.setIfInBounds_toArray, List.set_cons_zero, List.set_cons_succ]
       refine btake 38 (oi := _) (v := ?_) (by simp only [getElem?_toArray, getElem?_cons_succ, getElem?_cons_zero]; rfl) (by kernel_rfl) (by exact fun _ _ _ h => h) (by first | assumption | exact KB.refl _) (.inl ⟨by rfl, fun W hW => ?_⟩) ?_; rotate_left
       ·(go_simp; first | done | with_reducible rfl)
       try simp only [Act.put, List.setIfInBounds_toArray, List.set_cons_zero, List.set_cons_succ]
       refine btake 39 (oi := _) (v := ?_) (by simp only [getElem?_toArray, getElem?_cons_succ, getElem?_cons_zero]; rfl) (by kernel_rfl) (by exact fun _ _ _ h => h) (by first | assumption | exact KB.refl _) (.inl ⟨by rfl, fun W hW => ?_⟩) ?_; rotate_left
       ·(go_simp; first | done | with_reducible rfl)
       try simp only [Act.put, List.setIfInBounds_toArray, List.set_cons_zero, List.set_cons_succ]
       refine bdone (by kernel_rfl) ?_
       have HN := Lib.hid (And.intro (HW.out.1.below B37.out) (And.intro (HW.out.2.1.below B37.out) (And.intro (HW.out.2.2.1.below B37.out) (And.intro (HW.out.2.2.2.1.below B37.out) (And.intro (HW.out.2.2.2.2.1.below B37.out) (HW.out.2.2.2.2.2.trans (B37.out.mono HW.out.2.2.2.2.2.size)))))))
       clear e9 e10 e6 e6' hkb hb0 HVW B1 B3 B8 B11 B16 B18 B24 B27 B33 B36 B37 S33 S36 HEX
       have HVW := Lib.hid (fun W' (hW : Below u37.heap.size u37 W') => And.intro (HN.out.1.below hW) (HN.out.2.1.below hW))
       have e9 := HN.out.2.2.1.e 0 rfl
       have e10 := HN.out.2.2.2.1.e 0 rfl
       have e6 := HN.out.2.2.2.2.1.e 0 rfl
       have e6' := HN.out.2.2.2.2.1.e 1 rfl
       have hb0 : Below u37.heap.size u37 u37.drew := (Below.refl _ u37).drew
       go_wp2_with fail
       refine bstartH (u37.heap) (by kernel_rfl) ?_
       refine btake 0 (oi := _) (v := ?_) (by simp only [List.getElem?_toArray, List.getElem?_cons_zero]; rfl) (by kernel_rfl) (by exact fun _ _ _ h => h) (by first | assumption | exact KB.refl _) (.inl ⟨by rfl, fun W hW => ?_⟩) ?_; rotate_left
       ·(go_simp; first | done | with_reducible rfl)
       try simp only [Act.put, List.setIfInBounds_toArray, List.set_cons_zero, List.set_cons_succ]
       refine btake 1 (oi := _) (v := ?_) (by simp only [getElem?_toArray, getElem?_cons_succ, getElem?_cons_zero]; rfl) (by kernel_rfl) (by exact fun _ _ _ h => h) (by first | assumption | exact KB.refl _) (.inl ⟨by rfl, fun W hW => ?_⟩) ?_; rotate_left
       ·(go_simp; first | done | with_reducible rfl)
       try simp only [Act.put, List.setIfInBounds_toArray, List.set_cons_zero, List.set_cons_succ]
       refine btake 3 (oi := _) (v := ?_) (by simp only [getElem?_toArray, getElem?_cons_succ, getElem?_cons_zero]; rfl) (by kernel_rfl) (by exact fun _ _ _ h => h) (by first | assumption | exact KB.refl _) (.inl ⟨by rfl, fun W hW => ?_⟩) ?_; rotate_left
       ·(go_simp; first | done | with_reducible rfl)
       try simp only [Act.put, List.setIfInBounds_toArray, List.set_cons_zero, List.set_cons_succ]
       refine btake 4 (oi := _) (v := ?_) (by simp only [getElem?_toArray, getElem?_cons_succ, getElem?_cons_zero]; rfl) (by kernel_rfl) (by exact fun _ _ _ h => h) (by first | assumption | exact KB.refl _) (.inl ⟨by rfl, fun W hW => ?_⟩) ?_; rotate_left
       ·(go_simp; first | done | with_reducible rfl)
       try simp only [Act.put, List.setIfInBounds_toArray, List.set_cons_zero, List.set_cons_succ]
       refine bopH 2 (o := _) (by simp only [getElem?_toArray, getElem?_cons_succ, getElem?_cons_zero]; rfl) (by kernel_rfl) (by first | assumption | exact KB.refl _) (by rfl) (fun K hK => ?_)
       go_simp
       refine ((HVW.out _ hb0).1.add (by omega) dr dq).mono ?_
       rintro e t2 ⟨X2, m2, k2, rfl, hs, h⟩
       have B2 := Lib.hid (hb0.trans (h.mono hb0.size))
       have hkb : KB u37.heap t2 := KB.of B2.out
       have S2 := Lib.hid (And.intro hs h)
       clear h hs
       refine hK.out _ _ hkb ?_; clear hK K
       try simp only [Act.put, List.setIfInBounds_toArray, List.set_cons_zero, List.set_cons_succ]
       refine bopH 5 (o := _) (by simp only [getElem?_toArray, getElem?_cons_succ, getElem?_cons_zero]; rfl) (by kernel_rfl) (by first | assumption | exact KB.refl _) (by rfl) (fun K hK => ?_)
       go_simp
       refine ((HVW.out _ B2.out).1.radd (by omega) dr dq).mono ?_
       rintro e t5 ⟨X5, m5, k5, rfl, hs, h⟩
       have B5 := Lib.hid (B2.out.trans (h.mono B2.out.size))
       have hkb : KB u37.heap t5 := KB.of B5.out
       have S5 := Lib.hid (And.intro hs h)
       clear h hs
       refine hK.out _ _ hkb ?_; clear hK K
       try simp only [Act.put, List.setIfInBounds_toArray, List.set_cons_zero, List.set_cons_succ]
       refine bopH 6 (o := _) (by simp only [getElem?_toArray, getElem?_cons_succ, getElem?_cons_zero]; rfl) (by kernel_rfl) (by first | assumption | exact KB.refl _) (by rfl) (fun K hK => ?_)
       go_simp
       refine ((S2.out.1.below S5.out.2).rsame S5.out.1 (by omega) (by omega)).mono ?_
       rintro e t6 ⟨rfl, h⟩
       rw [decide_eq_true rfl]
       have B6 := Lib.hid (B5.out.trans (h.mono B5.out.size))
       have hkb : KB u37.heap t6 := KB.of B6.out
       clear h
       refine hK.out _ _ hkb ?_; clear hK K
       try simp only [Act.put, List.setIfInBounds_toArray, List.set_cons_zero, List.set_cons_succ]
       refine btake 7 (oi := _) (v := ?_) (by simp only [getElem?_toArray, getElem?_cons_succ, getElem?_cons_zero]; rfl) (by kernel_rfl) (by exact fun _ _ _ h => h) (by first | assumption | exact KB.refl _) (.inl ⟨by rfl, fun W hW => ?_⟩) ?_; rotate_left
       ·(go_simp; first | done | with_reducible rfl)
       try simp only [Act.put, List.setIfInBounds_toArray, List.set_cons_zero, List.set_cons_succ]
       refine btake 8 (oi := _) (v := ?_) (by simp only [getElem?_toArray, getElem?_cons_succ, getElem?_cons_zero]; rfl) (by kernel_rfl) (by exact fun _ _ _ h => h) (by first | assumption | exact KB.refl _) (.inl ⟨by rfl, fun W hW => ?_⟩) ?_; rotate_left
       ·(go_simp; first | done | with_reducible rfl)
       try simp only [Act.put, List.setIfInBounds_toArray, List.set_cons_zero, List.set_cons_succ]
       refine btake 9 (oi := _) (v := ?_) (by simp only [getElem?_toArray, getElem?_cons_succ, getElem?_cons_zero]; rfl) (by kernel_rfl) (by exact fun _ _ _ h => h) (by first | assumption | exact KB.refl _) (.inl ⟨by rfl, fun W hW => ?_⟩) ?_; rotate_left
       ·(go_simp; first | done | with_reducible rfl)
       try simp only [Act.put, List.setIfInBounds_toArray, List.set_cons_zero, List.set_cons_succ]
       refine btake 10 (oi := _) (v := ?_) (by simp only [getElem?_toArray, getElem?_cons_succ, getElem?_cons_zero]; rfl) (by kernel_rfl) (by exact fun _ _ _ h => h) (by first | assumption | exact KB.refl _) (.inl ⟨by rfl, fun W hW => ?_⟩) ?_; rotate_left
       ·(go_simp; first | done | with_reducible rfl)
       try simp only [Act.put, List.setIfInBounds_toArray, List.set_cons_zero, List.set_cons_succ]
       refine btake 12 (oi := _) (v := ?_) (by simp only [getElem?_toArray, getElem?_cons_succ, getElem?_cons_zero]; rfl) (by kernel_rfl) (by exact fun _ _ _ h => h) (by first | assumption | exact KB.refl _) (.inl ⟨by rfl, fun W hW => ?_⟩) ?_; rotate_left
       ·(go_simp; first | done | with_reducible rfl)
       try simp only [Act.put, List.setIfInBounds_toArray, List.set_cons_zero, List.set_cons_succ]
       refine btake 13 (oi := _) (v := ?_) (by simp only [getElem?_toArray, getElem?_cons_succ, getElem?_cons_zero]; rfl) (by kernel_rfl) (by exact fun _ _ _ h => h) (by first | assumption | exact KB.refl _) (.inl ⟨by rfl, fun W hW => ?_⟩) ?_; rotate_left
       ·(go_simp; first | done | with_reducible rfl)
       try simp only [Act.put, List.setIfInBounds_toArray, List.set_cons_zero, List.set_cons_succ]
       refine bopH 11 (o := _) (by simp only [getElem?_toArray, getElem?_cons_succ, getElem?_cons_zero]; rfl) (by kernel_rfl) (by first | assumption | exact KB.refl _) (by rfl) (fun K hK => ?_)
       go_simp
       refine ((HVW.out _ B6.out).1.join (HVW.out _ B6.out).2 (by omega) (by omega)).mono ?_
       rintro e t11 ⟨X11, m11, k11, rfl, hs, h⟩
       have B11 := Lib.hid (B6.out.trans (h.mono B6.out.size))
       have hkb : KB u37.heap t11 := KB.of B11.out
       have S11 := Lib.hid (And.intro hs h)
       clear h hs
       refine hK.out _ _ hkb ?_; clear hK K
       try simp only [Act.put, List.setIfInBounds_toArray, List.set_cons_zero, List.set_cons_succ]
       refine bopH 14 (o := _) (by simp only [getElem?_toArray, getElem?_cons_succ, getElem?_cons_zero]; rfl) (by kernel_rfl) (by first | assumption | exact KB.refl _) (by rfl) (fun K hK => ?_)
       go_simp
       refine ((HVW.out _ B11.out).1.rjoin (HVW.out _ B11.out).2 (by omega) (by omega)).mono ?_
       rintro e t14 ⟨X14, m14, k14, rfl, hs, h⟩
       have B14 := Lib.hid (B11.out.trans (h.mono B11.out.size))
       have hkb : KB u37.heap t14 := KB.of B14.out
       have S14 := Lib.hid (And.intro hs h)
       clear h hs
       refine hK.out _ _ hkb ?_; clear hK K
       try simp only [Act.put, List.setIfInBounds_toArray, List.set_cons_zero, List.set_cons_succ]
       refine bopH 15 (o := _) (by simp only [getElem?_toArray, getElem?_cons_succ, getElem?_cons_zero]; rfl) (by kernel_rfl) (by first | assumption | exact KB.refl _) (by rfl) (fun K hK => ?_)
       go_simp
       refine ((S11.out.1.below S14.out.2).rsame S14.out.1 (by omega) (by omega)).mono ?_
       rintro e t15 ⟨rfl, h⟩
       rw [decide_eq_true rfl]
       have B15 := Lib.hid (B14.out.trans (h.mono B14.out.size))
       have hkb : KB u37.heap t15 := KB.of B15.out
       clear h
       refine hK.out _ _ hkb ?_; clear hK K
       try simp only [Act.put, List.setIfInBounds_toArray, List.set_cons_zero, List.set_cons_succ]
       refine btake 16 (oi := _) (v := ?_) (by simp only [getElem?_toArray, getElem?_cons_succ, getElem?_cons_zero]; rfl) (by kernel_rfl) (by exact fun _ _ _ h => h) (by first | assumption | exact KB.refl _) (.inl ⟨by rfl, fun W hW => ?_⟩) ?_; rotate_left
       ·(go_simp; first | done | with_reducible rfl)
       try simp only [Act.put, List.setIfInBounds_toArray, List.set_cons_zero, List.set_cons_succ]
       refine btake 17 (oi := _) (v := ?_) (by simp only [getElem?_toArray, getElem?_cons_succ, getElem?_cons_zero]; rfl) (by kernel_rfl) (by exact fun _ _ _ h => h) (by first | assumption | exact KB.refl _) (.inl ⟨by rfl, fun W hW => ?_⟩) ?_; rotate_left
       ·(go_simp; first | done | with_reducible rfl)
       try simp only [Act.put, List.setIfInBounds_toArray, List.set_cons_zero, List.set_cons_succ]
       refine btake 18 (oi := _) (v := ?_) (by simp only [getElem?_toArray, getElem?_cons_succ, getElem?_cons_zero]; rfl) (by kernel_rfl) (by exact fun _ _ _ h => h) (by first | assumption | exact KB.refl _) (.inl ⟨by rfl, fun W hW => ?_⟩) ?_; rotate_left
       ·(go_simp; first | done | with_reducible rfl)
       try simp only [Act.put, List.setIfInBounds_toArray, List.set_cons_zero, List.set_cons_succ]
       refine btake 19 (oi := _) (v := ?_) (by simp only [getElem?_toArray, getElem?_cons_succ, getElem?_cons_zero]; rfl) (by kernel_rfl) (by exact fun _ _ _ h => h) (by first | assumption | exact KB.refl _) (.inl ⟨by rfl, fun W hW => ?_⟩) ?_; rotate_left
       ·(go_simp; first | done | with_reducible rfl)
       try simp only [Act.put, List.setIfInBounds_toArray, List.set_cons_zero, List.set_cons_succ]
       refine btake 20 (oi := _) (v := ?_) (by simp only [getElem?_toArray, getElem?_cons_succ, getElem?_cons_zero]; rfl) (by kernel_rfl) (by exact fun _ _ _ h => h) (by first | assumption | exact KB.refl _) (.inl ⟨by rfl, fun W hW => ?_⟩) ?_; rotate_left
       ·(go_simp; first | done | with_reducible rfl)
       try simp only [Act.put, List.setIfInBounds_toArray, List.set_cons_zero, List.set_cons_succ]
       refine btake 22 (oi := _) (v := ?_) (by simp only [getElem?_toArray, getElem?_cons_succ, getElem?_cons_zero]; rfl) (by kernel_rfl) (by exact fun _ _ _ h => h) (by first | assumption | exact KB.refl _) (.inl ⟨by rfl, fun W hW => ?_⟩) ?_; rotate_left
       ·(go_simp; first | done | with_reducible rfl)
       try simp only [Act.put, List.setIfInBounds_toArray, List.set_cons_zero, List.set_cons_succ]
       refine btake 23 (oi := _) (v := ?_) (by simp only [getElem?_toArray, getElem?_cons_succ, getElem?_cons_zero]; rfl) (by kernel_rfl) (by exact fun _ _ _ h => h) (by first | assumption | exact KB.refl _) (.inl ⟨by rfl, fun W hW => ?_⟩) ?_; rotate_left
       ·(go_simp; first | done | with_reducible rfl)
       try simp only [Act.put, List.setIfInBounds_toArray, List.set_cons_zero, List.set_cons_succ]
       refine bopH 21 (o := _) (by simp only [getElem?_toArray, getElem?_cons_succ, getElem?_cons_zero]; rfl) (by kernel_rfl) (by first | assumption | exact KB.refl _) (by rfl) (fun K hK => ?_)
       go_simp
       refine ((HVW.out _ B15.out).1.minus (HVW.out _ B15.out).2 (by omega) (by omega)).mono ?_
       rintro e t21 ⟨X21, m21, k21, rfl, hs, h⟩
       have B21 := Lib.hid (B15.out.trans (h.mono B15.out.size))
       have hkb : KB u37.heap t21 := KB.of B21.out
       have S21 := Lib.hid (And.intro hs h)
       clear h hs
       refine hK.out _ _ hkb ?_; clear hK K
       try simp only [Act.put, List.setIfInBounds_toArray, List.set_cons_zero, List.set_cons_succ]
       refine bopH 24 (o := _) (by simp only [getElem?_toArray, getElem?_cons_succ, getElem?_cons_zero]; rfl) (by kernel_rfl) (by first | assumption | exact KB.refl _) (by rfl) (fun K hK => ?_)
       go_simp
       refine ((HVW.out _ B21.out).1.rminus (HVW.out _ B21.out).2 (by omega) (by omega)).mono ?_
       rintro e t24 ⟨X24, m24, k24, rfl, hs, h⟩
       have B24 := Lib.hid (B21.out.trans (h.mono B21.out.size))
       have hkb : KB u37.heap t24 := KB.of B24.out
       have S24 := Lib.hid (And.intro hs h)
       clear h hs
       refine hK.out _ _ hkb ?_; clear hK K
       try simp only [Act.put, List.setIfInBounds_toArray, List.set_cons_zero, List.set_cons_succ]
       refine bopH 25 (o := _) (by simp only [getElem?_toArray, getElem?_cons_succ, getElem?_cons_zero]; rfl) (by kernel_rfl) (by first | assumption | exact KB.refl _) (by rfl) (fun K hK => ?_)
       go_simp
       refine ((S21.out.1.below S24.out.2).rsame S24.out.1 (by omega) (by omega)).mono ?_
       rintro e t25 ⟨rfl, h⟩
       rw [decide_eq_true rfl]
       have B25 := Lib.hid (B24.out.trans (h.mono B24.out.size))
       have hkb : KB u37.heap t25 := KB.of B25.out
       clear h
       refine hK.out _ _ hkb ?_; clear hK K
       try simp only [Act.put, List.setIfInBounds_toArray, List.set_cons_zero, List.set_cons_succ]
       refine btake 26 (oi := _) (v := ?_) (by simp only [getElem?_toArray, getElem?_cons_succ, getElem?_cons_zero]; rfl) (by kernel_rfl) (by exact fun _ _ _ h => h) (by first | assumption | exact KB.refl _) (.inl ⟨by rfl, fun W hW => ?_⟩) ?_; rotate_left
       ·(go_simp; first | done | with_reducible rfl)
       try simp only [Act.put, List.setIfInBounds_toArray, List.set_cons_zero, List.set_cons_succ]
       refine btake 27 (oi := _) (v := ?_) (by simp only [getElem?_toArray, getElem?_cons_succ, getElem?_cons_zero]; rfl) (by kernel_rfl) (by exact fun _ _ _ h => h) (by first | assumption | exact KB.refl _) (.inl ⟨by rfl, fun W hW => ?_⟩) ?_; rotate_left
       ·(go_simp; first | done | with_reducible rfl)
       try simp only [Act.put, List.setIfInBounds_toArray, List.set_cons_zero, List.set_cons_succ]
       refine btake 28 (oi := _) (v := ?_) (by simp only [getElem?_toArray, getElem?_cons_succ, getElem?_cons_zero]; rfl) (by kernel_rfl) (by exact fun _ _ _ h => h) (by first | assumption | exact KB.refl _) (.inl ⟨by rfl, fun W hW => ?_⟩) ?_; rotate_left
       ·(go_simp; first | done | with_reducible rfl)
       try simp only [Act.put, List.setIfInBounds_toArray, List.set_cons_zero, List.set_cons_succ]
       refine btake 29 (oi := _) (v := ?_) (by simp only [getElem?_toArray, getElem?_cons_succ, getElem?_cons_zero]; rfl) (by kernel_rfl) (by exact fun _ _ _ h => h) (by first | assumption | exact KB.refl _) (.inl ⟨by rfl, fun W hW => ?_⟩) ?_; rotate_left
       ·(go_simp; first | done | with_reducible rfl)
       try simp only [Act.put, List.setIfInBounds_toArray, List.set_cons_zero, List.set_cons_succ]
       refine btake 30 (oi := _) (v := ?_) (by simp only [getElem?_toArray, getElem?_cons_succ, getElem?_cons_zero]; rfl) (by kernel_rfl) (by exact fun _ _ _ h => h) (by first | assumption | exact KB.refl _) (.inl ⟨by rfl, fun W hW => ?_⟩) ?_; rotate_left
       ·(go_simp; first | done | with_reducible rfl)
       try simp only [Act.put, List.setIfInBounds_toArray, List.set_cons_zero, List.set_cons_succ]
       refine btake 32 (oi := _) (v := ?_) (by simp only [getElem?_toArray, getElem?_cons_succ, getElem?_cons_zero]; rfl) (by kernel_rfl) (by exact fun _ _ _ h => h) (by first | assumption | exact KB.refl _) (.inl ⟨by rfl, fun W hW => ?_⟩) ?_; rotate_left
       ·(go_simp; first | done | with_reducible rfl)
       try simp only [Act.put, List.setIfInBounds_toArray, List.set_cons_zero, List.set_cons_succ]
       refine bopH 31 (o := _) (by simp only [getElem?_toArray, getElem?_cons_succ, getElem?_cons_zero]; rfl) (by kernel_rfl) (by first | assumption | exact KB.refl _) (by rfl) (fun K hK => ?_)
       go_simp
       refine ((HVW.out _ B25.out).1.same (HVW.out _ B25.out).2 (by omega) (by omega)).mono ?_
       rintro e t31 ⟨rfl, h⟩
       rw [HSM.out]
       have B31 := Lib.hid (B25.out.trans (h.mono B25.out.size))
       have hkb : KB u37.heap t31 := KB.of B31.out
       clear h
       refine hK.out _ _ hkb ?_; clear hK K
       try simp only [Act.put, List.setIfInBounds_toArray, List.set_cons_zero, List.set_cons_succ]
       refine btake 33 (oi := _) (v := ?_) (by simp only [getElem?_toArray, getElem?_cons_succ, getElem?_cons_zero]; rfl) (by kernel_rfl) (by exact fun _ _ _ h => h) (by first | assumption | exact KB.refl _) (.inl ⟨by rfl, fun W hW => ?_⟩) ?_; rotate_left
       ·(go_simp; first | done | with_reducible rfl)
       try simp only [Act.put, List.setIfInBounds_toArray, List.set_cons_zero, List.set_cons_succ]
       refine btake 34 (oi := _) (v := undef) (by simp only [getElem?_toArray, getElem?_cons_succ, getElem?_cons_zero]; rfl) (by kernel_rfl) (by exact fun _ _ _ h => h) (by first | assumption | exact KB.refl _) (.inr ⟨by rfl, rfl⟩) ?_
       try simp only [Act.put, List.setIfInBounds_toArray, List.set_cons_zero, List.set_cons_succ]
       refine btake 35 (oi := _) (v := undef) (by simp only [getElem?_toArray, getElem?_cons_succ, getElem?_cons_zero]; rfl) (by kernel_rfl) (by exact fun _ _ _ h => h) (by first | assumption | exact KB.refl _) (.inr ⟨by rfl, rfl⟩) ?_
       try simp only [Act.put, List.setIfInBounds_toArray, List.set_cons_zero, List.set_cons_succ]
       refine btake 36 (oi := _) (v := undef) (by simp only [getElem?_toArray, getElem?_cons_succ, getElem?_cons_zero]; rfl) (by kernel_rfl) (by exact fun _ _ _ h => h) (by first | assumption | exact KB.refl _) (.inr ⟨by rfl, rfl⟩) ?_
       try simp only [Act.put, List.setIfInBounds_toArray, List.set_cons_zero, List.set_cons_succ]
       refine btake 37 (oi := _) (v := ?_) (by simp only [getElem?_toArray, getElem?_cons_succ, getElem?_cons_zero]; rfl) (by kernel_rfl) (by exact fun _ _ _ h => h) (by first | assumption | exact KB.refl _) (.inl ⟨by rfl, fun W hW => ?_⟩) ?_; rotate_left
       ·(go_simp; first | done | with_reducible rfl)
       try simp only [Act.put, List.setIfInBounds_toArray, List.set_cons_zero, List.set_cons_succ]
       refine btake 38 (oi := _) (v := ?_) (by simp only [getElem?_toArray, getElem?_cons_succ, getElem?_cons_zero]; rfl) (by kernel_rfl) (by exact fun _ _ _ h => h) (by first | assumption | exact KB.refl _) (.inl ⟨by rfl, fun W hW => ?_⟩) ?_; rotate_left
       ·(go_simp; first | done | with_reducible rfl)
       try simp only [Act.put, List.setIfInBounds_toArray, List.set_cons_zero, List.set_cons_succ]
       refine btake 39 (oi := _) (v := ?_) (by simp only [getElem?_toArray, getElem?_cons_succ, getElem?_cons_zero]; rfl) (by kernel_rfl) (by exact fun _ _ _ h => h) (by first | assumption | exact KB.refl _) (.inl ⟨by rfl, fun W hW => ?_⟩) ?_; rotate_left
       ·(go_simp; first | done | with_reducible rfl)
       try simp only [Act.put, List.setIfInBounds_toArray, List.set_cons_zero, List.set_cons_succ]
       refine bdone (by kernel_rfl) ?_
       have hbz := HN.out.2.2.2.2.2.trans (B31.out.mono HN.out.2.2.2.2.2.size)
       clear e9 e10 e6 e6' hkb hb0 HVW
       go_wp2_with fail
       go_roundw
       case rel => exact ⟨k + 1, by omega, by go_num, hbz⟩
       case measure => simp [intOf]; omega
      | true =>
       obtain ⟨ps, hps⟩ : ∃ b, decide (V1 = V2) = b := ⟨_, rfl⟩
       have HSM := Lib.hid (show sameV V1 V2 = ps by rw [sameV, HP.out.1, HP.out.2, hps]; simp)
       have HPS := Lib.hid hps
       clear hps
       have HVW := Lib.hid (fun W' (hW : Below z2.heap.size z2 W') => And.intro (HW.out.1.below hW) (HW.out.2.1.below hW))
       have e9 := HW.out.2.2.1.e 0 rfl
       have e10 := HW.out.2.2.2.1.e 0 rfl
       have e6 := HW.out.2.2.2.2.1.e 0 rfl
       have e6' := HW.out.2.2.2.2.1.e 1 rfl
       have hb0 : Below z2.heap.size z2 z2.drew := (Below.refl _ z2).drew
       have hex := fun m (hl : Lim m V1) => extraV_len hl p
       have HEX := Lib.hid (show (extraV V1 p).length ≤ 20 from by obtain ⟨_, _, _, h3⟩ := HW.out.1; exact extraV_len h3 p)
       clear hex
       go_wp2_with fail
       refine bstartH (z2.heap) (by kernel_rfl) ?_
       refine btake 0 (oi := _) (v := ?_) (by simp only [List.getElem?_toArray, List.getElem?_cons_zero]; rfl) (by kernel_rfl) (by exact fun _ _ _ h => h) (by first | assumption | exact KB.refl _) (.inl ⟨by rfl, fun W hW => ?_⟩) ?_; rotate_left
       ·(go_simp; first | done | with_reducible rfl)
       try simp only [Act.put, List.setIfInBounds_toArray, List.set_cons_zero, List.set_cons_succ]
       refine btake 2 (oi := _) (v := ?_) (by simp only [getElem?_toArray, getElem?_cons_succ, getElem?_cons_zero]; rfl) (by kernel_rfl) (by exact fun _ _ _ h => h) (by first | assumption | exact KB.refl _) (.inl ⟨by rfl, fun W hW => ?_⟩) ?_; rotate_left
       ·(go_simp; first | done | with_reducible rfl)
       try simp only [Act.put, List.setIfInBounds_toArray, List.set_cons_zero, List.set_cons_succ]
       refine bopH 1 (o := _) (by simp only [getElem?_toArray, getElem?_cons_succ, getElem?_cons_zero]; rfl) (by kernel_rfl) (by first | assumption | exact KB.refl _) (by rfl) (fun K hK => ?_)
       go_simp
       refine ((HVW.out _ hb0).1.right (by omega)).mono ?_
       rintro e u1 ⟨rfl, h⟩
       rw [HP.out.1]
       have B1 := Lib.hid (hb0.trans (h.mono hb0.size))
       have hkb : KB z2.heap u1 := KB.of B1.out
       clear h
       refine hK.out _ _ hkb ?_; clear hK K
       try simp only [Act.put, List.setIfInBounds_toArray, List.set_cons_zero, List.set_cons_succ]
       refine bopH 3 (o := _) (by simp only [getElem?_toArray, getElem?_cons_succ, getElem?_cons_zero]; rfl) (by kernel_rfl) (by first | assumption | exact KB.refl _) (by rfl) (fun K hK => ?_)
       go_simp
       refine ((HVW.out _ B1.out).1.rright (by omega)).mono ?_
       rintro e u3 ⟨rfl, h⟩
       rw [HP.out.1]
       have B3 := Lib.hid (B1.out.trans (h.mono B1.out.size))
       have hkb : KB z2.heap u3 := KB.of B3.out
       clear h
       refine hK.out _ _ hkb ?_; clear hK K
       try simp only [Act.put, List.setIfInBounds_toArray, List.set_cons_zero, List.set_cons_succ]
       refine btake 4 (oi := _) (v := ?_) (by simp only [getElem?_toArray, getElem?_cons_succ, getElem?_cons_zero]; rfl) (by kernel_rfl) (by exact fun _ _ _ h => h) (by first | assumption | exact KB.refl _) (.inl ⟨by rfl, fun W hW => ?_⟩) ?_; rotate_left
       ·(go_simp; first | done | with_reducible rfl)
       try simp only [Act.put, List.setIfInBounds_toArray, List.set_cons_zero, List.set_cons_succ]
       refine btake 5 (oi := _) (v := ?_) (by simp only [getElem?_toArray, getElem?_cons_succ, getElem?_cons_zero]; rfl) (by kernel_rfl) (by exact fun _ _ _ h => h) (by first | assumption | exact KB.refl _) (.inl ⟨by rfl, fun W hW => ?_⟩) ?_; rotate_left
       ·(go_simp; first | done | with_reducible rfl)
       try simp only [Act.put, List.setIfInBounds_toArray, List.set_cons_zero, List.set_cons_succ]
       refine btake 6 (oi := _) (v := ?_) (by simp only [getElem?_toArray, getElem?_cons_succ, getElem?_cons_zero]; rfl) (by kernel_rfl) (by exact fun _ _ _ h => h) (by first | assumption | exact KB.refl _) (.inl ⟨by rfl, fun W hW => ?_⟩) ?_; rotate_left
       ·(go_simp; first | done | with_reducible rfl)
       try simp only [Act.put, List.setIfInBounds_toArray, List.set_cons_zero, List.set_cons_succ]
       refine btake 7 (oi := _) (v := ?_) (by simp only [getElem?_toArray, getElem?_cons_succ, getElem?_cons_zero]; rfl) (by kernel_rfl) (by exact fun _ _ _ h => h) (by first | assumption | exact KB.refl _) (.inl ⟨by rfl, fun W hW => ?_⟩) ?_; rotate_left
       ·(go_simp; first | done | with_reducible rfl)
       try simp only [Act.put, List.setIfInBounds_toArray, List.set_cons_zero, List.set_cons_succ]
       refine btake 9 (oi := _) (v := ?_) (by simp only [getElem?_toArray, getElem?_cons_succ, getElem?_cons_zero]; rfl) (by kernel_rfl) (by exact fun _ _ _ h => h) (by first | assumption | exact KB.refl _) (.inl ⟨by rfl, fun W hW => ?_⟩) ?_; rotate_left
       ·(go_simp; first | done | with_reducible rfl)
       try simp only [Act.put, List.setIfInBounds_toArray, List.set_cons_zero, List.set_cons_succ]
       refine btake 10 (oi := _) (v := ?_) (by simp only [getElem?_toArray, getElem?_cons_succ, getElem?_cons_zero]; rfl) (by kernel_rfl) (by exact fun _ _ _ h => h) (by first | assumption | exact KB.refl _) (.inl ⟨by rfl, fun W hW => ?_⟩) ?_; rotate_left
       ·(go_simp; first | done | with_reducible rfl)
       try simp only [Act.put, List.setIfInBounds_toArray, List.set_cons_zero, List.set_cons_succ]
       refine bopH 8 (o := _) (by simp only [getElem?_toArray, getElem?_cons_succ, getElem?_cons_zero]; rfl) (by kernel_rfl) (by first | assumption | exact KB.refl _) (by rfl) (fun K hK => ?_)
       go_simp
       refine ((HVW.out _ B3.out).1.has (by omega) dr dq hdr).mono ?_
       rintro e u8 ⟨rfl, h⟩
       have B8 := Lib.hid (B3.out.trans (h.mono B3.out.size))
       have hkb : KB z2.heap u8 := KB.of B8.out
       clear h
       refine hK.out _ _ hkb ?_; clear hK K
       try simp only [Act.put, List.setIfInBounds_toArray, List.set_cons_zero, List.set_cons_succ]
       refine bopH 11 (o := _) (by simp only [getElem?_toArray, getElem?_cons_succ, getElem?_cons_zero]; rfl) (by kernel_rfl) (by first | assumption | exact KB.refl _) (by rfl) (fun K hK => ?_)
       go_simp
       refine ((HVW.out _ B8.out).1.rhas (by omega) dr dq).mono ?_
       rintro e u11 ⟨rfl, h⟩
       have B11 := Lib.hid (B8.out.trans (h.mono B8.out.size))
       have hkb : KB z2.heap u11 := KB.of B11.out
       clear h
       refine hK.out _ _ hkb ?_; clear hK K
       try simp only [Act.put, List.setIfInBounds_toArray, List.set_cons_zero, List.set_cons_succ]
       refine btake 12 (oi := _) (v := ?_) (by simp only [getElem?_toArray, getElem?_cons_succ, getElem?_cons_zero]; rfl) (by kernel_rfl) (by exact fun _ _ _ h => h) (by first | assumption | exact KB.refl _) (.inl ⟨by rfl, fun W hW => ?_⟩) ?_; rotate_left
       ·(go_simp; first | done | with_reducible rfl)
       try simp only [Act.put, List.setIfInBounds_toArray, List.set_cons_zero, List.set_cons_succ]
       refine btake 13 (oi := _) (v := ?_) (by simp only [getElem?_toArray, getElem?_cons_succ, getElem?_cons_zero]; rfl) (by kernel_rfl) (by exact fun _ _ _ h => h) (by first | assumption | exact KB.refl _) (.inl ⟨by rfl, fun W hW => ?_⟩) ?_; rotate_left
       ·(go_simp; first | done | with_reducible rfl)
       try simp only [Act.put, List.setIfInBounds_toArray, List.set_cons_zero, List.set_cons_succ]
       refine btake 14 (oi := _) (v := ?_) (by simp only [getElem?_toArray, getElem?_cons_succ, getElem?_cons_zero]; rfl) (by kernel_rfl) (by exact fun _ _ _ h => h) (by first | assumption | exact KB.refl _) (.inl ⟨by rfl, fun W hW => ?_⟩) ?_; rotate_left
       ·(go_simp; first | done | with_reducible rfl)
       try simp only [Act.put, List.setIfInBounds_toArray, List.set_cons_zero, List.set_cons_succ]
       refine btake 15 (oi := _) (v := ?_) (by simp only [getElem?_toArray, getElem?_cons_succ, getElem?_cons_zero]; rfl) (by kernel_rfl) (by exact fun _ _ _ h => h) (by first | assumption | exact KB.refl _) (.inl ⟨by rfl, fun W hW => ?_⟩) ?_; rotate_left
       ·(go_simp; first | done | with_reducible rfl)
       try simp only [Act.put, List.setIfInBounds_toArray, List.set_cons_zero, List.set_cons_succ]
       refine btake 17 (oi := _) (v := ?_) (by simp only [getElem?_toArray, getElem?_cons_succ, getElem?_cons_zero]; rfl) (by kernel_rfl) (by exact fun _ _ _ h => h) (by first | assumption | exact KB.refl _) (.inl ⟨by rfl, fun W hW => ?_⟩) ?_; rotate_left
       ·(go_simp; first | done | with_reducible rfl)
       try simp only [Act.put, List.setIfInBounds_toArray, List.set_cons_zero, List.set_cons_succ]
       refine bopH 16 (o := _) (by simp only [getElem?_toArray, getElem?_cons_succ, getElem?_cons_zero]; rfl) (by kernel_rfl) (by first | assumption | exact KB.refl _) (by rfl) (fun K hK => ?_)
       go_simp
       refine ((HVW.out _ B11.out).1.count (by omega)).mono ?_
       rintro e u16 ⟨rfl, h⟩
       have B16 := Lib.hid (B11.out.trans (h.mono B11.out.size))
       have hkb : KB z2.heap u16 := KB.of B16.out
       clear h
       refine hK.out _ _ hkb ?_; clear hK K
       try simp only [Act.put, List.setIfInBounds_toArray, List.set_cons_zero, List.set_cons_succ]
       refine bopH 18 (o := _) (by simp only [getElem?_toArray, getElem?_cons_succ, getElem?_cons_zero]; rfl) (by kernel_rfl) (by first | assumption | exact KB.refl _) (by rfl) (fun K hK => ?_)
       go_simp
       refine ((HVW.out _ B16.out).1.rcount (by omega)).mono ?_
       rintro e u18 ⟨rfl, h⟩
       have B18 := Lib.hid (B16.out.trans (h.mono B16.out.size))
       have hkb : KB z2.heap u18 := KB.of B18.out
       clear h
       refine hK.out _ _ hkb ?_; clear hK K
       try simp only [Act.put, List.setIfInBounds_toArray, List.set_cons_zero, List.set_cons_succ]
       refine btake 19 (oi := _) (v := ?_) (by simp only [getElem?_toArray, getElem?_cons_succ, getElem?_cons_zero]; rfl) (by kernel_rfl) (by exact fun _ _ _ h => h) (by first | assumption | exact KB.refl _) (.inl ⟨by rfl, fun W hW => ?_⟩) ?_; rotate_left
       ·(go_simp; first | done | with_reducible rfl)
       try simp only [Act.put, List.setIfInBounds_toArray, List.set_cons_zero, List.set_cons_succ]
       refine btake 20 (oi := _) (v := ?_) (by simp only [getElem?_toArray, getElem?_cons_succ, getElem?_cons_zero]; rfl) (by kernel_rfl) (by exact fun _ _ _ h => h) (by first | assumption | exact KB.refl _) (.inl ⟨by rfl, fun W hW => ?_⟩) ?_; rotate_left
       ·(go_simp; first | done | with_reducible rfl)
       try simp only [Act.put, List.setIfInBounds_toArray, List.set_cons_zero, List.set_cons_succ]
       refine btake 21 (oi := _) (v := ?_) (by simp only [getElem?_toArray, getElem?_cons_succ, getElem?_cons_zero]; rfl) (by kernel_rfl) (by exact fun _ _ _ h => h) (by first | assumption | exact KB.refl _) (.inl ⟨by rfl, fun W hW => ?_⟩) ?_; rotate_left
       ·(go_simp; first | done | with_reducible rfl)
       try simp only [Act.put, List.setIfInBounds_toArray, List.set_cons_zero, List.set_cons_succ]
       refine btake 22 (oi := _) (v := ?_) (by simp only [getElem?_toArray, getElem?_cons_succ, getElem?_cons_zero]; rfl) (by kernel_rfl) (by exact fun _ _ _ h => h) (by first | assumption | exact KB.refl _) (.inl ⟨by rfl, fun W hW => ?_⟩) ?_; rotate_left
       ·(go_simp; first | done | with_reducible rfl)
       try simp only [Act.put, List.setIfInBounds_toArray, List.set_cons_zero, List.set_cons_succ]
       refine btake 23 (oi := _) (v := ?_) (by simp only [getElem?_toArray, getElem?_cons_succ, getElem?_cons_zero]; rfl) (by kernel_rfl) (by exact fun _ _ _ h => h) (by first | assumption | exact KB.refl _) (.inl ⟨by rfl, fun W hW => ?_⟩) ?_; rotate_left
       ·(go_simp; first | done | with_reducible rfl)
       try simp only [Act.put, List.setIfInBounds_toArray, List.set_cons_zero, List.set_cons_succ]
       refine btake 25 (oi := _) (v := ?_) (by simp only [getElem?_toArray, getElem?_cons_succ, getElem?_cons_zero]; rfl) (by kernel_rfl) (by exact fun _ _ _ h => h) (by first | assumption | exact KB.refl _) (.inl ⟨by rfl, fun W hW => ?_⟩) ?_; rotate_left
       ·(go_simp; first | done | with_reducible rfl)
       try simp only [Act.put, List.setIfInBounds_toArray, List.set_cons_zero, List.set_cons_succ]
       refine btake 26 (oi := _) (v := ?_) (by simp only [getElem?_toArray, getElem?_cons_succ, getElem?_cons_zero]; rfl) (by kernel_rfl) (by exact fun _ _ _ h => h) (by first | assumption | exact KB.refl _) (.inl ⟨by rfl, fun W hW => ?_⟩) ?_; rotate_left
       ·(go_simp; first | done | with_reducible rfl)
       try simp only [Act.put, List.setIfInBounds_toArray, List.set_cons_zero, List.set_cons_succ]
       refine bopH 24 (o := _) (by simp only [getElem?_toArray, getElem?_cons_succ, getElem?_cons_zero]; rfl) (by kernel_rfl) (by first | assumption | exact KB.refl _) (by rfl) (fun K hK => ?_)
       go_simp
       refine ((HVW.out _ B18.out).1.base (by omega) p hpi).mono ?_
       rintro e u24 ⟨rfl, h⟩
       have B24 := Lib.hid (B18.out.trans (h.mono B18.out.size))
       have hkb : KB z2.heap u24 := KB.of B24.out
       clear h
       refine hK.out _ _ hkb ?_; clear hK K
       try simp only [Act.put, List.setIfInBounds_toArray, List.set_cons_zero, List.set_cons_succ]
       refine bopH 27 (o := _) (by simp only [getElem?_toArray, getElem?_cons_succ, getElem?_cons_zero]; rfl) (by kernel_rfl) (by first | assumption | exact KB.refl _) (by rfl) (fun K hK => ?_)
       go_simp
       refine ((HVW.out _ B24.out).1.rbase (by omega) p).mono ?_
       rintro e u27 ⟨rfl, h⟩
       have B27 := Lib.hid (B24.out.trans (h.mono B24.out.size))
       have hkb : KB z2.heap u27 := KB.of B27.out
       clear h
       refine hK.out _ _ hkb ?_; clear hK K
       try simp only [Act.put, List.setIfInBounds_toArray, List.set_cons_zero, List.set_cons_succ]
       refine btake 28 (oi := _) (v := ?_) (by simp only [getElem?_toArray, getElem?_cons_succ, getElem?_cons_zero]; rfl) (by kernel_rfl) (by exact fun _ _ _ h => h) (by first | assumption | exact KB.refl _) (.inl ⟨by rfl, fun W hW => ?_⟩) ?_; rotate_left
       ·(go_simp; first | done | with_reducible rfl)
       try simp only [Act.put, List.setIfInBounds_toArray, List.set_cons_zero, List.set_cons_succ]
       refine btake 29 (oi := _) (v := ?_) (by simp only [getElem?_toArray, getElem?_cons_succ, getElem?_cons_zero]; rfl) (by kernel_rfl) (by exact fun _ _ _ h => h) (by first | assumption | exact KB.refl _) (.inl ⟨by rfl, fun W hW => ?_⟩) ?_; rotate_left
       ·(go_simp; first | done | with_reducible rfl)
       try simp only [Act.put, List.setIfInBounds_toArray, List.set_cons_zero, List.set_cons_succ]
       refine btake 30 (oi := _) (v := ?_) (by simp only [getElem?_toArray, getElem?_cons_succ, getElem?_cons_zero]; rfl) (by kernel_rfl) (by exact fun _ _ _ h => h) (by first | assumption | exact KB.refl _) (.inl ⟨by rfl, fun W hW => ?_⟩) ?_; rotate_left
       ·(go_simp; first | done | with_reducible rfl)
       try simp only [Act.put, List.setIfInBounds_toArray, List.set_cons_zero, List.set_cons_succ]
       refine btake 31 (oi := _) (v := ?_) (by simp only [getElem?_toArray, getElem?_cons_succ, getElem?_cons_zero]; rfl) (by kernel_rfl) (by exact fun _ _ _ h => h) (by first | assumption | exact KB.refl _) (.inl ⟨by rfl, fun W hW => ?_⟩) ?_; rotate_left
       ·(go_simp; first | done | with_reducible rfl)
       try simp only [Act.put, List.setIfInBounds_toArray, List.set_cons_zero, List.set_cons_succ]
       refine btake 32 (oi := _) (v := ?_) (by simp only [getElem?_toArray, getElem?_cons_succ, getElem?_cons_zero]; rfl) (by kernel_rfl) (by exact fun _ _ _ h => h) (by first | assumption | exact KB.refl _) (.inl ⟨by rfl, fun W hW => ?_⟩) ?_; rotate_left
       ·(go_simp; first | done | with_reducible rfl)
       try simp only [Act.put, List.setIfInBounds_toArray, List.set_cons_zero, List.set_cons_succ]
       refine btake 34 (oi := _) (v := ?_) (by simp only [getElem?_toArray, getElem?_cons_succ, getElem?_cons_zero]; rfl) (by kernel_rfl) (by exact fun _ _ _ h => h) (by first | assumption | exact KB.refl _) (.inl ⟨by rfl, fun W hW => ?_⟩) ?_; rotate_left
       ·(go_simp; first | done | with_reducible rfl)
       try simp only [Act.put, List.setIfInBounds_toArray, List.set_cons_zero, List.set_cons_succ]
       refine btake 35 (oi := _) (v := ?_) (by simp only [getElem?_toArray, getElem?_cons_succ, getElem?_cons_zero]; rfl) (by kernel_rfl) (by exact fun _ _ _ h => h) (by first | assumption | exact KB.refl _) (.inl ⟨by rfl, fun W hW => ?_⟩) ?_; rotate_left
       ·(go_simp; first | done | with_reducible rfl)
       try simp only [Act.put, List.setIfInBounds_toArray, List.set_cons_zero, List.set_cons_succ]
       refine bopH 33 (o := _) (by simp only [getElem?_toArray, getElem?_cons_succ, getElem?_cons_zero]; rfl) (by kernel_rfl) (by first | assumption | exact KB.refl _) (by rfl) (fun K hK => ?_)
       go_simp
       refine ((HVW.out _ B27.out).1.extra (by omega) p hpi).mono ?_
       rintro e u33 ⟨X33, k33, rfl, hs, hn, hc, h⟩
       have B33 := Lib.hid (B27.out.trans (h.mono B27.out.size))
       have hkb : KB z2.heap u33 := KB.of B33.out
       have S33 := Lib.hid (And.intro hs h)
       clear h hs hn hc
       refine hK.out _ _ hkb ?_; clear hK K
       try simp only [Act.put, List.setIfInBounds_toArray, List.set_cons_zero, List.set_cons_succ]
       refine bopH 36 (o := _) (by simp only [getElem?_toArray, getElem?_cons_succ, getElem?_cons_zero]; rfl) (by kernel_rfl) (by first | assumption | exact KB.refl _) (by rfl) (fun K hK => ?_)
       go_simp
       refine ((HVW.out _ B33.out).1.rextra (by omega) p).mono ?_
       rintro e u36 ⟨X36, k36, rfl, hs, hn, hc, h⟩
       have B36 := Lib.hid (B33.out.trans (h.mono B33.out.size))
       have hkb : KB z2.heap u36 := KB.of B36.out
       have S36 := Lib.hid (And.intro hs h)
       clear h hs hn hc
       refine hK.out _ _ hkb ?_; clear hK K
       try simp only [Act.put, List.setIfInBounds_toArray, List.set_cons_zero, List.set_cons_succ]
       refine bopH 37 (o := _) (by simp only [getElem?_toArray, getElem?_cons_succ, getElem?_cons_zero]; rfl) (by kernel_rfl) (by first | assumption | exact KB.refl _) (by rfl) (fun K hK => ?_)
       go_simp
       refine (SameR_any u36 X33 X36 _ _ k33 k36 (extraV V1 p) (extraV V1 p) ((S33.out.1.below S36.out.2).more S36.out.2.size) S36.out.1 rfl rfl (by have := HEX.out; omega) (by have := HEX.out; omega) (Nat.le_refl _) (Nat.le_refl _)).mono ?_
       rintro e u37 ⟨rfl, h⟩
       rw [decide_eq_true rfl]
       have B37 := Lib.hid (B36.out.trans (h.mono B36.out.size))
       have hkb : KB z2.heap u37 := KB.of B37.out
       clear h
       refine hK.out _ _ hkb ?_; clear hK K
       try simp only [Act.put, List.setIfInBounds_toArray, List.set_cons_zero, List.set_cons_succ]
       refine btake 38 (oi := _) (v := ?_) (by simp only [getElem?_toArray, getElem?_cons_succ, getElem?_cons_zero]; rfl) (by kernel_rfl) (by exact fun _ _ _ h => h) (by first | assumption | exact KB.refl _) (.inl ⟨by rfl, fun W hW => ?_⟩) ?_; rotate_left
       ·(go_simp; first | done | with_reducible rfl)
       try simp only [Act.put, List.setIfInBounds_toArray, List.set_cons_zero, List.set_cons_succ]
       refine btake 39 (oi := _) (v := ?_) (by simp only [getElem?_toArray, getElem?_cons_succ, getElem?_cons_zero]; rfl) (by kernel_rfl) (by exact fun _ _ _ h => h) (by first | assumption | exact KB.refl _) (.inl ⟨by rfl, fun W hW => ?_⟩) ?_; rotate_left
       ·(go_simp; first | done | with_reducible rfl)
       try simp only [Act.put, List.setIfInBounds_toArray, List.set_cons_zero, List.set_cons_succ]
       refine bdone (by kernel_rfl) ?_
       have HN := Lib.hid (And.intro (HW.out.1.below B37.out) (And.intro (HW.out.2.1.below B37.out) (And.intro (HW.out.2.2.1.below B37.out) (And.intro (HW.out.2.2.2.1.below B37.out) (And.intro (HW.out.2.2.2.2.1.below B37.out) (HW.out.2.2.2.2.2.trans (B37.out.mono HW.out.2.2.2.2.2.size)))))))
       clear e9 e10 e6 e6' hkb hb0 HVW B1 B3 B8 B11 B16 B18 B24 B27 B33 B36 B37 S33 S36 HEX
       have HVW := Lib.hid (fun W' (hW : Below u37.heap.size u37 W') => And.intro (HN.out.1.below hW) (HN.out.2.1.below hW))
       have e9 := HN.out.2.2.1.e 0 rfl
       have e10 := HN.out.2.2.2.1.e 0 rfl
       have e6 := HN.out.2.2.2.2.1.e 0 rfl
       have e6' := HN.out.2.2.2.2.1.e 1 rfl
       have hb0 : Below u37.heap.size u37 u37.drew := (Below.refl _ u37).drew
       go_wp2_with fail
       refine bstartH (u37.heap) (by kernel_rfl) ?_
       refine btake 0 (oi := _) (v := ?_) (by simp only [List.getElem?_toArray, List.getElem?_cons_zero]; rfl) (by kernel_rfl) (by exact fun _ _ _ h => h) (by first | assumption | exact KB.refl _) (.inl ⟨by rfl, fun W hW => ?_⟩) ?_; rotate_left
       ·(go_simp; first | done | with_reducible rfl)
       try simp only [Act.put, List.setIfInBounds_toArray, List.set_cons_zero, List.set_cons_succ]
       refine btake 1 (oi := _) (v := ?_) (by simp only [getElem?_toArray, getElem?_cons_succ, getElem?_cons_zero]; rfl) (by kernel_rfl) (by exact fun _ _ _ h => h) (by first | assumption | exact KB.refl _) (.inl ⟨by rfl, fun W hW => ?_⟩) ?_; rotate_left
       ·(go_simp; first | done | with_reducible rfl)
       try simp only [Act.put, List.setIfInBounds_toArray, List.set_cons_zero, List.set_cons_succ]
       refine btake 3 (oi := _) (v := ?_) (by simp only [getElem?_toArray, getElem?_cons_succ, getElem?_cons_zero]; rfl) (by kernel_rfl) (by exact fun _ _ _ h => h) (by first | assumption | exact KB.refl _) (.inl ⟨by rfl, fun W hW => ?_⟩) ?_; rotate_left
       ·(go_simp; first | done | with_reducible rfl)
       try simp only [Act.put, List.setIfInBounds_toArray, List.set_cons_zero, List.set_cons_succ]
       refine btake 4 (oi := _) (v := ?_) (by simp only [getElem?_toArray, getElem?_cons_succ, getElem?_cons_zero]; rfl) (by kernel_rfl) (by exact fun _ _ _ h => h) (by first | assumption | exact KB.refl _) (.inl ⟨by rfl, fun W hW => ?_⟩) ?_; rotate_left
       ·(go_simp; first | done | with_reducible rfl)
       try simp only [Act.put, List.setIfInBounds_toArray, List.set_cons_zero, List.set_cons_succ]
       refine bopH 2 (o := _) (by simp only [getElem?_toArray, getElem?_cons_succ, getElem?_cons_zero]; rfl) (by kernel_rfl) (by first | assumption | exact KB.refl _) (by rfl) (fun K hK => ?_)
       go_simp
       refine ((HVW.out _ hb0).1.add (by omega) dr dq).mono ?_
       rintro e t2 ⟨X2, m2, k2, rfl, hs, h⟩
       have B2 := Lib.hid (hb0.trans (h.mono hb0.size))
       have hkb : KB u37.heap t2 := KB.of B2.out
       have S2 := Lib.hid (And.intro hs h)
       clear h hs
       refine hK.out _ _ hkb ?_; clear hK K
       try simp only [Act.put, List.setIfInBounds_toArray, List.set_cons_zero, List.set_cons_succ]
       refine bopH 5 (o := _) (by simp only [getElem?_toArray, getElem?_cons_succ, getElem?_cons_zero]; rfl) (by kernel_rfl) (by first | assumption | exact KB.refl _) (by rfl) (fun K hK => ?_)
       go_simp
       refine ((HVW.out _ B2.out).1.radd (by omega) dr dq).mono ?_
       rintro e t5 ⟨X5, m5, k5, rfl, hs, h⟩
       have B5 := Lib.hid (B2.out.trans (h.mono B2.out.size))
       have hkb : KB u37.heap t5 := KB.of B5.out
       have S5 := Lib.hid (And.intro hs h)
       clear h hs
       refine hK.out _ _ hkb ?_; clear hK K
       try simp only [Act.put, List.setIfInBounds_toArray, List.set_cons_zero, List.set_cons_succ]
       refine bopH 6 (o := _) (by simp only [getElem?_toArray, getElem?_cons_succ, getElem?_cons_zero]; rfl) (by kernel_rfl) (by first | assumption | exact KB.refl _) (by rfl) (fun K hK => ?_)
       go_simp
       refine ((S2.out.1.below S5.out.2).rsame S5.out.1 (by omega) (by omega)).mono ?_
       rintro e t6 ⟨rfl, h⟩
       rw [decide_eq_true rfl]
       have B6 := Lib.hid (B5.out.trans (h.mono B5.out.size))
       have hkb : KB u37.heap t6 := KB.of B6.out
       clear h
       refine hK.out _ _ hkb ?_; clear hK K
       try simp only [Act.put, List.setIfInBounds_toArray, List.set_cons_zero, List.set_cons_succ]
       refine btake 7 (oi := _) (v := ?_) (by simp only [getElem?_toArray, getElem?_cons_succ, getElem?_cons_zero]; rfl) (by kernel_rfl) (by exact fun _ _ _ h => h) (by first | assumption | exact KB.refl _) (.inl ⟨by rfl, fun W hW => ?_⟩) ?_; rotate_left
       ·(go_simp; first | done | with_reducible rfl)
       try simp only [Act.put, List.setIfInBounds_toArray, List.set_cons_zero, List.set_cons_succ]
       refine btake 8 (oi := _) (v := ?_) (by simp only [getElem?_toArray, getElem?_cons_succ, getElem?_cons_zero]; rfl) (by kernel_rfl) (by exact fun _ _ _ h => h) (by first | assumption | exact KB.refl _) (.inl ⟨by rfl, fun W hW => ?_⟩) ?_; rotate_left
       ·(go_simp; first | done | with_reducible rfl)
       try simp only [Act.put, List.setIfInBounds_toArray, List.set_cons_zero, List.set_cons_succ]
       refine btake 9 (oi := _) (v := ?_) (by simp only [getElem?_toArray, getElem?_cons_succ, getElem?_cons_zero]; rfl) (by kernel_rfl) (by exact fun _ _ _ h => h) (by first | assumption | exact KB.refl _) (.inl ⟨by rfl, fun W hW => ?_⟩) ?_; rotate_left
       ·(go_simp; first | done | with_reducible rfl)
       try simp only [Act.put, List.setIfInBounds_toArray, List.set_cons_zero, List.set_cons_succ]
       refine btake 10 (oi := _) (v := ?_) (by simp only [getElem?_toArray, getElem?_cons_succ, getElem?_cons_zero]; rfl) (by kernel_rfl) (by exact fun _ _ _ h => h) (by first | assumption | exact KB.refl _) (.inl ⟨by rfl, fun W hW => ?_⟩) ?_; rotate_left
       ·(go_simp; first | done | with_reducible rfl)
       try simp only [Act.put, List.setIfInBounds_toArray, List.set_cons_zero, List.set_cons_succ]
       refine btake 12 (oi := _) (v := ?_) (by simp only [getElem?_toArray, getElem?_cons_succ, getElem?_cons_zero]; rfl) (by kernel_rfl) (by exact fun _ _ _ h => h) (by first | assumption | exact KB.refl _) (.inl ⟨by rfl, fun W hW => ?_⟩) ?_; rotate_left
       ·(go_simp; first | done | with_reducible rfl)
       try simp only [Act.put, List.setIfInBounds_toArray, List.set_cons_zero, List.set_cons_succ]
       refine btake 13 (oi := _) (v := ?_) (by simp only [getElem?_toArray, getElem?_cons_succ, getElem?_cons_zero]; rfl) (by kernel_rfl) (by exact fun _ _ _ h => h) (by first | assumption | exact KB.refl _) (.inl ⟨by rfl, fun W hW => ?_⟩) ?_; rotate_left
       ·(go_simp; first | done | with_reducible rfl)
       try simp only [Act.put, List.setIfInBounds_toArray, List.set_cons_zero, List.set_cons_succ]
       refine bopH 11 (o := _) (by simp only [getElem?_toArray, getElem?_cons_succ, getElem?_cons_zero]; rfl) (by kernel_rfl) (by first | assumption | exact KB.refl _) (by rfl) (fun K hK => ?_)
       go_simp
       refine ((HVW.out _ B6.out).1.join (HVW.out _ B6.out).2 (by omega) (by omega)).mono ?_
       rintro e t11 ⟨X11, m11, k11, rfl, hs, h⟩
       have B11 := Lib.hid (B6.out.trans (h.mono B6.out.size))
       have hkb : KB u37.heap t11 := KB.of B11.out
       have S11 := Lib.hid (And.intro hs h)
       clear h hs
       refine hK.out _ _ hkb ?_; clear hK K
       try simp only [Act.put, List.setIfInBounds_toArray, List.set_cons_zero, List.set_cons_succ]
       refine bopH 14 (o := _) (by simp only [getElem?_toArray, getElem?_cons_succ, getElem?_cons_zero]; rfl) (by kernel_rfl) (by first | assumption | exact KB.refl _) (by rfl) (fun K hK => ?_)
       go_simp
       refine ((HVW.out _ B11.out).1.rjoin (HVW.out _ B11.out).2 (by omega) (by omega)).mono ?_
       rintro e t14 ⟨X14, m14, k14, rfl, hs, h⟩
       have B14 := Lib.hid (B11.out.trans (h.mono B11.out.size))
       have hkb : KB u37.heap t14 := KB.of B14.out
       have S14 := Lib.hid (And.intro hs h)
       clear h hs
       refine hK.out _ _ hkb ?_; clear hK K
       try simp only [Act.put, List.setIfInBounds_toArray, List.set_cons_zero, List.set_cons_succ]
       refine bopH 15 (o := _) (by simp only [getElem?_toArray, getElem?_cons_succ, getElem?_cons_zero]; rfl) (by kernel_rfl) (by first | assumption | exact KB.refl _) (by rfl) (fun K hK => ?_)
       go_simp
       refine ((S11.out.1.below S14.out.2).rsame S14.out.1 (by omega) (by omega)).mono ?_
       rintro e t15 ⟨rfl, h⟩
       rw [decide_eq_true rfl]
       have B15 := Lib.hid (B14.out.trans (h.mono B14.out.size))
       have hkb : KB u37.heap t15 := KB.of B15.out
       clear h
       refine hK.out _ _ hkb ?_; clear hK K
       try simp only [Act.put, List.setIfInBounds_toArray, List.set_cons_zero, List.set_cons_succ]
       refine btake 16 (oi := _) (v := ?_) (by simp only [getElem?_toArray, getElem?_cons_succ, getElem?_cons_zero]; rfl) (by kernel_rfl) (by exact fun _ _ _ h => h) (by first | assumption | exact KB.refl _) (.inl ⟨by rfl, fun W hW => ?_⟩) ?_; rotate_left
       ·(go_simp; first | done | with_reducible rfl)
       try simp only [Act.put, List.setIfInBounds_toArray, List.set_cons_zero, List.set_cons_succ]
       refine btake 17 (oi := _) (v := ?_) (by simp only [getElem?_toArray, getElem?_cons_succ, getElem?_cons_zero]; rfl) (by kernel_rfl) (by exact fun _ _ _ h => h) (by first | assumption | exact KB.refl _) (.inl ⟨by rfl, fun W hW => ?_⟩) ?_; rotate_left
       ·(go_simp; first | done | with_reducible rfl)
       try simp only [Act.put, List.setIfInBounds_toArray, List.set_cons_zero, List.set_cons_succ]
       refine btake 18 (oi := _) (v := ?_) (by simp only [getElem?_toArray, getElem?_cons_succ, getElem?_cons_zero]; rfl) (by kernel_rfl) (by exact fun _ _ _ h => h) (by first | assumption | exact KB.refl _) (.inl ⟨by rfl, fun W hW => ?_⟩) ?_; rotate_left
       ·(go_simp; first | done | with_reducible rfl)
       try simp only [Act.put, List.setIfInBounds_toArray, List.set_cons_zero, List.set_cons_succ]
       refine btake 19 (oi := _) (v := ?_) (by simp only [getElem?_toArray, getElem?_cons_succ, getElem?_cons_zero]; rfl) (by kernel_rfl) (by exact fun _ _ _ h => h) (by first | assumption | exact KB.refl _) (.inl ⟨by rfl, fun W hW => ?_⟩) ?_; rotate_left
       ·(go_simp; first | done | with_reducible rfl)
       try simp only [Act.put, List.setIfInBounds_toArray, List.set_cons_zero, List.set_cons_succ]
       refine btake 20 (oi := _) (v := ?_) (by simp only [getElem?_toArray, getElem?_cons_succ, getElem?_cons_zero]; rfl) (by kernel_rfl) (by exact fun _ _ _ h => h) (by first | assumption | exact KB.refl _) (.inl ⟨by rfl, fun W hW => ?_⟩) ?_; rotate_left
       ·(go_simp; first | done | with_reducible rfl)
       try simp only [Act.put, List.setIfInBounds_toArray, List.set_cons_zero, List.set_cons_succ]
       refine btake 22 (oi := _) (v := ?_) (by simp only [getElem?_toArray, getElem?_cons_succ, getElem?_cons_zero]; rfl) (by kernel_rfl) (by exact fun _ _ _ h => h) (by first | assumption | exact KB.refl _) (.inl ⟨by rfl, fun W hW => ?_⟩) ?_; rotate_left
       ·(go_simp; first | done | with_reducible rfl)
       try simp only [Act.put, List.setIfInBounds_toArray, List.set_cons_zero, List.set_cons_succ]
       refine btake 23 (oi := _) (v := ?_) (by simp only [getElem?_toArray, getElem?_cons_succ, getElem?_cons_zero]; rfl) (by kernel_rfl) (by exact fun _ _ _ h => h) (by first | assumption | exact KB.refl _) (.inl ⟨by rfl, fun W hW => ?_⟩) ?_; rotate_left
       ·(go_simp; first | done | with_reducible rfl)
       try simp only [Act.put, List.setIfInBounds_toArray, List.set_cons_zero, List.set_cons_succ]
       refine bopH 21 (o := _) (by simp only [getElem?_toArray, getElem?_cons_succ, getElem?_cons_zero]; rfl) (by kernel_rfl) (by first | assumption | exact KB.refl _) (by rfl) (fun K hK => ?_)
       go_simp
       refine ((HVW.out _ B15.out).1.minus (HVW.out _ B15.out).2 (by omega) (by omega)).mono ?_
       rintro e t21 ⟨X21, m21, k21, rfl, hs, h⟩
       have B21 := Lib.hid (B15.out.trans (h.mono B15.out.size))
       have hkb : KB u37.heap t21 := KB.of B21.out
       have S21 := Lib.hid (And.intro hs h)
       clear h hs
       refine hK.out _ _ hkb ?_; clear hK K
       try simp only [Act.put, List.setIfInBounds_toArray, List.set_cons_zero, List.set_cons_succ]
       refine bopH 24 (o := _) (by simp only [getElem?_toArray, getElem?_cons_succ, getElem?_cons_zero]; rfl) (by kernel_rfl) (by first | assumption | exact KB.refl _) (by rfl) (fun K hK => ?_)
       go_simp
       refine ((HVW.out _ B21.out).1.rminus (HVW.out _ B21.out).2 (by omega) (by omega)).mono ?_
       rintro e t24 ⟨X24, m24, k24, rfl, hs, h⟩
       have B24 := Lib.hid (B21.out.trans (h.mono B21.out.size))
       have hkb : KB u37.heap t24 := KB.of B24.out
       have S24 := Lib.hid (And.intro hs h)
       clear h hs
       refine hK.out _ _ hkb ?_; clear hK K
       try simp only [Act.put, List.setIfInBounds_toArray, List.set_cons_zero, List.set_cons_succ]
       refine bopH 25 (o := _) (by simp only [getElem?_toArray, getElem?_cons_succ, getElem?_cons_zero]; rfl) (by kernel_rfl) (by first | assumption | exact KB.refl _) (by rfl) (fun K hK => ?_)
       go_simp
       refine ((S21.out.1.below S24.out.2).rsame S24.out.1 (by omega) (by omega)).mono ?_
       rintro e t25 ⟨rfl, h⟩
       rw [decide_eq_true rfl]
       have B25 := Lib.hid (B24.out.trans (h.mono B24.out.size))
       have hkb : KB u37.heap t25 := KB.of B25.out
       clear h
       refine hK.out _ _ hkb ?_; clear hK K
       try simp only [Act.put, List.setIfInBounds_toArray, List.set_cons_zero, List.set_cons_succ]
       refine btake 26 (oi := _) (v := ?_) (by simp only [getElem?_toArray, getElem?_cons_succ, getElem?_cons_zero]; rfl) (by kernel_rfl) (by exact fun _ _ _ h => h) (by first | assumption | exact KB.refl _) (.inl ⟨by rfl, fun W hW => ?_⟩) ?_; rotate_left
       ·(go_simp; first | done | with_reducible rfl)
       try simp only [Act.put, List.setIfInBounds_toArray, List.set_cons_zero, List.set_cons_succ]
       refine btake 27 (oi := _) (v := ?_) (by simp only [getElem?_toArray, getElem?_cons_succ, getElem?_cons_zero]; rfl) (by kernel_rfl) (by exact fun _ _ _ h => h) (by first | assumption | exact KB.refl _) (.inl ⟨by rfl, fun W hW => ?_⟩) ?_; rotate_left
       ·(go_simp; first | done | with_reducible rfl)
       try simp only [Act.put, List.setIfInBounds_toArray, List.set_cons_zero, List.set_cons_succ]
       refine btake 28 (oi := _) (v := ?_) (by simp only [getElem?_toArray, getElem?_cons_succ, getElem?_cons_zero]; rfl) (by kernel_rfl) (by exact fun _ _ _ h => h) (by first | assumption | exact KB.refl _) (.inl ⟨by rfl, fun W hW => ?_⟩) ?_; rotate_left
       ·(go_simp; first | done | with_reducible rfl)
       try simp only [Act.put, List.setIfInBounds_toArray, List.set_cons_zero, List.set_cons_succ]
       refine btake 29 (oi := _) (v := ?_) (by simp only [getElem?_toArray, getElem?_cons_succ, getElem?_cons_zero]; rfl) (by kernel_rfl) (by exact fun _ _ _ h => h) (by first | assumption | exact KB.refl _) (.inl ⟨by rfl, fun W hW => ?_⟩) ?_; rotate_left
       ·(go_simp; first | done | with_reducible rfl)
       try simp only [Act.put, List.setIfInBounds_toArray, List.set_cons_zero, List.set_cons_succ]
       refine btake 30 (oi := _) (v := ?_) (by simp only [getElem?_toArray, getElem?_cons_succ, getElem?_cons_zero]; rfl) (by kernel_rfl) (by exact fun _ _ _ h => h) (by first | assumption | exact KB.refl _) (.inl ⟨by rfl, fun W hW => ?_⟩) ?_; rotate_left
       ·(go_simp; first | done | with_reducible rfl)
       try simp only [Act.put, List.setIfInBounds_toArray, List.set_cons_zero, List.set_cons_succ]
       refine btake 32 (oi := _) (v := ?_) (by simp only [getElem?_toArray, getElem?_cons_succ, getElem?_cons_zero]; rfl) (by kernel_rfl) (by exact fun _ _ _ h => h) (by first | assumption | exact KB.refl _) (.inl ⟨by rfl, fun W hW => ?_⟩) ?_; rotate_left
       ·(go_simp; first | done | with_reducible rfl)
       try simp only [Act.put, List.setIfInBounds_toArray, List.set_cons_zero, List.set_cons_succ]
       refine bopH 31 (o := _) (by simp only [getElem?_toArray, getElem?_cons_succ, getElem?_cons_zero]; rfl) (by kernel_rfl) (by first | assumption | exact KB.refl _) (by rfl) (fun K hK => ?_)
       go_simp
       refine ((HVW.out _ B25.out).1.same (HVW.out _ B25.out).2 (by omega) (by omega)).mono ?_
       rintro e t31 ⟨rfl, h⟩
       rw [HSM.out]
       have B31 := Lib.hid (B25.out.trans (h.mono B25.out.size))
       have hkb : KB u37.heap t31 := KB.of B31.out
       clear h
       refine hK.out _ _ hkb ?_; clear hK K
       try simp only [Act.put, List.setIfInBounds_toArray, List.set_cons_zero, List.set_cons_succ]
       refine btake 33 (oi := _) (v := ?_) (by simp only [getElem?_toArray, getElem?_cons_succ, getElem?_cons_zero]; rfl) (by kernel_rfl) (by exact fun _ _ _ h => h) (by first | assumption | exact KB.refl _) (.inl ⟨by rfl, fun W hW => ?_⟩) ?_; rotate_left
       ·(go_simp; first | done | with_reducible rfl)
       try simp only [Act.put, List.setIfInBounds_toArray, List.set_cons_zero, List.set_cons_succ]
       refine btake 34 (oi := _) (v := ?_) (by simp only [getElem?_toArray, getElem?_cons_succ, getElem?_cons_zero]; rfl) (by kernel_rfl) (by exact fun _ _ _ h => h) (by first | assumption | exact KB.refl _) (.inl ⟨by rfl, fun W hW => ?_⟩) ?_; rotate_left
       ·(go_simp; first | done | with_reducible rfl)
       try simp only [Act.put, List.setIfInBounds_toArray, List.set_cons_zero, List.set_cons_succ]
       refine btake 35 (oi := _) (v := ?_) (by simp only [getElem?_toArray, getElem?_cons_succ, getElem?_cons_zero]; rfl) (by kernel_rfl) (by exact fun _ _ _ h => h) (by first | assumption | exact KB.refl _) (.inl ⟨by rfl, fun W hW => ?_⟩) ?_; rotate_left
       ·(go_simp; first | done | with_reducible rfl)
       try simp only [Act.put, List.setIfInBounds_toArray, List.set_cons_zero, List.set_cons_succ]
       refine bopH 36 (o := _) (by simp only [getElem?_toArray, getElem?_cons_succ, getElem?_cons_zero]; rfl) (by kernel_rfl) (by first | assumption | exact KB.refl _) (by rfl) (fun K hK => ?_)
       go_simp
       refine ((HVW.out _ B31.out).1.rsame (HVW.out _ B31.out).2 (by omega) (by omega)).mono ?_
       rintro e t36 ⟨rfl, h⟩
       rw [HPS.out]
       have B36 := Lib.hid (B31.out.trans (h.mono B31.out.size))
       have hkb : KB u37.heap t36 := KB.of B36.out
       clear h
       refine hK.out _ _ hkb ?_; clear hK K
       try simp only [Act.put, List.setIfInBounds_toArray, List.set_cons_zero, List.set_cons_succ]
       refine btake 37 (oi := _) (v := ?_) (by simp only [getElem?_toArray, getElem?_cons_succ, getElem?_cons_zero]; rfl) (by kernel_rfl) (by exact fun _ _ _ h => h) (by first | assumption | exact KB.refl _) (.inl ⟨by rfl, fun W hW => ?_⟩) ?_; rotate_left
       ·(go_simp; first | done | with_reducible rfl)
       try simp only [Act.put, List.setIfInBounds_toArray, List.set_cons_zero, List.set_cons_succ]
       refine btake 38 (oi := _) (v := ?_) (by simp only [getElem?_toArray, getElem?_cons_succ, getElem?_cons_zero]; rfl) (by kernel_rfl) (by exact fun _ _ _ h => h) (by first | assumption | exact KB.refl _) (.inl ⟨by rfl, fun W hW => ?_⟩) ?_; rotate_left
       ·(go_simp; first | done | with_reducible rfl)
       try simp only [Act.put, List.setIfInBounds_toArray, List.set_cons_zero, List.set_cons_succ]
       refine btake 39 (oi := _) (v := ?_) (by simp only [getElem?_toArray, getElem?_cons_succ, getElem?_cons_zero]; rfl) (by kernel_rfl) (by exact fun _ _ _ h => h) (by first | assumption | exact KB.refl _) (.inl ⟨by rfl, fun W hW => ?_⟩) ?_; rotate_left
       ·(go_simp; first | done | with_reducible rfl)
       try simp only [Act.put, List.setIfInBounds_toArray, List.set_cons_zero, List.set_cons_succ]
       refine bdone (by kernel_rfl) ?_
       have hbz := HN.out.2.2.2.2.2.trans (B36.out.mono HN.out.2.2.2.2.2.size)
       clear e9 e10 e6 e6' hkb hb0 HVW
       go_wp2_with fail
       go_roundw
       case rel => exact ⟨k + 1, by omega, by go_num, hbz⟩
       case measure => simp [intOf]; omega
    ·obtain rfl : k = 4 := by omega
     have hd1 : decide (((4 : Nat) : Int) < 4) = false := by rw [decide_eq_false_iff_not]; omega
     have hbz := HS.out.2.2.2.trans (hbel.mono HS.out.2.2.2.size)
     go_wp2_with fail
     go_ret
     exact ⟨rfl, hbz⟩
end Go.Proofs.YtaflikgdlkaefaaGreat
/- 'VectorAny': whatever comes in, the law returns true and leaves it as it was. No condition. -/
namespace Go.Proofs.YtaflikgdlkaefaaGreat.vectorAny
open Go.RowKit

theorem walk {H : Type} {enc : TypeId × Value → H} (W : World) (args : Array Value) (ds : List (DataW H)) (p : List MemPlace) (h : Args enc Tryz.f3 W args ds p) :
  Calls Tryz.prog 3 args W fun e W' => e = .returned (.bool true) ∧ Below W.heap.size W W' := by
 obtain ⟨base, vs, rfl, m0⟩ := h.many (ts := [24, 24, 26, 3]) (by rw [Tryz.params3])
 obtain ⟨v0, vs1, d0, ds1, p0, q0, rfl, rfl, o0, m1⟩ := m0.cons
 obtain ⟨v1, vs2, d1, ds2, p1, q1, rfl, rfl, o1, m2⟩ := m1.cons
 obtain ⟨v2, vs3, d2, ds3, p2, q2, rfl, rfl, o2, m3⟩ := m2.cons
 obtain ⟨v3, vs4, d3, ds4, p3, q3, rfl, rfl, o3, m4⟩ := m3.cons
 obtain ⟨rfl, rfl⟩ := m4.nil
 obtain ⟨A0, n0, c0, R0, V0, rfl, h0⟩ := o0.vec
 obtain ⟨A1, n1, c1, R1, V1, rfl, h1⟩ := o1.vec
 obtain ⟨s2, rfl, h2a⟩ := o2.dot
 obtain ⟨n3, rfl, h3a⟩ := o3.i64 Tryz.underlying3
 exact VectorAny_walk W A0 n0 c0 R0 V0 h0 A1 n1 c1 R1 V1 h1 s2 h2a n3 h3a

theorem types : ∀ t ∈ Tryz.f3.params.toList, Tryz.prog.readableRec t = true ∧ t < Tryz.prog.types.size := by
 rw [Tryz.params3]
 intro t ht
 simp only [List.mem_cons, List.not_mem_nil, or_false] at ht
 rcases ht with rfl | rfl | rfl | rfl
 all_goals exact ⟨by kernel_rfl, of_decide_eq_true (by kernel_rfl)⟩
theorem fits (H : Type) (ds : List (DataW H)) (hl : ds.length = Tryz.f3.params.toList.length) : Rows.vectorAnySpec.fn H (ds ++ []) = { results := [.lit (.bool true)], args := ds } := by
 rw [Tryz.params3] at hl
 match ds, hl with
 | [d0, d1, d2, d3], _ => rfl

set_option maxRecDepth 100000 in
theorem over : Rows.vectorAnyRow.holds Tryz.pinned (OpenSpec.ofChange Rows.vectorAnySpec) :=
 OpenClaim.holds_of_wide 3 Tryz.f3 rfl rfl rfl rfl rfl rfl rfl ⟨rfl, rfl, rfl, rfl, rfl⟩ rfl rfl rfl rfl rfl (by kernel_rfl) Tryz.func3 (by kernel_rfl)
  (of_decide_eq_true (by kernel_rfl)) (by unfold Func.isWrapper; first | (rw [if_pos (by decide +kernel)]; kernel_rfl) | (rw [if_neg (by decide +kernel)]; exact ⟨rfl, rfl⟩))
  (fun os started H enc _ => lifted 3 Tryz.f3 Rows.vectorAnySpec Tryz.func3 (by kernel_rfl) rfl rfl types fits os started H enc
   (ChangeSpec.witness6 (enc := enc) (C := Tryz.checked) false ⟨#[], #[.agg #[.slice none 0 0], .agg #[.slice none 0 0], .agg #[.int .i64 0, .int .i64 0], .int .i64 0], []⟩ 8 (by kernel_rfl) (by kernel_rfl) (by kernel_rfl) (by kernel_rfl))
   (fun W args ds p h => walk W args ds p h))

theorem proved : Rows.VectorAnySaid := over
end Go.Proofs.YtaflikgdlkaefaaGreat.vectorAny
