/- Digests: mix, walked. -/
import Derived.Test.YtjbelkpmbbkhgaaShM
namespace Go.Proofs.Ytjbelkpmbbkhgaa
open Go.RowKit Go.Proofs.Ytjbelkpmbbkhgaa.Sh

theorem explode8 {h : List Nat} (hl : h.length = 8) : ∃ x0 x1 x2 x3 x4 x5 x6 x7, h = [x0, x1, x2, x3, x4, x5, x6, x7] := by
  match h, hl with
  | [a, b, c, d, e, f, g, i], _ => exact ⟨a, b, c, d, e, f, g, i, rfl⟩
theorem u32s8 (x0 x1 x2 x3 x4 x5 x6 x7 : Nat) : u32s [x0, x1, x2, x3, x4, x5, x6, x7] = [.int .u32 (x0 : Int), .int .u32 (x1 : Int), .int .u32 (x2 : Int), .int .u32 (x3 : Int), .int .u32 (x4 : Int), .int .u32 (x5 : Int), .int .u32 (x6 : Int), .int .u32 (x7 : Int)] := rfl
set_option maxRecDepth 100000 in
set_option maxHeartbeats 12800000 in
theorem mix_any (w : World) (A : Option Addr) (n c : Nat) (h : List Nat) (hh : Ok8 h) (b : List UInt8) (hb : Sl w w.heap.size A (bv b)) (h0 : n = b.length) (hl : 64 ≤ n) (hn : n ≤ 1000000000) :
    Calls Try.prog 20 #[.agg (u32s h).toArray, .slice A n c] w fun e w' => e = .returned (.agg (u32s (mixS h b)).toArray) ∧ Below w.heap.size w w' := by
  have HSP := Lib.hid (fun W (hW : Below w.heap.size w W) => spread_any W A n c b ((hb.below hW).more hW.size) h0 hl hn)
  obtain ⟨S, hS⟩ : ∃ S, S = u32s (spr b 64) := ⟨_, rfl⟩
  rw [← hS] at HSP
  have hSl : S.length = 64 := by rw [hS, u32s_len, spr_len]
  have hS1 : ∀ u ∈ S, u.oneCell' = true := by rw [hS]; exact u32s_one _
  have HS := Lib.hid hS
  clear hS
  obtain ⟨x0, x1, x2, x3, x4, x5, x6, x7, hx⟩ := explode8 hh.1
  have hH := At.new w 46 #[.int .u32 (x0 : Int), .int .u32 (x1 : Int), .int .u32 (x2 : Int), .int .u32 (x3 : Int), .int .u32 (x4 : Int), .int .u32 (x5 : Int), .int .u32 (x6 : Int), .int .u32 (x7 : Int)]
  have hbb := balloc (Below.refl w.heap.size w) (.cells #[.int .u32 (x0 : Int), .int .u32 (x1 : Int), .int .u32 (x2 : Int), .int .u32 (x3 : Int), .int .u32 (x4 : Int), .int .u32 (x5 : Int), .int .u32 (x6 : Int), .int .u32 (x7 : Int)] 46)
  have e9 : (u32s h).toArray = #[.int .u32 (x0 : Int), .int .u32 (x1 : Int), .int .u32 (x2 : Int), .int .u32 (x3 : Int), .int .u32 (x4 : Int), .int .u32 (x5 : Int), .int .u32 (x6 : Int), .int .u32 (x7 : Int)] := by rw [hx]; rfl
  rw [e9]
  have HX := Lib.hid (And.intro hx hh)
  clear hb h0 hx hh e9
  generalize hw1 : w.alloc (.cells #[.int .u32 (x0 : Int), .int .u32 (x1 : Int), .int .u32 (x2 : Int), .int .u32 (x3 : Int), .int .u32 (x4 : Int), .int .u32 (x5 : Int), .int .u32 (x6 : Int), .int .u32 (x7 : Int)] 46) = w1 at *
  have hR := At.new w1 46 #[.int .u32 0, .int .u32 0, .int .u32 0, .int .u32 0, .int .u32 0, .int .u32 0, .int .u32 0, .int .u32 0]
  have hH2 := hH.alloc (.cells #[.int .u32 0, .int .u32 0, .int .u32 0, .int .u32 0, .int .u32 0, .int .u32 0, .int .u32 0, .int .u32 0] 46)
  have hb2 := hbb.alloc hbb.size (.cells #[.int .u32 0, .int .u32 0, .int .u32 0, .int .u32 0, .int .u32 0, .int .u32 0, .int .u32 0, .int .u32 0] 46)
  have hgr : w.heap.size < w1.heap.size := hH.1
  go_enter Try.func20, Try.ntmps20
  go_wp2_with fail
  generalize w1.alloc (.cells #[.int .u32 0, .int .u32 0, .int .u32 0, .int .u32 0, .int .u32 0, .int .u32 0, .int .u32 0, .int .u32 0] 46) = w2 at hR hH2 hb2 ⊢
  clear hw1 hH
  generalize hg1 : w1.heap.size = gr at hR hgr ⊢
  clear hg1 hbb
  generalize hg2 : w.heap.size = gh at hH2 hgr ⊢
  have hgh : w.heap.size ≤ gh := by omega
  clear hg2
  have k0 := hH2.e 0 rfl
  have k1 := hH2.e 1 rfl
  have k2 := hH2.e 2 rfl
  have k3 := hH2.e 3 rfl
  have k4 := hH2.e 4 rfl
  have k5 := hH2.e 5 rfl
  have k6 := hH2.e 6 rfl
  have k7 := hH2.e 7 rfl
  refine bstart (by kernel_rfl) ?_
  refine btake 1 (oi := _) (v := ?_) (by simp only [List.getElem?_toArray, List.getElem?_cons_succ, List.getElem?_cons_zero]; rfl) (by kernel_rfl) (by exact fun _ _ _ h => h) (by first | assumption | exact KB.refl _) (.inl ⟨by rfl, fun W hW => ?_⟩) ?_; rotate_left
  · (go_simp; first | done | with_reducible rfl)
  try simp only [Act.put, List.setIfInBounds_toArray, List.set_cons_zero, List.set_cons_succ]
  refine btake 3 (oi := _) (v := ?_) (by simp only [List.getElem?_toArray, List.getElem?_cons_succ, List.getElem?_cons_zero]; rfl) (by kernel_rfl) (by exact fun _ _ _ h => h) (by first | assumption | exact KB.refl _) (.inl ⟨by rfl, fun W hW => ?_⟩) ?_; rotate_left
  · (go_simp; first | done | with_reducible rfl)
  try simp only [Act.put, List.setIfInBounds_toArray, List.set_cons_zero, List.set_cons_succ]
  refine bparD [YldD.eq 0 (some 16) none (.agg (u32s keys).toArray), YldD.eq 2 (some 18) none (.agg S.toArray), YldD.at 4 (some 5) none (u32s z64), YldD.at 5 (some 6) none (u32s z64), YldD.at 6 (some 7) none (u32s z8)] 3 rfl (by kernel_rfl) (by kernel_rfl) (fun s hs => ?_) (fun vs W hbW hd hds => ?_)
  · simp only [List.mem_cons, List.not_mem_nil, or_false] at hs
    rcases hs with rfl | rfl | rfl | rfl | rfl
    · -- 0: newsreel/sha.table
      intro vs W hbW hd
      clear hd
      refine parD_of (j := 0) (d := (some 16)) (o := _) (by simp only [List.getElem?_toArray, List.getElem?_cons_zero]; rfl) (by rfl) (fun K hK => ?_)
      simp only [putd, puts, List.map_cons, List.map_nil, YldD.y, List.foldl_cons, List.foldl_nil, Act.put, List.setIfInBounds_toArray, List.set_cons_zero, List.set_cons_succ, YldD.eq, YldD.at] at hK ⊢
      go_simp
      refine (table_any _).mono ?_
      rintro e w3 ⟨rfl, h3⟩
      exact hK.out _ _ _ (by rfl) (StepD.quiet rfl h3 rfl)
    · -- 2: newsreel/sha.spread
      intro vs W hbW hd
      obtain ⟨h0, b0⟩ : (vs 0 = .agg (u32s keys).toArray) ∧ ∀ g, (vs 0).bk = some g → _ := hd _ (.head _) (by kernel_rfl) (by first | exact .inl rfl | exact .inr rfl)
      clear hd
      refine parD_of (j := 2) (d := (some 18)) (o := _) (by simp only [List.getElem?_toArray, List.getElem?_cons_succ, List.getElem?_cons_zero]; rfl) (by rfl) (fun K hK => ?_)
      simp only [putd, puts, List.map_cons, List.map_nil, YldD.y, List.foldl_cons, List.foldl_nil, Act.put, List.setIfInBounds_toArray, List.set_cons_zero, List.set_cons_succ, YldD.eq, YldD.at] at hK ⊢
      rw [h0] at hK ⊢
      go_simp
      refine (HSP.out _ (hb2.drew.trans (hbW.mono hb2.size))).mono ?_
      rintro e w3 ⟨rfl, h3⟩
      exact hK.out _ _ _ (by rfl) (StepD.quiet rfl h3 rfl)
    · -- 4: Op.alloc 52
      intro vs W hbW hd
      clear hd
      refine parD_of (j := 4) (d := (some 5)) (o := _) (by simp only [List.getElem?_toArray, List.getElem?_cons_succ, List.getElem?_cons_zero]; rfl) (by rfl) (fun K hK => ?_)
      simp only [putd, puts, List.map_cons, List.map_nil, YldD.y, List.foldl_cons, List.foldl_nil, Act.put, List.setIfInBounds_toArray, List.set_cons_zero, List.set_cons_succ, YldD.eq, YldD.at] at hK ⊢
      refine wpVal (ex_al64 rfl) ?_
      exact hK.out _ _ _ (by rfl) (StepD.new (At.new W 52 (u32s z64).toArray) (balloc (Below.refl _ _) _) (Nat.le_refl _))
    · -- 5: Op.alloc 52
      intro vs W hbW hd
      clear hd
      refine parD_of (j := 5) (d := (some 6)) (o := _) (by simp only [List.getElem?_toArray, List.getElem?_cons_succ, List.getElem?_cons_zero]; rfl) (by rfl) (fun K hK => ?_)
      simp only [putd, puts, List.map_cons, List.map_nil, YldD.y, List.foldl_cons, List.foldl_nil, Act.put, List.setIfInBounds_toArray, List.set_cons_zero, List.set_cons_succ, YldD.eq, YldD.at] at hK ⊢
      refine wpVal (ex_al64 rfl) ?_
      exact hK.out _ _ _ (by rfl) (StepD.new (At.new W 52 (u32s z64).toArray) (balloc (Below.refl _ _) _) (Nat.le_refl _))
    · -- 6: Op.alloc 46
      intro vs W hbW hd
      clear hd
      refine parD_of (j := 6) (d := (some 7)) (o := _) (by simp only [List.getElem?_toArray, List.getElem?_cons_succ, List.getElem?_cons_zero]; rfl) (by rfl) (fun K hK => ?_)
      simp only [putd, puts, List.map_cons, List.map_nil, YldD.y, List.foldl_cons, List.foldl_nil, Act.put, List.setIfInBounds_toArray, List.set_cons_zero, List.set_cons_succ, YldD.eq, YldD.at] at hK ⊢
      go_simp
      exact hK.out _ _ _ (by rfl) (StepD.new (At.new W 46 (u32s z8).toArray) (balloc (Below.refl _ _) _) (Nat.le_refl _))
  obtain ⟨h0, b0⟩ : (vs 0 = .agg (u32s keys).toArray) ∧ ∀ g, (vs 0).bk = some g → _ := hd _ (.head _) rfl
  obtain ⟨h2, b2⟩ : (vs 2 = .agg S.toArray) ∧ ∀ g, (vs 2).bk = some g → _ := hd _ (.tail _ (.head _)) rfl
  obtain ⟨h4, b4⟩ : ((YldD.at 4 (some 5) none (u32s z64)).pr (vs 4) W) ∧ ∀ g, (vs 4).bk = some g → _ := hd _ (.tail _ (.tail _ (.head _))) rfl
  obtain ⟨h5, b5⟩ : ((YldD.at 5 (some 6) none (u32s z64)).pr (vs 5) W) ∧ ∀ g, (vs 5).bk = some g → _ := hd _ (.tail _ (.tail _ (.tail _ (.head _)))) rfl
  obtain ⟨h6, b6⟩ : ((YldD.at 6 (some 7) none (u32s z8)).pr (vs 6) W) ∧ ∀ g, (vs 6).bk = some g → _ := hd _ (.tail _ (.tail _ (.tail _ (.tail _ (.head _))))) rfl
  have n4_5 : (vs 4).bk = none ∨ (vs 4).bk ≠ (vs 5).bk := hds _ (.tail _ (.tail _ (.head _))) _ (.tail _ (.tail _ (.tail _ (.head _)))) rfl rfl (by simp [YldD.at, YldD.at])
  have n4_6 : (vs 4).bk = none ∨ (vs 4).bk ≠ (vs 6).bk := hds _ (.tail _ (.tail _ (.head _))) _ (.tail _ (.tail _ (.tail _ (.tail _ (.head _))))) rfl rfl (by simp [YldD.at, YldD.at])
  have n5_6 : (vs 5).bk = none ∨ (vs 5).bk ≠ (vs 6).bk := hds _ (.tail _ (.tail _ (.tail _ (.head _)))) _ (.tail _ (.tail _ (.tail _ (.tail _ (.head _))))) rfl rfl (by simp [YldD.at, YldD.at])
  clear hds
  clear hd
  have hKW := KB.of hbW
  simp only [putd, puts, List.map_cons, List.map_nil, YldD.y, List.foldl_cons, List.foldl_nil, Act.put, List.setIfInBounds_toArray, List.set_cons_zero, List.set_cons_succ, YldD.eq, YldD.at]
  rw [h0]
  rw [h2]
  generalize vs 4 = v4 at *
  generalize vs 5 = v5 at *
  generalize vs 6 = v6 at *
  obtain ⟨g4, rfl, hK4⟩ := h4
  obtain ⟨g5, rfl, hW5⟩ := h5
  obtain ⟨g6, rfl, hV6⟩ := h6
  have ne45 : g4 ≠ g5 := fun e => by rcases n4_5 with h | h; cases h; exact h (by rw [e])
  have ne46 : g4 ≠ g6 := fun e => by rcases n4_6 with h | h; cases h; exact h (by rw [e])
  have ne56 : g5 ≠ g6 := fun e => by rcases n5_6 with h | h; cases h; exact h (by rw [e])
  have lo4 : w2.heap.size ≤ g4 := (b4 g4 rfl).1
  have lo5 : w2.heap.size ≤ g5 := (b5 g5 rfl).1
  have lo6 : w2.heap.size ≤ g6 := (b6 g6 rfl).1
  have lh : gh < w2.heap.size := hH2.1
  have lr : gr < w2.heap.size := hR.1
  have lw : w.heap.size ≤ w2.heap.size := hb2.size
  have nh4 : g4 ≠ gh := by omega
  have nh5 : g5 ≠ gh := by omega
  have nr4 : g4 ≠ gr := by omega
  have nr5 : g5 ≠ gr := by omega
  have nh6 : g6 ≠ gh := by omega
  have nr6 : g6 ≠ gr := by omega
  have wg4 : w.heap.size ≤ g4 := by omega
  have wg5 : w.heap.size ≤ g5 := by omega
  have wg6 : w.heap.size ≤ g6 := by omega
  have hHW := hH2.below ((Below.refl _ w2).drew.trans hbW)
  have hRW := hR.below ((Below.refl _ w2).drew.trans hbW)
  have hbZ := hb2.drew.trans (hbW.mono hb2.size)
  have hK5 := hK4.putL (u32s keys) rfl
  have hb5 := below_putL (u32s keys) 0 hbW lo4
  have hW6 := hW5.putL_other (u32s keys) 0 _ ne45
  have hV7 := hV6.putL_other (u32s keys) 0 _ ne46
  have hW7 := hW6.putL (S) (by rw [hSl]; rfl)
  have hK6 := hK5.putL_other (S) 0 _ (Ne.symm ne45)
  have hV8 := hV7.putL_other (S) 0 _ ne56
  have hb6 := below_putL (S) 0 hb5 lo5
  have v0 := (cells8 hV8 rfl 0 (by omega))
  have v1 := (cells8 hV8 rfl 1 (by omega))
  have v2 := (cells8 hV8 rfl 2 (by omega))
  have v3 := (cells8 hV8 rfl 3 (by omega))
  have v4' := (cells8 hV8 rfl 4 (by omega))
  have v5' := (cells8 hV8 rfl 5 (by omega))
  have v6' := (cells8 hV8 rfl 6 (by omega))
  have v7 := (cells8 hV8 rfl 7 (by omega))
  -- 7: Op.store 52 (Operand.tmp 5) (Operand.tmp 16)
  refine bopH 7 (o := _) (by simp only [List.getElem?_toArray, List.getElem?_cons_succ, List.getElem?_cons_zero]; rfl) (by kernel_rfl) (by first | assumption | exact KB.refl _) (by rfl) (fun K hK => ?_)
  refine wpSkip (w' := putL W g4 0 (u32s keys)) (ex_st64 (us := u32s keys) (old := u32s z64) (g := g4) rfl rfl rfl hK4 rfl keysLen (u32s_one keys)) ?_
  have hkb : KB w2.drew.heap (putL W g4 0 (u32s keys)) := KB.of hb5
  refine hK.out _ _ hkb ?_; clear hK K
  try simp only [Act.put]
  -- 8: Op.store 52 (Operand.tmp 6) (Operand.tmp 18)
  refine bopH 8 (o := _) (by simp only [List.getElem?_toArray, List.getElem?_cons_succ, List.getElem?_cons_zero]; rfl) (by kernel_rfl) (by first | assumption | exact KB.refl _) (by rfl) (fun K hK => ?_)
  refine wpSkip (w' := putL (putL W g4 0 (u32s keys)) g5 0 (S)) (ex_st64 (us := S) (old := u32s z64) (g := g5) rfl rfl rfl hW6 rfl hSl hS1) ?_
  have hkb : KB w2.drew.heap (putL (putL W g4 0 (u32s keys)) g5 0 (S)) := KB.of hb6
  refine hK.out _ _ hkb ?_; clear hK K
  try simp only [Act.put]
  -- 9: Op.store 46 (Operand.tmp 7) (Operand.tmp 19)
  refine bopH 9 (o := _) (by simp only [List.getElem?_toArray, List.getElem?_cons_succ, List.getElem?_cons_zero]; rfl) (by kernel_rfl) (by first | assumption | exact KB.refl _) (by rfl) (fun K hK => ?_)
  have hHZ := (hHW.putL_other (u32s keys) 0 _ nh4).putL_other S 0 _ nh5
  have hRZ := (hRW.putL_other (u32s keys) 0 _ nr4).putL_other S 0 _ nr5
  have hbY := below_putL S 0 (below_putL (u32s keys) 0 hbZ wg4) wg5
  clear hK4 hK5 hW5 hW6 hV6 hV7 hbZ hHW hRW n4_5 n4_6 n5_6 b4 b5 b6
  generalize putL (putL W g4 0 (u32s keys)) g5 0 (S) = W2 at *
  have hx8 : u32s h = [.int .u32 (x0 : Int), .int .u32 (x1 : Int), .int .u32 (x2 : Int), .int .u32 (x3 : Int), .int .u32 (x4 : Int), .int .u32 (x5 : Int), .int .u32 (x6 : Int), .int .u32 (x7 : Int)] := by rw [HX.out.1]; rfl
  have hV9 := hV8.putL (u32s h) (by rw [hx8]; rfl)
  have hH9 := hHZ.putL_other (u32s h) 0 _ nh6
  have hR9 := hRZ.putL_other (u32s h) 0 _ nr6
  have hK9 := hK6.putL_other (u32s h) 0 _ (Ne.symm ne46)
  have hW9 := hW7.putL_other (u32s h) 0 _ (Ne.symm ne56)
  have hb9 := below_putL (u32s h) 0 hbY wg6
  have hb9' := below_putL (u32s h) 0 hb6 lo6
  replace hH9 : At (putL W2 g6 0 (u32s h)) gh (u32s h) := by rw [← hx8] at hH9; exact hH9
  have e9 : putL W2 g6 0 (u32s h) = putL W2 g6 0 [.int .u32 (x0 : Int), .int .u32 (x1 : Int), .int .u32 (x2 : Int), .int .u32 (x3 : Int), .int .u32 (x4 : Int), .int .u32 (x5 : Int), .int .u32 (x6 : Int), .int .u32 (x7 : Int)] := by rw [hx8]
  rw [e9] at hV9 hH9 hR9 hK9 hW9 hb9 hb9'
  clear e9 hx8
  go_simp
  have hkb : KB w2.drew.heap (putL W2 g6 0 [.int .u32 (x0 : Int), .int .u32 (x1 : Int), .int .u32 (x2 : Int), .int .u32 (x3 : Int), .int .u32 (x4 : Int), .int .u32 (x5 : Int), .int .u32 (x6 : Int), .int .u32 (x7 : Int)]) := KB.of hb9'
  refine hK.out _ _ hkb ?_; clear hK K
  try simp only [Act.put, List.setIfInBounds_toArray, List.set_cons_zero, List.set_cons_succ]
  refine bdone (by kernel_rfl) ?_
  clear hkb hb9' hb5 hb6 hbW hKW v0 v1 v2 v3 v4' v5' v6' v7 hV8 hHZ hRZ hK6 hW7 hbY k0 k1 k2 k3 k4 k5 k6 k7 hH2 hb2 hR
  change Exit.then _ _ _ _ (putL W2 g6 0 [.int .u32 (x0 : Int), .int .u32 (x1 : Int), .int .u32 (x2 : Int), .int .u32 (x3 : Int), .int .u32 (x4 : Int), .int .u32 (x5 : Int), .int .u32 (x6 : Int), .int .u32 (x7 : Int)])
  generalize putL W2 g6 0 [.int .u32 (x0 : Int), .int .u32 (x1 : Int), .int .u32 (x2 : Int), .int .u32 (x3 : Int), .int .u32 (x4 : Int), .int .u32 (x5 : Int), .int .u32 (x6 : Int), .int .u32 (x7 : Int)] = W3 at *
  have hgh9 : w.heap.size ≤ gh := hgh
  have wgr : w.heap.size ≤ gr := by omega
  have nrh : gr ≠ gh := by omega
  clear lo4 lo5 lo6 lh lr lw hgh hgr
  have HSL := Lib.hid (And.intro HS.out (And.intro hSl hS1))
  clear hSl hS1 HS
  go_wp2_with fail
  go_loopw [20] (fun x20 wr => ∃ k : Nat, k ≤ 64 ∧ x20 = .int .i64 (k : Int) ∧ At wr g4 (u32s keys) ∧ At wr g5 S ∧ At wr g6 (u32s (mixR b h k)) ∧ At wr gh (u32s h) ∧ At wr gr (u32s z8) ∧ Below w.heap.size w wr) (fun x20 _ => 64 - (intOf x20).toNat)
  case atStart => exact ⟨0, by omega, rfl, hK9, hW9, hV9, hH9, hR9, hb9⟩
  case round =>
    clear hK9 hW9 hV9 hH9 hR9 hb9
    obtain ⟨k, hk, rfl, hK, hW, hV, hH, hR, hbel⟩ := hrel
    by_cases hlt : k < 64
    · have hok := mixR_ok b HX.out.2 k
      have hvl := fun i => at'_lt hok.2 i
      have hcs := cells8 hV hok.1
      have ekk := cellB (hK.c k (u32s_get keys k (by simpa [keys] using hlt)))
      have exx := cellB (hW.c k (by rw [HSL.out.1]; exact u32s_get (spr b 64) k (by rw [spr_len]; exact hlt)))
      have hstep : mixR b h (k + 1) = rnd (at' keys k) (at' (spr b 64) k) (mixR b h k) := rfl
      generalize at' keys k = kk at *
      generalize at' (spr b 64) k = xx at *
      obtain ⟨P1, P, A0, N0, B0, C0, T1, T2, T3, T, Q1, Q, A1, B1, C1, D1, E1, U, TU, V3, m1, m2, m3, m4, m5, m6, m7, m8, m9, m10, m11, m12, m13, m14, m15, m16, m17, m18, m19, m20, m21⟩ := rnd_ops kk xx hvl
      rw [m21] at hstep
      obtain ⟨v0, f0⟩ := hcs 0 (by omega)
      obtain ⟨v1, f1⟩ := hcs 1 (by omega)
      obtain ⟨v2, f2⟩ := hcs 2 (by omega)
      obtain ⟨v3, f3⟩ := hcs 3 (by omega)
      obtain ⟨v4, f4⟩ := hcs 4 (by omega)
      obtain ⟨v5, f5⟩ := hcs 5 (by omega)
      obtain ⟨v6, f6⟩ := hcs 6 (by omega)
      obtain ⟨v7, f7⟩ := hcs 7 (by omega)
      have hl0 := hvl 0
      have hl4 := hvl 4
      have HVL := Lib.hid hok.1
      clear hvl hcs m21 hok
      generalize hL : mixR b h k = L at *
      generalize at' L 0 = y0 at *
      generalize at' L 1 = y1 at *
      generalize at' L 2 = y2 at *
      generalize at' L 3 = y3 at *
      generalize at' L 4 = y4 at *
      generalize at' L 5 = y5 at *
      generalize at' L 6 = y6 at *
      generalize at' L 7 = y7 at *
      have HST := Lib.hid hstep
      clear hstep hL
      have i8 : IntKind.i64.wrap (k : Int) = (k : Int) := by rw [IntKind.wrap_i64]; omega
      have hd1 : decide ((k : Int) < 64) = true := by rw [decide_eq_true_eq]; omega
      have hk0 : (0 : Int) ≤ (k : Int) := by omega
      have hk1 : (k : Int) < 64 := by omega
      have e0 := cellB v0
      have e4 := cellB v4
      go_wp2_with fail
      refine bstart (by kernel_rfl) ?_
      refine btake 0 (oi := _) (v := ?_) (by simp only [List.getElem?_toArray, List.getElem?_cons_zero]; rfl) (by kernel_rfl) (by exact fun _ _ _ h => h) (by first | assumption | exact KB.refl _) (.inl ⟨by rfl, fun W hW => ?_⟩) ?_; rotate_left
      · (go_simp; first | done | with_reducible rfl)
      try simp only [Act.put, List.setIfInBounds_toArray, List.set_cons_zero, List.set_cons_succ]
      refine btake 1 (oi := _) (v := ?_) (by simp only [List.getElem?_toArray, List.getElem?_cons_succ, List.getElem?_cons_zero]; rfl) (by kernel_rfl) (by exact fun _ _ _ h => h) (by first | assumption | exact KB.refl _) (.inl ⟨by rfl, fun W hW => ?_⟩) ?_; rotate_left
      · (go_simp; first | done | with_reducible rfl)
      try simp only [Act.put, List.setIfInBounds_toArray, List.set_cons_zero, List.set_cons_succ]
      refine btake 2 (oi := _) (v := ?_) (by simp only [List.getElem?_toArray, List.getElem?_cons_succ, List.getElem?_cons_zero]; rfl) (by kernel_rfl) (by exact fun _ _ _ h => h) (by first | assumption | exact KB.refl _) (.inl ⟨by rfl, fun W hW => ?_⟩) ?_; rotate_left
      · (go_simp; first | done | with_reducible rfl)
      try simp only [Act.put, List.setIfInBounds_toArray, List.set_cons_zero, List.set_cons_succ]
      refine btake 3 (oi := _) (v := ?_) (by simp only [List.getElem?_toArray, List.getElem?_cons_succ, List.getElem?_cons_zero]; rfl) (by kernel_rfl) (by exact fun _ _ _ h => h) (by first | assumption | exact KB.refl _) (.inl ⟨by rfl, fun W hW => ?_⟩) ?_; rotate_left
      · (go_simp; first | done | with_reducible rfl)
      try simp only [Act.put, List.setIfInBounds_toArray, List.set_cons_zero, List.set_cons_succ]
      refine btake 4 (oi := _) (v := ?_) (by simp only [List.getElem?_toArray, List.getElem?_cons_succ, List.getElem?_cons_zero]; rfl) (by kernel_rfl) (by exact fun _ _ _ h => h) (by first | assumption | exact KB.refl _) (.inl ⟨by rfl, fun W hW => ?_⟩) ?_; rotate_left
      · (go_simp; first | done | with_reducible rfl)
      try simp only [Act.put, List.setIfInBounds_toArray, List.set_cons_zero, List.set_cons_succ]
      refine btake 5 (oi := _) (v := ?_) (by simp only [List.getElem?_toArray, List.getElem?_cons_succ, List.getElem?_cons_zero]; rfl) (by kernel_rfl) (by exact fun _ _ _ h => h) (by first | assumption | exact KB.refl _) (.inl ⟨by rfl, fun W hW => ?_⟩) ?_; rotate_left
      · (go_simp; first | done | with_reducible rfl)
      try simp only [Act.put, List.setIfInBounds_toArray, List.set_cons_zero, List.set_cons_succ]
      refine bdone (by kernel_rfl) ?_
      have HD : At wr.drew g4 (u32s keys) ∧ At wr.drew g5 S ∧ At wr.drew g6 (u32s L) ∧ At wr.drew gh (u32s h) ∧ At wr.drew gr (u32s z8) := ⟨hK.drew, hW.drew, hV.drew, hH.drew, hR.drew⟩
      have HG : wr.drew.frozen? ⟨g6, 0, none⟩ = false ∧ wr.drew.frozen? ⟨g6, 1, none⟩ = false ∧ wr.drew.frozen? ⟨g6, 2, none⟩ = false ∧ wr.drew.frozen? ⟨g6, 3, none⟩ = false ∧ wr.drew.frozen? ⟨g6, 4, none⟩ = false ∧ wr.drew.frozen? ⟨g6, 5, none⟩ = false ∧ wr.drew.frozen? ⟨g6, 6, none⟩ = false ∧ wr.drew.frozen? ⟨g6, 7, none⟩ = false := ⟨f0, f1, f2, f3, f4, f5, f6, f7⟩
      have HC : wr.drew.cell? ⟨g6, 0, none⟩ = some (.int .u32 (y0 : Int)) ∧ wr.drew.cell? ⟨g6, 1, none⟩ = some (.int .u32 (y1 : Int)) ∧ wr.drew.cell? ⟨g6, 2, none⟩ = some (.int .u32 (y2 : Int)) ∧ wr.drew.cell? ⟨g6, 3, none⟩ = some (.int .u32 (y3 : Int)) ∧ wr.drew.cell? ⟨g6, 4, none⟩ = some (.int .u32 (y4 : Int)) ∧ wr.drew.cell? ⟨g6, 5, none⟩ = some (.int .u32 (y5 : Int)) ∧ wr.drew.cell? ⟨g6, 6, none⟩ = some (.int .u32 (y6 : Int)) ∧ wr.drew.cell? ⟨g6, 7, none⟩ = some (.int .u32 (y7 : Int)) := ⟨v0, v1, v2, v3, v4, v5, v6, v7⟩
      replace hbel := hbel.drew
      have ekk' : ∀ W, KB wr.drew.heap W → W.cell? ⟨g4, k, none⟩ = some (.int .u32 (kk : Int)) := ekk
      have exx' : ∀ W, KB wr.drew.heap W → W.cell? ⟨g5, k, none⟩ = some (.int .u32 (xx : Int)) := exx
      clear e0 e4 ekk exx v0 v1 v2 v3 v4 v5 v6 v7 f0 f1 f2 f3 f4 f5 f6 f7 hK hW hV hH hR
      generalize wr.drew = wq at hbel HD HC HG ekk' exx' ⊢
      obtain ⟨hK, hW, hV, hH, hR⟩ := HD
      obtain ⟨v0, v1, v2, v3, v4, v5, v6, v7⟩ := HC
      go_wp2_with fail
      refine (RotL_any wq y4 6 26 hl4 (by omega) (by omega) rfl (-6) rfl).mono ?_
      rintro e w3 ⟨rfl, rfl⟩
      go_wp2_with fail
      refine (RotL_any wq y4 11 21 hl4 (by omega) (by omega) rfl (-11) rfl).mono ?_
      rintro e w3 ⟨rfl, rfl⟩
      go_wp2_with fail
      refine (RotL_any wq y4 25 7 hl4 (by omega) (by omega) rfl (-25) rfl).mono ?_
      rintro e w3 ⟨rfl, rfl⟩
      go_wp2_with fail
      have e5 := cellB v5
      have e6 := cellB v6
      have e7 := cellB v7
      refine bstart (by kernel_rfl) ?_
      refine btake 0 (oi := _) (v := ?_) (by simp only [List.getElem?_toArray, List.getElem?_cons_zero]; rfl) (by kernel_rfl) (by exact fun _ _ _ h => h) (by first | assumption | exact KB.refl _) (.inl ⟨by rfl, fun W hW => ?_⟩) ?_; rotate_left
      · (go_simp; first | done | with_reducible rfl)
      try simp only [Act.put, List.setIfInBounds_toArray, List.set_cons_zero, List.set_cons_succ]
      refine btake 1 (oi := _) (v := ?_) (by simp only [List.getElem?_toArray, List.getElem?_cons_succ, List.getElem?_cons_zero]; rfl) (by kernel_rfl) (by exact fun _ _ _ h => h) (by first | assumption | exact KB.refl _) (.inl ⟨by rfl, fun W hW => ?_⟩) ?_; rotate_left
      · (go_simp; first | done | with_reducible rfl)
      try simp only [Act.put, List.setIfInBounds_toArray, List.set_cons_zero, List.set_cons_succ]
      refine btake 2 (oi := _) (v := ?_) (by simp only [List.getElem?_toArray, List.getElem?_cons_succ, List.getElem?_cons_zero]; rfl) (by kernel_rfl) (by exact fun _ _ _ h => h) (by first | assumption | exact KB.refl _) (.inl ⟨by rfl, fun W hW => ?_⟩) ?_; rotate_left
      · (go_simp; first | done | with_reducible rfl)
      try simp only [Act.put, List.setIfInBounds_toArray, List.set_cons_zero, List.set_cons_succ]
      refine btake 3 (oi := _) (v := ?_) (by simp only [List.getElem?_toArray, List.getElem?_cons_succ, List.getElem?_cons_zero]; rfl) (by kernel_rfl) (by exact fun _ _ _ h => h) (by first | assumption | exact KB.refl _) (.inl ⟨by rfl, fun W hW => ?_⟩) ?_; rotate_left
      · (go_simp; first | done | with_reducible rfl)
      try simp only [Act.put, List.setIfInBounds_toArray, List.set_cons_zero, List.set_cons_succ]
      refine btake 4 (oi := _) (v := ?_) (by simp only [List.getElem?_toArray, List.getElem?_cons_succ, List.getElem?_cons_zero]; rfl) (by kernel_rfl) (by exact fun _ _ _ h => h) (by first | assumption | exact KB.refl _) (.inl ⟨by rfl, fun W hW => ?_⟩) ?_; rotate_left
      · (go_simp; first | done | with_reducible rfl)
      try simp only [Act.put, List.setIfInBounds_toArray, List.set_cons_zero, List.set_cons_succ]
      refine btake 5 (oi := _) (v := ?_) (by simp only [List.getElem?_toArray, List.getElem?_cons_succ, List.getElem?_cons_zero]; rfl) (by kernel_rfl) (by exact fun _ _ _ h => h) (by first | assumption | exact KB.refl _) (.inl ⟨by rfl, fun W hW => ?_⟩) ?_; rotate_left
      · (go_simp; first | done | with_reducible rfl)
      try simp only [Act.put, List.setIfInBounds_toArray, List.set_cons_zero, List.set_cons_succ]
      refine btake 6 (oi := _) (v := ?_) (by simp only [List.getElem?_toArray, List.getElem?_cons_succ, List.getElem?_cons_zero]; rfl) (by kernel_rfl) (by exact fun _ _ _ h => h) (by first | assumption | exact KB.refl _) (.inl ⟨by rfl, fun W hW => ?_⟩) ?_; rotate_left
      · (go_simp; first | done | with_reducible rfl)
      try simp only [Act.put, List.setIfInBounds_toArray, List.set_cons_zero, List.set_cons_succ]
      refine btake 7 (oi := _) (v := ?_) (by simp only [List.getElem?_toArray, List.getElem?_cons_succ, List.getElem?_cons_zero]; rfl) (by kernel_rfl) (by exact fun _ _ _ h => h) (by first | assumption | exact KB.refl _) (.inl ⟨by rfl, fun W hW => ?_⟩) ?_; rotate_left
      · (go_simp; first | done | with_reducible rfl)
      try simp only [Act.put, List.setIfInBounds_toArray, List.set_cons_zero, List.set_cons_succ]
      refine btake 8 (oi := _) (v := ?_) (by simp only [List.getElem?_toArray, List.getElem?_cons_succ, List.getElem?_cons_zero]; rfl) (by kernel_rfl) (by exact fun _ _ _ h => h) (by first | assumption | exact KB.refl _) (.inl ⟨by rfl, fun W hW => ?_⟩) ?_; rotate_left
      · (go_simp; first | done | with_reducible rfl)
      try simp only [Act.put, List.setIfInBounds_toArray, List.set_cons_zero, List.set_cons_succ]
      refine btake 9 (oi := _) (v := ?_) (by simp only [List.getElem?_toArray, List.getElem?_cons_succ, List.getElem?_cons_zero]; rfl) (by kernel_rfl) (by exact fun _ _ _ h => h) (by first | assumption | exact KB.refl _) (.inl ⟨by rfl, fun W hW => ?_⟩) ?_; rotate_left
      · (go_simp; first | done | with_reducible rfl)
      try simp only [Act.put, List.setIfInBounds_toArray, List.set_cons_zero, List.set_cons_succ]
      refine btake 10 (oi := _) (v := ?_) (by simp only [List.getElem?_toArray, List.getElem?_cons_succ, List.getElem?_cons_zero]; rfl) (by kernel_rfl) (by exact fun _ _ _ h => h) (by first | assumption | exact KB.refl _) (.inl ⟨by rfl, fun W hW => ?_⟩) ?_; rotate_left
      · (go_simp; first | done | with_reducible rfl)
      try simp only [Act.put, List.setIfInBounds_toArray, List.set_cons_zero, List.set_cons_succ]
      refine btake 11 (oi := _) (v := ?_) (by simp only [List.getElem?_toArray, List.getElem?_cons_succ, List.getElem?_cons_zero]; rfl) (by kernel_rfl) (by exact fun _ _ _ h => h) (by first | assumption | exact KB.refl _) (.inl ⟨by rfl, fun W hW => ?_⟩) ?_; rotate_left
      · (go_simp; first | done | with_reducible rfl)
      try simp only [Act.put, List.setIfInBounds_toArray, List.set_cons_zero, List.set_cons_succ]
      refine btake 12 (oi := _) (v := ?_) (by simp only [List.getElem?_toArray, List.getElem?_cons_succ, List.getElem?_cons_zero]; rfl) (by kernel_rfl) (by exact fun _ _ _ h => h) (by first | assumption | exact KB.refl _) (.inl ⟨by rfl, fun W hW => ?_⟩) ?_; rotate_left
      · (go_simp; first | done | with_reducible rfl)
      try simp only [Act.put, List.setIfInBounds_toArray, List.set_cons_zero, List.set_cons_succ]
      refine btake 13 (oi := _) (v := ?_) (by simp only [List.getElem?_toArray, List.getElem?_cons_succ, List.getElem?_cons_zero]; rfl) (by kernel_rfl) (by exact fun _ _ _ h => h) (by first | assumption | exact KB.refl _) (.inl ⟨by rfl, fun W hW => ?_⟩) ?_; rotate_left
      · (go_simp; first | done | with_reducible rfl)
      try simp only [Act.put, List.setIfInBounds_toArray, List.set_cons_zero, List.set_cons_succ]
      refine btake 14 (oi := _) (v := ?_) (by simp only [List.getElem?_toArray, List.getElem?_cons_succ, List.getElem?_cons_zero]; rfl) (by kernel_rfl) (by exact fun _ _ _ h => h) (by first | assumption | exact KB.refl _) (.inl ⟨by rfl, fun W hW => ?_⟩) ?_; rotate_left
      · (go_simp; first | done | with_reducible rfl)
      try simp only [Act.put, List.setIfInBounds_toArray, List.set_cons_zero, List.set_cons_succ]
      refine btake 15 (oi := _) (v := ?_) (by simp only [List.getElem?_toArray, List.getElem?_cons_succ, List.getElem?_cons_zero]; rfl) (by kernel_rfl) (by exact fun _ _ _ h => h) (by first | assumption | exact KB.refl _) (.inl ⟨by rfl, fun W hW => ?_⟩) ?_; rotate_left
      · (go_simp; first | done | with_reducible rfl)
      try simp only [Act.put, List.setIfInBounds_toArray, List.set_cons_zero, List.set_cons_succ]
      refine btake 16 (oi := _) (v := ?_) (by simp only [List.getElem?_toArray, List.getElem?_cons_succ, List.getElem?_cons_zero]; rfl) (by kernel_rfl) (by exact fun _ _ _ h => h) (by first | assumption | exact KB.refl _) (.inl ⟨by rfl, fun W hW => ?_⟩) ?_; rotate_left
      · (go_simp; first | done | with_reducible rfl)
      try simp only [Act.put, List.setIfInBounds_toArray, List.set_cons_zero, List.set_cons_succ]
      refine btake 17 (oi := _) (v := ?_) (by simp only [List.getElem?_toArray, List.getElem?_cons_succ, List.getElem?_cons_zero]; rfl) (by kernel_rfl) (by exact fun _ _ _ h => h) (by first | assumption | exact KB.refl _) (.inl ⟨by rfl, fun W hW => ?_⟩) ?_; rotate_left
      · (go_simp; first | done | with_reducible rfl)
      try simp only [Act.put, List.setIfInBounds_toArray, List.set_cons_zero, List.set_cons_succ]
      refine btake 18 (oi := _) (v := ?_) (by simp only [List.getElem?_toArray, List.getElem?_cons_succ, List.getElem?_cons_zero]; rfl) (by kernel_rfl) (by exact fun _ _ _ h => h) (by first | assumption | exact KB.refl _) (.inl ⟨by rfl, fun W hW => ?_⟩) ?_; rotate_left
      · (go_simp; first | done | with_reducible rfl)
      try simp only [Act.put, List.setIfInBounds_toArray, List.set_cons_zero, List.set_cons_succ]
      refine btake 19 (oi := _) (v := ?_) (by simp only [List.getElem?_toArray, List.getElem?_cons_succ, List.getElem?_cons_zero]; rfl) (by kernel_rfl) (by exact fun _ _ _ h => h) (by first | assumption | exact KB.refl _) (.inl ⟨by rfl, fun W hW => ?_⟩) ?_; rotate_left
      · (go_simp; first | done | with_reducible rfl)
      try simp only [Act.put, List.setIfInBounds_toArray, List.set_cons_zero, List.set_cons_succ]
      refine btake 20 (oi := _) (v := ?_) (by simp only [List.getElem?_toArray, List.getElem?_cons_succ, List.getElem?_cons_zero]; rfl) (by kernel_rfl) (by exact fun _ _ _ h => h) (by first | assumption | exact KB.refl _) (.inl ⟨by rfl, fun W hW => ?_⟩) ?_; rotate_left
      · (go_simp; first | done | with_reducible rfl)
      try simp only [Act.put, List.setIfInBounds_toArray, List.set_cons_zero, List.set_cons_succ]
      refine btake 21 (oi := _) (v := ?_) (by simp only [List.getElem?_toArray, List.getElem?_cons_succ, List.getElem?_cons_zero]; rfl) (by kernel_rfl) (by exact fun _ _ _ h => h) (by first | assumption | exact KB.refl _) (.inl ⟨by rfl, fun W hW => ?_⟩) ?_; rotate_left
      · (go_simp; first | done | with_reducible rfl)
      try simp only [Act.put, List.setIfInBounds_toArray, List.set_cons_zero, List.set_cons_succ]
      refine btake 22 (oi := _) (v := ?_) (by simp only [List.getElem?_toArray, List.getElem?_cons_succ, List.getElem?_cons_zero]; rfl) (by kernel_rfl) (by exact fun _ _ _ h => h) (by first | assumption | exact KB.refl _) (.inl ⟨by rfl, fun W hW => ?_⟩) ?_; rotate_left
      · (go_simp; first | done | with_reducible rfl)
      try simp only [Act.put, List.setIfInBounds_toArray, List.set_cons_zero, List.set_cons_succ]
      refine btake 23 (oi := _) (v := ?_) (by simp only [List.getElem?_toArray, List.getElem?_cons_succ, List.getElem?_cons_zero]; rfl) (by kernel_rfl) (by exact fun _ _ _ h => h) (by first | assumption | exact KB.refl _) (.inl ⟨by rfl, fun W hW => ?_⟩) ?_; rotate_left
      · (go_simp; first | done | with_reducible rfl)
      try simp only [Act.put, List.setIfInBounds_toArray, List.set_cons_zero, List.set_cons_succ]
      refine bdone (by kernel_rfl) ?_
      have HD : At wq.drew g4 (u32s keys) ∧ At wq.drew g5 S ∧ At wq.drew g6 (u32s L) ∧ At wq.drew gh (u32s h) ∧ At wq.drew gr (u32s z8) := ⟨hK.drew, hW.drew, hV.drew, hH.drew, hR.drew⟩
      have HG : wq.drew.frozen? ⟨g6, 0, none⟩ = false ∧ wq.drew.frozen? ⟨g6, 1, none⟩ = false ∧ wq.drew.frozen? ⟨g6, 2, none⟩ = false ∧ wq.drew.frozen? ⟨g6, 3, none⟩ = false ∧ wq.drew.frozen? ⟨g6, 4, none⟩ = false ∧ wq.drew.frozen? ⟨g6, 5, none⟩ = false ∧ wq.drew.frozen? ⟨g6, 6, none⟩ = false ∧ wq.drew.frozen? ⟨g6, 7, none⟩ = false := HG
      have HC : wq.drew.cell? ⟨g6, 0, none⟩ = some (.int .u32 (y0 : Int)) ∧ wq.drew.cell? ⟨g6, 1, none⟩ = some (.int .u32 (y1 : Int)) ∧ wq.drew.cell? ⟨g6, 2, none⟩ = some (.int .u32 (y2 : Int)) ∧ wq.drew.cell? ⟨g6, 3, none⟩ = some (.int .u32 (y3 : Int)) ∧ wq.drew.cell? ⟨g6, 4, none⟩ = some (.int .u32 (y4 : Int)) ∧ wq.drew.cell? ⟨g6, 5, none⟩ = some (.int .u32 (y5 : Int)) ∧ wq.drew.cell? ⟨g6, 6, none⟩ = some (.int .u32 (y6 : Int)) ∧ wq.drew.cell? ⟨g6, 7, none⟩ = some (.int .u32 (y7 : Int)) := ⟨v0, v1, v2, v3, v4, v5, v6, v7⟩
      replace hbel := hbel.drew
      clear ekk' exx' e5 e6 e7 v0 v1 v2 v3 v4 v5 v6 v7 hK hW hV hH hR m1 m2 m3 m4 m5 m6 m7 m8 m9 m10
      generalize wq.drew = wz at hbel HD HC HG ⊢
      obtain ⟨hK, hW, hV, hH, hR⟩ := HD
      obtain ⟨v0, v1, v2, v3, v4, v5, v6, v7⟩ := HC
      obtain ⟨f0, f1, f2, f3, f4, f5, f6, f7⟩ := HG
      go_wp2_with fail
      refine (RotL_any wz y0 2 30 hl0 (by omega) (by omega) rfl (-2) rfl).mono ?_
      rintro e w3 ⟨rfl, rfl⟩
      go_wp2_with fail
      refine (RotL_any wz y0 13 19 hl0 (by omega) (by omega) rfl (-13) rfl).mono ?_
      rintro e w3 ⟨rfl, rfl⟩
      go_wp2_with fail
      refine (RotL_any wz y0 22 10 hl0 (by omega) (by omega) rfl (-22) rfl).mono ?_
      rintro e w3 ⟨rfl, rfl⟩
      go_wp2_with fail
      have hV2 := hV.putL (u32s [TU, y0, y1, y2, V3, y4, y5, y6]) (by rw [u32s_len, u32s_len, HVL.out]; rfl)
      rw [← HST.out] at hV2
      have hK2 := hK.putL_other (u32s [TU, y0, y1, y2, V3, y4, y5, y6]) 0 _ (Ne.symm ne46)
      have hW2 := hW.putL_other (u32s [TU, y0, y1, y2, V3, y4, y5, y6]) 0 _ (Ne.symm ne56)
      have hH2 := hH.putL_other (u32s [TU, y0, y1, y2, V3, y4, y5, y6]) 0 _ nh6
      have hR2 := hR.putL_other (u32s [TU, y0, y1, y2, V3, y4, y5, y6]) 0 _ nr6
      have hb2 := below_putL (u32s [TU, y0, y1, y2, V3, y4, y5, y6]) 0 hbel wg6
      rw [HST.out] at hV2
      go_roundw
      case rel => exact ⟨k + 1, by omega, by go_num, hK2, hW2, by rw [HST.out]; exact hV2, hH2, hR2, hb2⟩
      case measure => simp [intOf] <;> omega
    · obtain rfl : k = 64 := by omega
      rw [show (((64 : Nat)) : Int) = (64 : Int) from rfl]
      clear hK hW
      have hVok := mixR_ok b HX.out.2 64
      obtain ⟨V, hVV⟩ : ∃ V, V = mixR b h 64 := ⟨_, rfl⟩
      have hS8 : mixS h b = addT h V 8 := by rw [hVV]; rfl
      rw [← hVV] at hV hVok
      have HMX := Lib.hid hS8
      clear hVV hS8
      rw [← addT_zero V HX.out.2.1] at hH
      go_wp2_with fail
      go_loopw [104] (fun x104 wr => ∃ k : Nat, k ≤ 8 ∧ x104 = .int .i64 (k : Int) ∧ At wr g6 (u32s V) ∧ At wr gh (u32s (addT h V k)) ∧ At wr gr (u32s z8) ∧ Below w.heap.size w wr) (fun x104 _ => 8 - (intOf x104).toNat)
      case atStart => exact ⟨0, by omega, rfl, hV, hH, hR, hbel⟩
      case round =>
        clear hV hH hR hbel hlt
        obtain ⟨k, hk, rfl, hV, hH, hR, hbel⟩ := hrel
        by_cases hlt : k < 8
        · have hd1 : decide ((k : Int) < 8) = true := by rw [decide_eq_true_eq]; omega
          have i8 : IntKind.i64.wrap (k : Int) = (k : Int) := by rw [IntKind.wrap_i64]; omega
          have hk0 : (0 : Int) ≤ (k : Int) := by omega
          have hk1 : (k : Int) < 8 := by omega
          have hu := u32s_get (addT h V k) k (by rw [addT_len]; exact hlt)
          have hcH := hH.c k hu
          have hfH := hH.f k hu
          have gv := AtS.e (g := g6) (vs := u32s V) k (u32s_get V k (by rw [hVok.1]; exact hlt))
          have hh9 : at' (addT h V k) k = at' h k := by rw [addT_get _ _ _ _ hlt, if_neg (by omega)]
          rw [hh9] at hcH
          have hst := hH.set k (.int .u32 (((at' h k + at' V k) % 4294967296 : Nat) : Int)) (by rw [u32s_len, addT_len]; exact hlt)
          rw [addT_succ h V k hlt] at hst
          have hs9 := add_op (at' h k) (at' V k)
          generalize (at' h k + at' V k) % 4294967296 = X at *
          generalize at' h k = yh at *
          generalize at' V k = yv at *
          clear hh9 hu
          have hV2 := hV.set_other k (.int .u32 (X : Int)) (Ne.symm nh6)
          have hR2 := hR.set_other k (.int .u32 (X : Int)) (Ne.symm nrh)
          have hbel2 := hbel.setCell (p := ⟨gh, k, none⟩) hgh9 (.int .u32 (X : Int))
          have HVO := Lib.hid hVok
          clear hVok
          go_wp2_with fail
          have hS0 : AtS g6 (u32s V) wr.drew := hV.drew
          refine bstartS (AtS g6 (u32s V)) (by kernel_rfl) ?_
          refine btakeS 0 (oi := _) (v := ?_) (by simp only [List.getElem?_toArray, List.getElem?_cons_zero]; rfl) (by kernel_rfl) (by exact fun _ _ _ h => h) (by first | assumption | exact KB.refl _) (.inl ⟨by rfl, fun W hW => ?_⟩) ?_; rotate_left
          · (go_simp; first | done | with_reducible rfl)
          try simp only [Act.put, List.setIfInBounds_toArray, List.set_cons_zero, List.set_cons_succ]
          refine btakeS 1 (oi := _) (v := ?_) (by simp only [List.getElem?_toArray, List.getElem?_cons_succ, List.getElem?_cons_zero]; rfl) (by kernel_rfl) (by exact fun _ _ _ h => h) (by first | assumption | exact KB.refl _) (.inl ⟨by rfl, fun W hW => ?_⟩) ?_; rotate_left
          · (go_simp; first | done | with_reducible rfl)
          try simp only [Act.put, List.setIfInBounds_toArray, List.set_cons_zero, List.set_cons_succ]
          refine btakeS 3 (oi := _) (v := ?_) (by simp only [List.getElem?_toArray, List.getElem?_cons_succ, List.getElem?_cons_zero]; rfl) (by kernel_rfl) (by exact fun _ _ _ h => h) (by first | assumption | exact KB.refl _) (.inl ⟨by rfl, fun W hW => ?_⟩) ?_; rotate_left
          · (go_simp; first | done | with_reducible rfl)
          try simp only [Act.put, List.setIfInBounds_toArray, List.set_cons_zero, List.set_cons_succ]
          refine btakeS 4 (oi := _) (v := ?_) (by simp only [List.getElem?_toArray, List.getElem?_cons_succ, List.getElem?_cons_zero]; rfl) (by kernel_rfl) (by exact fun _ _ _ h => h) (by first | assumption | exact KB.refl _) (.inl ⟨by rfl, fun W hW => ?_⟩) ?_; rotate_left
          · (go_simp; first | done | with_reducible rfl)
          try simp only [Act.put, List.setIfInBounds_toArray, List.set_cons_zero, List.set_cons_succ]
          refine btakeS 5 (oi := _) (v := ?_) (by simp only [List.getElem?_toArray, List.getElem?_cons_succ, List.getElem?_cons_zero]; rfl) (by kernel_rfl) (by exact fun _ _ _ h => h) (by first | assumption | exact KB.refl _) (.inl ⟨by rfl, fun W hW => ?_⟩) ?_; rotate_left
          · (go_simp; first | done | with_reducible rfl)
          try simp only [Act.put, List.setIfInBounds_toArray, List.set_cons_zero, List.set_cons_succ]
          -- 2: Op.load 45 (Operand.tmp 108)
          refine bopS 2 (o := _) (by simp only [List.getElem?_toArray, List.getElem?_cons_succ, List.getElem?_cons_zero]; rfl) (by kernel_rfl) (by rfl) (fun K hK => ?_)
          go_simp
          have hkb := hS0
          refine hK.out _ _ hkb ?_; clear hK K
          try simp only [Act.put, List.setIfInBounds_toArray, List.set_cons_zero, List.set_cons_succ]
          refine btakeS 6 (oi := _) (v := ?_) (by simp only [List.getElem?_toArray, List.getElem?_cons_succ, List.getElem?_cons_zero]; rfl) (by kernel_rfl) (by exact fun _ _ _ h => h) (by first | assumption | exact KB.refl _) (.inl ⟨by rfl, fun W hW => ?_⟩) ?_; rotate_left
          · (go_simp; first | done | with_reducible rfl)
          try simp only [Act.put, List.setIfInBounds_toArray, List.set_cons_zero, List.set_cons_succ]
          refine btakeS 7 (oi := _) (v := ?_) (by simp only [List.getElem?_toArray, List.getElem?_cons_succ, List.getElem?_cons_zero]; rfl) (by kernel_rfl) (by exact fun _ _ _ h => h) (by first | assumption | exact KB.refl _) (.inl ⟨by rfl, fun W hW => ?_⟩) ?_; rotate_left
          · (go_simp; first | done | with_reducible rfl)
          try simp only [Act.put, List.setIfInBounds_toArray, List.set_cons_zero, List.set_cons_succ]
          -- 8: Op.store 45 (Operand.tmp 114) (Operand.tmp 113)
          refine bopS 8 (o := _) (by simp only [List.getElem?_toArray, List.getElem?_cons_succ, List.getElem?_cons_zero]; rfl) (by kernel_rfl) (by rfl) (fun K hK => ?_)
          go_simp
          have hkb : AtS g6 (u32s V) (wr.setCell ⟨gh, k, none⟩ (.int .u32 (X : Int))).drew := hV2.drew
          refine hK.out _ _ hkb ?_; clear hK K
          try simp only [Act.put, List.setIfInBounds_toArray, List.set_cons_zero, List.set_cons_succ]
          refine bdoneS (by kernel_rfl) ?_
          have hV3 := hV2.drew
          have hH3 := hst.drew
          have hR3 := hR2.drew
          have hbel3 := hbel2.drew
          clear hkb hS0 gv hcH hfH hV hH hR hbel hV2 hst hR2 hbel2 hs9 i8
          go_wp2_with fail
          go_roundw
          case rel => exact ⟨k + 1, by omega, by go_num, hV3, hH3, hR3, hbel3⟩
          case measure => simp [intOf] <;> omega
        · obtain rfl : k = 8 := by omega
          have hl8 : (u32s (addT h V 8)).length = 8 := by rw [u32s_len, addT_len]
          have hRf := hR.putL (u32s (addT h V 8)) (by rw [hl8]; rfl)
          have hbf := below_putL (u32s (addT h V 8)) 0 hbel wgr
          have HF := Lib.hid (And.intro hRf (And.intro hl8 hbf))
          have HW := Lib.hid (And.intro hH hR)
          clear hRf hbf hH hR
          go_wp2_with (first
            | (refine opVal rfl (ex_ld8 rfl rfl HW.out.1 HF.out.2.1) ?_)
            | (refine opSkip rfl (ex_st8 rfl rfl rfl HW.out.2 rfl HF.out.2.1 (u32s_one _)) ?_))
          exact bodyPost_ret (results_arr8 rfl _ rfl HF.out.1 HF.out.2.1) rfl ⟨by rw [HMX.out], HF.out.2.2⟩
end Go.Proofs.Ytjbelkpmbbkhgaa

