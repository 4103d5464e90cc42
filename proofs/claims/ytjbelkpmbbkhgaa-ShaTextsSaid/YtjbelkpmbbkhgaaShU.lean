/- Digests: Hash.Sum. -/
import Derived.Test.YtjbelkpmbbkhgaaShI
namespace Go.Proofs.Ytjbelkpmbbkhgaa
open Go.RowKit Go.Proofs.Ytjbelkpmbbkhgaa.Sh

def be8 (x : Nat) (k : Nat) : List UInt8 := (List.range k).map fun i => UInt8.ofNat (x / 2 ^ (56 - 8 * i) % 256)
def zs (m : Nat) : Nat := (119 - m) % 64
def Hs.last (s : Hs) : List UInt8 := (s.r ++ [128] ++ List.replicate (zs s.r.length) 0) ++ be8 (s.n * 8 % 18446744073709551616) 8
def idOf (h : List Nat) (k : Nat) : List UInt8 := (List.range k).map fun i => UInt8.ofNat (at' h (i / 4) / 2 ^ (24 - 8 * (i % 4)) % 256)
def Hs.sum (s : Hs) : List UInt8 := idOf (mixK s.h s.last (s.last.length / 64)) 32
theorem be8_len (x k : Nat) : (be8 x k).length = k := by simp [be8]
theorem be8_succ (x k : Nat) : be8 x (k + 1) = be8 x k ++ [UInt8.ofNat (x / 2 ^ (56 - 8 * k) % 256)] := by simp [be8, List.range_succ]
theorem idOf_len (h : List Nat) (k : Nat) : (idOf h k).length = k := by simp [idOf]
theorem idOf_succ (h : List Nat) (k : Nat) : idOf h (k + 1) = idOf h k ++ [UInt8.ofNat (at' h (k / 4) / 2 ^ (24 - 8 * (k % 4)) % 256)] := by simp [idOf, List.range_succ]
theorem last_len (s : Hs) (hs : s.r.length < 64) : 64 ≤ s.last.length ∧ s.last.length ≤ 200 ∧ s.last.length % 64 = 0 := by
  simp only [Hs.last, List.length_append, List.length_replicate, be8_len, List.length_singleton, zs]
  omega
theorem own_apart {w : World} {B g : Nat} {v : Value} {l : List UInt8} (h : OwnB w B v l) (hn : v.bk = none ∨ v.bk ≠ (Value.pointer (some ⟨g, 0, none⟩)).bk) : v.ownBlock ≠ some g := by
  intro e
  rw [own_bk h] at hn
  rcases hn with h | h
  · rw [h] at e; cases e
  · exact h (by rw [e]; rfl)
set_option maxRecDepth 100000 in
set_option maxHeartbeats 6400000 in
theorem HSum_any (w : World) (g lo : Nat) (s : Hs) (hs : HStands w g lo s) (hok : s.ok) :
    Calls Try.prog 15 #[.pointer (some ⟨g, 0, none⟩)] w fun e w' => e = .returned (.agg (bv s.sum).toArray) ∧ Below w.heap.size w w' := by
  have HS := Lib.hid (And.intro (show s.sum = idOf (mixK s.h s.last (s.last.length / 64)) 32 from rfl) (And.intro (show s.last = (s.r ++ [128] ++ List.replicate (zs s.r.length) 0) ++ be8 (s.n * 8 % 18446744073709551616) 8 from rfl) (last_len s hok.2.1)))
  generalize s.sum = out at HS ⊢
  generalize s.last = lst at HS ⊢
  obtain ⟨h, r, N⟩ := s
  obtain ⟨hglo, hlo, R, rc, hA, hR, hRb, hRc, hRm⟩ := hs
  obtain ⟨hh8, hr64, hN⟩ := hok
  simp only at *
  obtain ⟨m, hm⟩ : ∃ m, m = r.length := ⟨_, rfl⟩
  rw [← hm] at hA hr64 hRc HS
  have HM := Lib.hid hm
  clear hm
  have hgw : g < w.heap.size := by omega
  clear hRb hglo hlo
  obtain ⟨x0, x1, x2, x3, x4, x5, x6, x7, rfl⟩ := explode8 hh8.1
  have hA1 := hA.alloc (.cells (bv z32).toArray 23)
  have hb1 := balloc (Below.refl w.heap.size w) (.cells (bv z32).toArray 23)
  have hR1 := At.new w 23 (bv z32).toArray
  generalize hw1 : w.alloc (.cells (bv z32).toArray 23) = w1 at *
  have hA2 := hA1.alloc (.cells (bv z32).toArray 23)
  have hb2 := hb1.alloc hb1.size (.cells (bv z32).toArray 23)
  have hR2 := hR1.alloc (.cells (bv z32).toArray 23)
  have hO2 := At.new w1 23 (bv z32).toArray
  have hlt1 : w.heap.size < w1.heap.size := hR1.1
  go_enter Try.func15, Try.ntmps15
  go_wp2_with (first | (rw [hw1]; fail) | (refine opVal rfl (ex_al32 rfl) ?_; try rw [hw1]))
  replace hR2 : At (w1.alloc (.cells (bv z32).toArray 23)) w.heap.size (bv z32) := hR2
  replace hO2 : At (w1.alloc (.cells (bv z32).toArray 23)) w1.heap.size (bv z32) := hO2
  have hSl2 : Sl (w1.alloc (.cells (bv z32).toArray 23)) w.heap.size R (bv r) := hR.below hb2
  generalize w1.alloc (.cells (bv z32).toArray 23) = w2 at hA2 hb2 hR2 hO2 hSl2 ⊢
  have hgo9 : w.heap.size ≤ w1.heap.size := by omega
  generalize hg1 : w1.heap.size = go at hO2 hlt1 hgo9 ⊢
  clear hg1 hw1 hA1 hb1 hR1
  have hgr9 : w.heap.size ≤ w.heap.size := Nat.le_refl _
  generalize hg2 : w.heap.size = gr at hR2 hlt1 ⊢
  have hgr9 : w.heap.size ≤ gr := by omega
  have hbs := hb2.size
  have hlr : gr < w2.heap.size := hR2.1
  have hlo : go < w2.heap.size := hO2.1
  have hlg : g < w2.heap.size := hA2.1
  have HK8 := Lib.hid hh8
  clear hg2 hA hR hh8
  have k0 := hA2.e 0 rfl
  have k1 := hA2.e 1 rfl
  have k2 := hA2.e 2 rfl
  have k3 := hA2.e 3 rfl
  have k4 := hA2.e 4 rfl
  have k5 := hA2.e 5 rfl
  have k6 := hA2.e 6 rfl
  have k7 := hA2.e 7 rfl
  have k8 := hA2.e 8 rfl
  have k9 := hA2.e 9 rfl
  refine bstart (by kernel_rfl) ?_
  refine btake 0 (oi := _) (v := ?_) (by simp only [List.getElem?_toArray, List.getElem?_cons_zero]; rfl) (by kernel_rfl) (by exact fun _ _ _ h => h) (by first | assumption | exact KB.refl _) (.inl ⟨by rfl, fun W hW => ?_⟩) ?_; rotate_left
  · (go_simp; first | done | with_reducible rfl)
  try simp only [Act.put, List.setIfInBounds_toArray, List.set_cons_zero, List.set_cons_succ]
  refine btake 1 (oi := _) (v := ?_) (by simp only [List.getElem?_toArray, List.getElem?_cons_succ, List.getElem?_cons_zero]; rfl) (by kernel_rfl) (by exact fun _ _ _ h => h) (by first | assumption | exact KB.refl _) (.inl ⟨by rfl, fun W hW => ?_⟩) ?_; rotate_left
  · (go_simp; first | done | with_reducible rfl)
  try simp only [Act.put, List.setIfInBounds_toArray, List.set_cons_zero, List.set_cons_succ]
  refine btake 2 (oi := _) (v := ?_) (by simp only [List.getElem?_toArray, List.getElem?_cons_succ, List.getElem?_cons_zero]; rfl) (by kernel_rfl) (by exact fun _ _ _ h => h) (by first | assumption | exact KB.refl _) (.inl ⟨by rfl, fun W hW => ?_⟩) ?_; rotate_left
  · (go_simp; first | done | with_reducible rfl)
  try simp only [Act.put, List.setIfInBounds_toArray, List.set_cons_zero, List.set_cons_succ]
  refine btake 3 (oi := _) (v := ?_) (by simp only [List.getElem?_toArray, List.getElem?_cons_succ, List.getElem?_cons_zero]; rfl) (by kernel_rfl) (by exact fun _ _ _ h => h) (by first | assumption | exact KB.refl _) (.inl ⟨by rfl, fun W hW => ?_⟩) ?_; rotate_left
  · (go_simp; first | done | with_reducible rfl)
  try simp only [Act.put, List.setIfInBounds_toArray, List.set_cons_zero, List.set_cons_succ]
  refine btake 4 (oi := _) (v := ?_) (by simp only [List.getElem?_toArray, List.getElem?_cons_succ, List.getElem?_cons_zero]; rfl) (by kernel_rfl) (by exact fun _ _ _ h => h) (by first | assumption | exact KB.refl _) (.inl ⟨by rfl, fun W hW => ?_⟩) ?_; rotate_left
  · (go_simp; first | done | with_reducible rfl)
  try simp only [Act.put, List.setIfInBounds_toArray, List.set_cons_zero, List.set_cons_succ]
  refine btake 5 (oi := _) (v := ?_) (by simp only [List.getElem?_toArray, List.getElem?_cons_succ, List.getElem?_cons_zero]; rfl) (by kernel_rfl) (by exact fun _ _ _ h => h) (by first | assumption | exact KB.refl _) (.inl ⟨by rfl, fun W hW => ?_⟩) ?_; rotate_left
  · (go_simp; first | done | with_reducible rfl)
  try simp only [Act.put, List.setIfInBounds_toArray, List.set_cons_zero, List.set_cons_succ]
  refine btake 6 (oi := _) (v := ?_) (by simp only [List.getElem?_toArray, List.getElem?_cons_succ, List.getElem?_cons_zero]; rfl) (by kernel_rfl) (by exact fun _ _ _ h => h) (by first | assumption | exact KB.refl _) (.inl ⟨by rfl, fun W hW => ?_⟩) ?_; rotate_left
  · (go_simp; first | done | with_reducible rfl)
  try simp only [Act.put, List.setIfInBounds_toArray, List.set_cons_zero, List.set_cons_succ]
  refine btake 7 (oi := _) (v := ?_) (by simp only [List.getElem?_toArray, List.getElem?_cons_succ, List.getElem?_cons_zero]; rfl) (by kernel_rfl) (by exact fun _ _ _ h => h) (by first | assumption | exact KB.refl _) (.inl ⟨by rfl, fun W hW => ?_⟩) ?_; rotate_left
  · (go_simp; first | done | with_reducible rfl)
  try simp only [Act.put, List.setIfInBounds_toArray, List.set_cons_zero, List.set_cons_succ]
  refine bparD [YldD.own 8 (some 19) (some 10) w2.heap.size r, YldD.sl 9 (some 20) (some 10) [128], YldD.own 10 (some 21) none w2.heap.size (r ++ [128]), YldD.at 11 (some 4) none (u32s z8)] 2 rfl (by kernel_rfl) (by kernel_rfl) (fun s hs => ?_) (fun vs W hbW hd hds => ?_)
  · simp only [List.mem_cons, List.not_mem_nil, or_false] at hs
    rcases hs with rfl | rfl | rfl | rfl
    · -- 8: bytes.Clone
      intro vs W hbW hd
      clear hd
      refine parD_of (j := 8) (d := (some 19)) (o := _) (by simp only [List.getElem?_toArray, List.getElem?_cons_succ, List.getElem?_cons_zero]; rfl) (by rfl) (fun K hK => ?_)
      simp only [putd, puts, List.map_cons, List.map_nil, YldD.y, List.foldl_cons, List.foldl_nil, Act.put, List.setIfInBounds_toArray, List.set_cons_zero, List.set_cons_succ, YldD.at, YldD.sl, YldD.own] at hK ⊢
      go_simp
      refine (Clone_any W _ R m rc r (Sl.below' (w := w2.drew) (hSl2.more hbs) hbW) HM.out (by have := HM.out; omega)).mono ?_
      rintro e w5 ⟨A5, c5, rfl, hown5, hb5⟩
      exact hK.out _ _ _ (by rfl) (StepD.fresh (OwnB.lower hown5 hbW.size) hb5 hown5)
    · -- 9: Op.buildSlice 26 1 #[(0, Operand.const (Value.int IntKind.u8 128))]
      intro vs W hbW hd
      clear hd
      refine parD_of (j := 9) (d := (some 20)) (o := _) (by simp only [List.getElem?_toArray, List.getElem?_cons_succ, List.getElem?_cons_zero]; rfl) (by rfl) (fun K hK => ?_)
      simp only [putd, puts, List.map_cons, List.map_nil, YldD.y, List.foldl_cons, List.foldl_nil, Act.put, List.setIfInBounds_toArray, List.set_cons_zero, List.set_cons_succ, YldD.at, YldD.sl, YldD.own] at hK ⊢
      go_simp
      exact hK.out _ _ _ (by rfl) (StepD.fresh (SlcIs.of (OwnB.one W 128 (by omega))) (balloc (Below.refl _ _) _) (OwnB.one W 128 (by omega)))
    · -- 10: Op.call { callee := Callee.builtin Builtin.append, args := #[Operand.tmp 19, Operand.tmp 20], argTypes := #[26, 26] }
      intro vs W hbW hd
      obtain ⟨h8, b8⟩ : ((YldD.own 8 (some 19) (some 10) w2.heap.size r).pr (vs 8) W) ∧ ∀ g, (vs 8).bk = some g → _ := hd _ (.head _) (by kernel_rfl) (by first | exact .inl rfl | exact .inr rfl)
      obtain ⟨h9, b9⟩ : ((YldD.sl 9 (some 20) (some 10) [128]).pr (vs 9) W) ∧ ∀ g, (vs 9).bk = some g → _ := hd _ (.tail _ (.head _)) (by kernel_rfl) (by first | exact .inl rfl | exact .inr rfl)
      clear hd
      refine parD_of (j := 10) (d := (some 21)) (o := _) (by simp only [List.getElem?_toArray, List.getElem?_cons_succ, List.getElem?_cons_zero]; rfl) (by rfl) (fun K hK => ?_)
      simp only [putd, puts, List.map_cons, List.map_nil, YldD.y, List.foldl_cons, List.foldl_nil, Act.put, List.setIfInBounds_toArray, List.set_cons_zero, List.set_cons_succ, YldD.at, YldD.sl, YldD.own] at hK ⊢
      generalize e8 : vs 8 = v8 at hK h8 b8 ⊢
      generalize e9 : vs 9 = v9 at hK h9 b9 ⊢
      obtain ⟨A9, c9, rfl, hs9, _, _⟩ := h9
      refine wp_app rfl h8 hs9 rfl rfl rfl (by have := HM.out; simp; omega) hbW.size ?_
      intro s5 w5 hown5 hg5 hat5
      exact hK.out _ _ _ (by rfl) (StepD.app (t := YldD.own 8 (some 19) (some 10) w2.heap.size r) (.head _) (by kernel_rfl) rfl e8 h8 hown5 hown5 hg5 hat5)
    · -- 11: Op.alloc 46
      intro vs W hbW hd
      clear hd
      refine parD_of (j := 11) (d := (some 4)) (o := _) (by simp only [List.getElem?_toArray, List.getElem?_cons_succ, List.getElem?_cons_zero]; rfl) (by rfl) (fun K hK => ?_)
      simp only [putd, puts, List.map_cons, List.map_nil, YldD.y, List.foldl_cons, List.foldl_nil, Act.put, List.setIfInBounds_toArray, List.set_cons_zero, List.set_cons_succ, YldD.at, YldD.sl, YldD.own] at hK ⊢
      go_simp
      exact hK.out _ _ _ (by rfl) (StepD.new (At.new W 46 (u32s z8).toArray) (balloc (Below.refl _ _) _) (Nat.le_refl _))
  obtain ⟨h10, b10⟩ : ((YldD.own 10 (some 21) none w2.heap.size (r ++ [128])).pr (vs 10) W) ∧ ∀ g, (vs 10).bk = some g → _ := hd _ (.tail _ (.tail _ (.head _))) rfl
  obtain ⟨h11, b11⟩ : ((YldD.at 11 (some 4) none (u32s z8)).pr (vs 11) W) ∧ ∀ g, (vs 11).bk = some g → _ := hd _ (.tail _ (.tail _ (.tail _ (.head _)))) rfl
  have n10_11 : (vs 10).bk = none ∨ (vs 10).bk ≠ (vs 11).bk := hds _ (.tail _ (.tail _ (.head _))) _ (.tail _ (.tail _ (.tail _ (.head _)))) rfl rfl (by simp [YldD.at, YldD.at, YldD.own])
  clear hds
  clear hd
  have hKW := KB.of hbW
  simp only [putd, puts, List.map_cons, List.map_nil, YldD.y, List.foldl_cons, List.foldl_nil, Act.put, List.setIfInBounds_toArray, List.set_cons_zero, List.set_cons_succ, YldD.at, YldD.sl, YldD.own]
  generalize vs 8 = v8
  generalize vs 9 = v9
  generalize vs 10 = v10 at *
  generalize vs 11 = v11 at *
  obtain ⟨g11, rfl, hV⟩ := h11
  have hne := own_apart h10 n10_11
  have hbase : w2.heap.size ≤ (putL W g11 0 (u32s [x0, x1, x2, x3, x4, x5, x6, x7])).heap.size := by rw [putL_size]; exact hbW.size
  have lo11 : w2.heap.size ≤ g11 := (b11 g11 rfl).1
  have hst0 : Below w2.heap.size w2 w2.drew := (Below.refl _ w2).drew
  have hAW := hA2.below (hst0.trans hbW)
  have hRW := hR2.below (hst0.trans hbW)
  have hOW := hO2.below (hst0.trans hbW)
  have hbZ := hb2.drew.trans (hbW.mono hb2.size)
  have ng : g11 ≠ g := by omega
  have nr : g11 ≠ gr := by omega
  have no : g11 ≠ go := by omega
  have wg : w.heap.size ≤ g11 := by omega
  have hV3 := hV.putL (u32s [x0, x1, x2, x3, x4, x5, x6, x7]) rfl
  have hA3 := hAW.putL_other (u32s [x0, x1, x2, x3, x4, x5, x6, x7]) 0 _ ng
  have hR3 := hRW.putL_other (u32s [x0, x1, x2, x3, x4, x5, x6, x7]) 0 _ nr
  have hO3 := hOW.putL_other (u32s [x0, x1, x2, x3, x4, x5, x6, x7]) 0 _ no
  have hb3 := below_putL (u32s [x0, x1, x2, x3, x4, x5, x6, x7]) 0 hbZ wg
  have hb3' := below_putL (u32s [x0, x1, x2, x3, x4, x5, x6, x7]) 0 hbW lo11
  have hgx := grown_putL (u32s [x0, x1, x2, x3, x4, x5, x6, x7]) 0 (grown_of_below (Below.refl W.heap.size W) (some g11)) (.inl rfl)
  have h3 := h10.keep hgx (.inr hne)
  clear hgx n10_11 b10 b11 lo11
  -- 12: Op.store 46 (Operand.tmp 4) (Operand.tmp 14)
  refine bopH 12 (o := _) (by simp only [List.getElem?_toArray, List.getElem?_cons_succ, List.getElem?_cons_zero]; rfl) (by kernel_rfl) (by first | assumption | exact KB.refl _) (by rfl) (fun K hK => ?_)
  refine wpSkip (w' := putL W g11 0 (u32s [x0, x1, x2, x3, x4, x5, x6, x7])) (ex_st8 (us := u32s [x0, x1, x2, x3, x4, x5, x6, x7]) (old := u32s z8) rfl rfl rfl hV rfl rfl (u32s_one _)) ?_
  have hkb : KB w2.drew.heap (putL W g11 0 (u32s [x0, x1, x2, x3, x4, x5, x6, x7])) := KB.of hb3'
  refine hK.out _ _ hkb ?_; clear hK K
  try simp only [Act.put]
  refine btake 13 (oi := _) (v := ?_) (by simp only [List.getElem?_toArray, List.getElem?_cons_succ, List.getElem?_cons_zero]; rfl) (by kernel_rfl) (by exact fun _ _ _ h => h) (by first | assumption | exact KB.refl _) (.inl ⟨by rfl, fun W hW => ?_⟩) ?_; rotate_left
  · (go_simp; first | done | with_reducible rfl)
  try simp only [Act.put, List.setIfInBounds_toArray, List.set_cons_zero, List.set_cons_succ]
  refine bdone (by kernel_rfl) ?_
  clear k0 k1 k2 k3 k4 k5 k6 k7 k8 k9 hkb hb3' hKW hst0 hbZ hAW hRW hOW h10 hV hbW hSl2 hA2 hb2 hR2 hO2
  generalize putL W g11 0 (u32s [x0, x1, x2, x3, x4, x5, x6, x7]) = w3 at *
  generalize w2.heap.size = base at *
  generalize [x0, x1, x2, x3, x4, x5, x6, x7] = h at *
  go_wp2_with fail
  go_loopw [5] (fun z5 wr => ∃ k, k ≤ zs m ∧ OwnB wr base z5 (r ++ [128] ++ List.replicate k 0) ∧ z5.ownBlock ≠ some g11 ∧ At wr g11 (u32s h) ∧ At wr g (u32s h ++ [.slice R m rc, .int .u64 (N : Int)]) ∧ At wr gr (bv z32) ∧ At wr go (bv z32) ∧ Below w.heap.size w wr ∧ base ≤ wr.heap.size ∧ gr < base ∧ go < base) (fun z5 _ => 200 - slN z5)
  case atStart => exact ⟨0, Nat.zero_le _, by simpa using h3, hne, hV3, hA3, hR3, hO3, hb3, hbase, hlr, hlo⟩
  case round =>
    clear h3 hne hV3 hA3 hR3 hO3 hb3 hbase
    obtain ⟨k, hk, hown, hne, hV, hA, hR, hO, hbel, hbase, hlr, hlo⟩ := hrel
    obtain ⟨A5, c5, rfl, hcl, hcm, hsl, _, _⟩ := hown.form
    have hqe : (r ++ [128] ++ List.replicate k 0).length = m + 1 + k := by simp [HM.out]; omega
    obtain ⟨q, hq⟩ : ∃ q, q = (r ++ [128] ++ List.replicate k 0).length := ⟨_, rfl⟩
    rw [← hq] at hown hcl hqe hne ⊢
    have hz : zs m = (119 - m) % 64 := rfl
    generalize zs m = z at *
    by_cases hlt : k < z
    · have hq56 : q % 64 ≠ 56 := by omega
      have hq9 : q ≤ 127 := by omega
      have HQ := Lib.hid (And.intro hq (And.intro hqe hq9))
      clear hq9
      clear hq hqe hz
      have hc : ((q : Int) % 64 != 56) = true := by rw [bne_iff_ne]; omega
      go_wp2_with (at_builtin; go_loud (refine appN (xs := [.int .u8 0]) (k := [0]) rfl rfl hown rfl rfl rfl rfl (by have := HQ.out; rw [← this.1]; simp; omega) hbase ?_); intro v7 w7 h7 hg7 hat7)
      have hV7 := hV.grown hg7 hne
      have hA7 := hA.grown hg7 (own_above hown hlg)
      have hR7 := hR.grown hg7 (own_above hown hlr)
      have hO7 := hO.grown hg7 (own_above hown hlo)
      have hb7 := hbel.trans (below_of_grown hg7 (fun b e => Nat.le_trans hbs (hown.lt b e).1) hbel.size)
      have hne7 : v7.ownBlock ≠ some g11 := by
        intro e
        rcases hat7 with h | h
        · rw [h] at e; exact hne e
        · rw [h] at e; injection e with e; have := hV.1; omega
      rw [List.append_assoc, ← List.replicate_succ'] at h7
      obtain ⟨A7, c7, rfl, _, _, _, _, _⟩ := h7.form
      have hsz7 := hg7.size
      go_wp2_with fail
      go_roundw
      case rel => exact ⟨k + 1, by omega, h7, hne7, hV7, hA7, hR7, hO7, hb7, by omega, hlr, hlo⟩
      case measure => (simp [slN]; obtain ⟨_, h1, h2⟩ := HQ.out; have := HM.out; omega)
    · obtain rfl : k = z := by omega
      have hq56 : q % 64 = 56 := by omega
      have hq9 : q ≤ 127 := by omega
      have hc : ((q : Int) % 64 != 56) = false := by rw [bne_eq_false_iff_eq]; omega
      generalize r ++ [128] ++ List.replicate k 0 = P at *
      have HQ := Lib.hid (And.intro hq (And.intro hqe hq9))
      clear hq hqe hz hk hlt hq56 hq9
      obtain ⟨X, hX⟩ : ∃ X, X = N * 8 % 18446744073709551616 := ⟨_, rfl⟩
      rw [← hX] at HS
      have hXl : X < 18446744073709551616 := by omega
      have i8 : IntKind.u64.wrap ((N : Int) * 8) = (X : Int) := by rw [IntKind.wrap_u64]; omega
      clear hX hcl hcm hsl
      go_wp2_with fail
      go_loopw [5, 6] (fun z5 z6 wr => ∃ j : Nat, j ≤ 8 ∧ z6 = .int .i64 (56 - 8 * (j : Int)) ∧ OwnB wr base z5 (P ++ be8 X j) ∧ z5.ownBlock ≠ some g11 ∧ At wr g11 (u32s h) ∧ At wr g (u32s h ++ [.slice R m rc, .int .u64 (N : Int)]) ∧ At wr gr (bv z32) ∧ At wr go (bv z32) ∧ Below w.heap.size w wr ∧ base ≤ wr.heap.size) (fun _ z6 _ => (intOf z6 + 8).toNat)
      case atStart => exact ⟨0, Nat.zero_le _, rfl, by simpa [be8] using hown, hne, hV, hA, hR, hO, hbel, hbase⟩
      case round =>
        clear hown hne hV hA hR hO hbel hbase
        obtain ⟨j, hj, rfl, hown, hne, hV, hA, hR, hO, hbel, hbase⟩ := hrel
        obtain ⟨A5, c5, rfl, hcl, hcm, hsl, _, _⟩ := hown.form
        obtain ⟨q2, hq2⟩ : ∃ q2, q2 = (P ++ be8 X j).length := ⟨_, rfl⟩
        have hqe : q2 = q + j := by rw [hq2, List.length_append, be8_len, ← HQ.out.1]
        rw [← hq2] at hown hcl hne ⊢
        by_cases hlt : j < 8
        · obtain ⟨sh, hsh⟩ : ∃ sh : Nat, sh = 56 - 8 * j := ⟨_, rfl⟩
          have hsi : 56 - 8 * (j : Int) = (sh : Int) := by omega
          rw [hsi]
          have hs0 : (0 : Int) ≤ (sh : Int) := by omega
          have hstep := be8_succ X j
          rw [← hsh] at hstep
          have c9 := hA.c 9 (get9 HK8.out.1 _ _)
          have hbyt : [Value.int .u8 ((X : Int) / 2 ^ min sh 64 % 256)] = bv [UInt8.ofNat (X / 2 ^ sh % 256)] := by
            rw [← one_bv _ (Nat.mod_lt _ (by omega)), show min sh 64 = sh by omega]
            push_cast
            rfl
          have hq9 : q2 ≤ 140 := by have := HQ.out.2.2; omega
          have HST := Lib.hid (And.intro hstep (And.intro hsh (And.intro hqe (And.intro hbyt (And.intro hq2 hq9)))))
          clear hstep hsh hqe hsi hbyt hq2 hq9
          go_wp2_with (at_builtin; go_loud (refine appN (k := [UInt8.ofNat (X / 2 ^ sh % 256)]) rfl rfl hown HST.out.2.2.2.1 rfl rfl rfl (by have := HST.out.2.2.2.2; rw [← this.1]; simp; omega) hbase ?_); intro v7 w7 h7 hg7 hat7)
          have hV7 := hV.grown hg7 hne
          have hA7 := hA.grown hg7 (own_above hown hlg)
          have hR7 := hR.grown hg7 (own_above hown hlr)
          have hO7 := hO.grown hg7 (own_above hown hlo)
          have hb7 := hbel.trans (below_of_grown hg7 (fun b e => Nat.le_trans hbs (hown.lt b e).1) hbel.size)
          have hne7 : v7.ownBlock ≠ some g11 := by
            intro e
            rcases hat7 with h | h
            · rw [h] at e; exact hne e
            · rw [h] at e; injection e with e; have := hV.1; omega
          rw [List.append_assoc, ← HST.out.1] at h7
          have hsz7 := hg7.size
          have hsl9 : sh ≤ 56 := by have := HST.out.2.1; omega
          have i9 : wrap64 ((sh : Int) - 8) = (sh : Int) - 8 := by unfold wrap64; omega
          replace i9 := Lib.hid i9
          have hnext : (sh : Int) - 8 = 56 - 8 * ((j + 1 : Nat) : Int) := by have := HST.out.2.1; omega
          replace hnext := Lib.hid hnext
          clear hown hne hV hA hR hO hbel c9 hat7 hg7
          go_wp2_with fail
          go_roundw
          case rel => exact ⟨j + 1, by omega, by (congr 1; exact i9.out.trans hnext.out), h7, hne7, hV7, hA7, hR7, hO7, hb7, by omega⟩
          case measure => (rw [i9.out]; simp only [intOf]; omega)
        · obtain rfl : j = 8 := by omega
          have hle : HS.out.2.1 = HS.out.2.1 := rfl
          rw [← HS.out.2.1] at hown hq2
          have hq9 := HS.out.2.2
          have hneg : ¬ (0 : Int) ≤ 56 - 8 * ((8 : Nat) : Int) := by omega
          rw [show (56 - 8 * ((8 : Nat) : Int)) = -8 by rfl]
          obtain ⟨A8, c8, e8, hcl8, hcm8, hsl8, _, hab8⟩ := hown.form
          injection e8 with e9 e10 e11
          subst e9 e11
          clear hle
          obtain ⟨L, hL⟩ : ∃ L, L = lst.length := ⟨_, rfl⟩
          have hlo8 : ∀ a, A5 = some a → a.block ≠ g11 := fun a e e2 => hne (by rw [e]; simp only [Value.ownBlock]; rw [← e2])
          rw [← hL] at hq9 hq2
          rw [← hL] at HS
          have hL9 := hq9
          have hqL : q2 = L := hq2
          subst hqL
          have HL := Lib.hid (And.intro hL hq9)
          clear hown hq2 hqe hne e10 hab8 hsl hL hq9 hL9 hcl8 hcm8
          go_wp2_with fail
          go_loopw [5] (fun z5 wr => ∃ (j : Nat) (A' : Option Addr) (n' c' : Nat), 64 * j + n' = q2 ∧ z5 = .slice A' n' c' ∧ Sl wr wr.heap.size A' (bv (lst.drop (64 * j))) ∧ n' ≤ c' ∧ c' ≤ maxLen ∧ (∀ a, A' = some a → a.block ≠ g11) ∧ At wr g11 (u32s (mixK h lst j)) ∧ At wr gr (bv z32) ∧ At wr go (bv z32) ∧ Below w.heap.size w wr) (fun z5 _ => slN z5)
          case atStart => exact ⟨0, A5, q2, c5, by omega, rfl, hsl8, hcl, hcm, hlo8, hV, hR, hO, hbel⟩
          case round =>
            clear hsl8 hcl hcm hlo8 hV hR hO hbel hA hbase
            obtain ⟨j, A', n', c', hj, rfl, hS, hc, hm, hlo', hV, hR, hO, hbel⟩ := hrel
            have hKok := mixK_ok HK8.out lst j
            have hstep : mixK h lst (j + 1) = mixS (mixK h lst j) (lst.drop (64 * j)) := rfl
            have hln : n' = (lst.drop (64 * j)).length := by rw [List.length_drop, ← HL.out.1]; omega
            have hcut := hS.cut 64 c' (by rw [bv_len, ← hln]; exact hc)
            rw [bv_drop, List.drop_drop] at hcut
            have HLN := Lib.hid hln
            have hL9 := HL.out.2
            have hqj : j ≤ q2 / 64 := by omega
            by_cases hlt : 0 < n'
            · have h64n : 64 ≤ n' := by omega
              generalize mixK h lst j = hk8 at *
              generalize lst.drop (64 * j) = bk at *
              have hst := Lib.hid hstep
              have h64 : (64 : Int) ≤ (n' : Int) := by omega
              have h0n : (0 : Int) < (n' : Int) := by omega
              have h64c : (64 : Int) ≤ (c' : Int) := by omega
              have hnc : (n' : Int) ≤ (c' : Int) := by omega
              clear hln hstep hqj
              clear h0n
              go_wp2_with fail
              have hS0 : KB #[] wr.drew := kb0 _
              have hAd := hV.drew
              have hSd : Sl wr.drew wr.drew.heap.size A' (bv bk) := hS
              have hbd := hbel.drew
              have hRd := hR.drew
              have hOd := hO.drew
              have hcd : Sl wr.drew wr.drew.heap.size (if c' = 64 then A' else A'.map (·.add 64)) (bv (lst.drop (64 * j + 64))) := hcut
              have hcl : ∀ a, (if c' = 64 then A' else A'.map (·.add 64)) = some a → a.block ≠ g11 := by
                intro a ha
                split at ha
                · exact hlo' a ha
                · rcases A' with _ | p
                  · cases ha
                  · simp only [Option.map_some] at ha
                    cases ha
                    exact hlo' p rfl
              have HMIX := Lib.hid (mix_any wr.drew A' n' c' hk8 hKok bk hSd HLN.out h64n (by omega))
              clear hV hS hbel hcut hR hO
              refine bstartH (#[]) (by kernel_rfl) ?_
              refine btake 1 (oi := _) (v := ?_) (by simp only [List.getElem?_toArray, List.getElem?_cons_succ, List.getElem?_cons_zero]; rfl) (by kernel_rfl) (by exact fun _ _ _ h => h) (by first | assumption | exact KB.refl _) (.inl ⟨by rfl, fun W hW => ?_⟩) ?_; rotate_left
              · (go_simp; first | done | with_reducible rfl)
              try simp only [Act.put, List.setIfInBounds_toArray, List.set_cons_zero, List.set_cons_succ]
              refine btake 3 (oi := _) (v := ?_) (by simp only [List.getElem?_toArray, List.getElem?_cons_succ, List.getElem?_cons_zero]; rfl) (by kernel_rfl) (by exact fun _ _ _ h => h) (by first | assumption | exact KB.refl _) (.inl ⟨by rfl, fun W hW => ?_⟩) ?_; rotate_left
              · (go_simp; first | done | with_reducible rfl)
              try simp only [Act.put, List.setIfInBounds_toArray, List.set_cons_zero, List.set_cons_succ]
              refine btake 4 (oi := _) (v := ?_) (by simp only [List.getElem?_toArray, List.getElem?_cons_succ, List.getElem?_cons_zero]; rfl) (by kernel_rfl) (by exact fun _ _ _ h => h) (by first | assumption | exact KB.refl _) (.inl ⟨by rfl, fun W hW => ?_⟩) ?_; rotate_left
              · (go_simp; first | done | with_reducible rfl)
              try simp only [Act.put, List.setIfInBounds_toArray, List.set_cons_zero, List.set_cons_succ]
              -- 0: Op.load 46 (Operand.tmp 4)
              refine bopH 0 (o := _) (by simp only [List.getElem?_toArray, List.getElem?_cons_zero]; rfl) (by kernel_rfl) (by first | assumption | exact KB.refl _) (by rfl) (fun K hK => ?_)
              refine wpVal (ex_ld8 rfl rfl hAd (by rw [u32s_len, hKok.1])) ?_
              have hkb := hS0
              refine hK.out _ _ hkb ?_; clear hK K
              try simp only [Act.put, List.setIfInBounds_toArray, List.set_cons_zero, List.set_cons_succ]
              -- 2: newsreel/sha.mix
              refine bopH 2 (o := _) (by simp only [List.getElem?_toArray, List.getElem?_cons_succ, List.getElem?_cons_zero]; rfl) (by kernel_rfl) (by first | assumption | exact KB.refl _) (by rfl) (fun K hK => ?_)
              go_simp
              refine HMIX.out.mono ?_
              rintro e w5 ⟨rfl, hb5⟩
              have hA5 := hAd.below hb5
              have hR5 := hRd.below hb5
              have hO5 := hOd.below hb5
              have hb6 := hbd.trans (hb5.mono hbd.size)
              have hc5 := (hcd.below hb5).more hb5.size
              have hkb : KB #[] w5 := kb0 _
              clear hAd hSd hcd HMIX hb5 hRd hOd hbd
              refine hK.out _ _ hkb ?_; clear hK K
              try simp only [Act.put, List.setIfInBounds_toArray, List.set_cons_zero, List.set_cons_succ]
              -- 5: Op.store 46 (Operand.tmp 4) (Operand.tmp 49)
              refine bopH 5 (o := _) (by simp only [List.getElem?_toArray, List.getElem?_cons_succ, List.getElem?_cons_zero]; rfl) (by kernel_rfl) (by first | assumption | exact KB.refl _) (by rfl) (fun K hK => ?_)
              refine wpSkip (w' := putL w5 g11 0 (u32s (mixS hk8 bk))) (ex_st8 (us := u32s (mixS hk8 bk)) (old := u32s hk8) rfl rfl rfl hA5 (by rw [u32s_len, hKok.1]) (by rw [u32s_len, (mixS_ok hKok bk).1]) (u32s_one _)) ?_
              have hA6 := hA5.putL (u32s (mixS hk8 bk)) (by rw [u32s_len, u32s_len, (mixS_ok hKok bk).1, hKok.1])
              have hR6 := hR5.putL_other (u32s (mixS hk8 bk)) 0 _ nr
              have hO6 := hO5.putL_other (u32s (mixS hk8 bk)) 0 _ no
              have hb7 := below_putL (u32s (mixS hk8 bk)) 0 hb6 wg
              have hgx := grown_putL (u32s (mixS hk8 bk)) 0 (grown_of_below (Below.refl w5.heap.size w5) (some g11)) (.inl rfl)
              have hc6 := (hc5.gr hgx hcl).more hgx.size
              have hkb : KB #[] (putL w5 g11 0 (u32s (mixS hk8 bk))) := kb0 _
              clear hA5 hR5 hO5 hb6 hc5 hgx
              generalize putL w5 g11 0 (u32s (mixS hk8 bk)) = w6 at *
              refine hK.out _ _ hkb ?_; clear hK K
              try simp only [Act.put]
              refine btake 6 (oi := _) (v := ?_) (by simp only [List.getElem?_toArray, List.getElem?_cons_succ, List.getElem?_cons_zero]; rfl) (by kernel_rfl) (by exact fun _ _ _ h => h) (by first | assumption | exact KB.refl _) (.inl ⟨by rfl, fun W hW => ?_⟩) ?_; rotate_left
              · (go_simp; first | done | with_reducible rfl)
              try simp only [Act.put, List.setIfInBounds_toArray, List.set_cons_zero, List.set_cons_succ]
              refine bdone (by kernel_rfl) ?_
              go_wp2_with fail
              go_roundw
              case rel =>
                refine ⟨j + 1, _, n' - 64, c' - 64, by omega, rfl, ?_, by omega, by omega, hcl, ?_, hR6, hO6, hb7⟩
                · rw [show 64 * (j + 1) = 64 * j + 64 by omega]; exact hc6
                · rw [hst.out]; exact hA6
              case measure => simp [slN] <;> omega
            · obtain rfl : n' = 0 := by omega
              have hq : q2 / 64 = j := by omega
              have hoe := HS.out.1
              rw [hq] at hoe
              generalize mixK h lst j = hk8 at *
              have HOE := Lib.hid hoe
              clear hln hstep hqj hq hoe hcut hS hj hL9
              go_wp2_with fail
              have hO0 : At wr go (bv (idOf hk8 0 ++ List.replicate (32 - 0) 0)) := hO
              go_loopw [52] (fun z52 wr => ∃ k : Nat, k ≤ 32 ∧ z52 = .int .i64 (k : Int) ∧ At wr g11 (u32s hk8) ∧ At wr gr (bv z32) ∧ At wr go (bv (idOf hk8 k ++ List.replicate (32 - k) 0)) ∧ Below w.heap.size w wr) (fun z52 _ => 32 - (intOf z52).toNat)
              case atStart => exact ⟨0, by omega, rfl, hV, hR, hO0, hbel⟩
              case round =>
                clear hV hR hO hO0 hbel
                obtain ⟨k, hk, rfl, hV, hR, hO, hbel⟩ := hrel
                by_cases hlt : k < 32
                · obtain ⟨a, ha⟩ : ∃ a, a = k / 4 := ⟨_, rfl⟩
                  obtain ⟨sh, hsh⟩ : ∃ sh, sh = 24 - 8 * (k % 4) := ⟨_, rfl⟩
                  have ha8 : a < 8 := by omega
                  have hv := hV.c a (u32s_get hk8 a (by rw [hKok.1]; exact ha8))
                  have hvl := at'_lt hKok.2 a
                  have hstep := idOf_succ hk8 k
                  rw [← ha, ← hsh] at hstep
                  generalize at' hk8 a = y at *
                  have q1 : (k : Int) / 4 = (a : Int) := by omega
                  have q2' : 24 - (k : Int) % 4 * 8 = (sh : Int) := by omega
                  have hgc : (bv (idOf hk8 k ++ List.replicate (32 - k) 0))[k]? = some (.int .u8 0) := by
                    rw [bv_get _ _ (by rw [List.length_append, idOf_len, List.length_replicate]; omega), List.getElem?_append_right (by rw [idOf_len]; omega), idOf_len, Nat.sub_self, List.getElem?_replicate, if_pos (by omega)]
                    rfl
                  have hcO := hO.c k hgc
                  have hfO := hO.f k hgc
                  have hst := hO.set k (.int .u8 ((y / 2 ^ sh % 256 : Nat) : Int)) (by rw [bv_len, List.length_append, idOf_len, List.length_replicate]; omega)
                  have hset : (bv (idOf hk8 k ++ List.replicate (32 - k) 0)).set k (.int .u8 ((y / 2 ^ sh % 256 : Nat) : Int)) = bv (idOf hk8 (k + 1) ++ List.replicate (32 - (k + 1)) 0) := by
                    rw [bv_set _ _ _ (Nat.mod_lt _ (by omega)), List.set_append, if_neg (by rw [idOf_len]; omega), idOf_len, Nat.sub_self, hstep, show 32 - k = (32 - (k + 1)) + 1 by omega, List.replicate_succ, List.set_cons_zero, List.append_assoc]
                    rfl
                  rw [hset] at hst
                  have hV2 := hV.set_other k (.int .u8 ((y / 2 ^ sh % 256 : Nat) : Int)) (Ne.symm no)
                  have hR2 := hR.set_other k (.int .u8 ((y / 2 ^ sh % 256 : Nat) : Int)) (by omega : go ≠ gr)
                  have hb2 := hbel.setCell (p := ⟨go, k, none⟩) hgo9 (.int .u8 ((y / 2 ^ sh % 256 : Nat) : Int))
                  have hy : (y : Int) / 2 ^ min sh 32 % 256 = ((y / 2 ^ sh % 256 : Nat) : Int) := by rw [show min sh 32 = sh by omega]; push_cast; rfl
                  have hE : ((y / 2 ^ sh % 256 : Nat) : Int) = (y : Int) / 2 ^ sh % 256 := by push_cast; rfl
                  rw [hE] at hst hV2 hR2 hb2
                  clear hstep hset hgc hO hV hR hbel ha hsh
                  go_wp2_with fail
                  go_roundw
                  case rel => exact ⟨k + 1, by omega, by go_num, hV2, hR2, hst, hb2⟩
                  case measure => simp [intOf] <;> omega
                · obtain rfl : k = 32 := by omega
                  rw [show (((32 : Nat)) : Int) = (32 : Int) from rfl]
                  have hfin : idOf hk8 32 ++ List.replicate (32 - 32) 0 = idOf hk8 32 := by simp
                  rw [hfin, ← HOE.out] at hO
                  have ho32 : (bv out).length = 32 := by rw [bv_len, HOE.out, idOf_len]
                  have hRf := hR.putL (bv out) (by rw [ho32]; rfl)
                  have hbf := below_putL (bv out) 0 hbel hgr9
                  have HF := Lib.hid (And.intro hRf (And.intro ho32 hbf))
                  have HW := Lib.hid (And.intro hO hR)
                  clear hRf hbf hO hR hV hfin ho32
                  go_wp2_with (first
                    | (refine opVal rfl (ex_ld32 rfl rfl HW.out.1 HF.out.2.1) ?_)
                    | (refine opSkip rfl (ex_st32 rfl rfl rfl HW.out.2 rfl HF.out.2.1 (bv_one _)) ?_))
                  exact bodyPost_ret (results_arr32 rfl _ rfl HF.out.1 HF.out.2.1) rfl ⟨rfl, HF.out.2.2⟩
end Go.Proofs.Ytjbelkpmbbkhgaa

