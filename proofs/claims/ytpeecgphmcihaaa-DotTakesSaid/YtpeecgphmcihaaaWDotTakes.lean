/- DotTakes, walked: which dot stands at the beginning of any bytes. -/
import Derived.Test.YtpeecgphmcihaaaDotK
import Derived.Test.YtpeecgphmcihaaaDotO
import Derived.Test.YtpeecgphmcihaaaParX
import Derived.Test.YtpeecgphmcihaaaMat
import Derived.Test.YtpeecgphmcihaaaCrcD
namespace Go.Proofs.Ytpeecgphmcihaaa
open Go.RowKit Go.Proofs.Ytpeecgphmcihaaa.Pl Go.Proofs.Ytpeecgphmcihaaa.Dt

/-- some bytes, so many at most -/
def YldX.some_ (j : Nat) (d : Option Tmp) (cons : Option Nat) (n : Nat) : YldX := ⟨j, d, cons, fun v w => ∃ l, l.length ≤ n ∧ SlcIs w v l, fun v w w' row ⟨l, hl, A, c, e, h1, h2, h3⟩ hg hne => by
  subst e
  exact ⟨l, hl, A, c, rfl, sl_grown h1 hg hne, h2, h3⟩⟩
/-- one u64 -/
def YldX.u1 (j : Nat) (d : Option Tmp) (cons : Option Nat) (q : Nat) : YldX := ⟨j, d, cons, fun v w => ∃ A, v = .slice A 1 1 ∧ Sl w w.heap.size A (uv [q]), fun v w w' row ⟨A, e, h1⟩ hg hne => by
  subst e
  exact ⟨A, rfl, sl_grown h1 hg hne⟩⟩
theorem StepX.fr {ops : Array Oper} {L : List YldX} {vs : Nat → Value} {s : YldX} {W w' : World} {A : Option Addr} {n c : Nat} (hpr : s.pr (.slice A n c) w') (hb : Below W.heap.size W w') (hf : ∀ a, A = some a → W.heap.size ≤ a.block ∧ a.block < w'.heap.size) : StepX ops L vs s W (.slice A n c) w' := by
  refine ⟨hpr, ⟨none, grownBelow hb none, .inl rfl⟩, ?_⟩
  cases A with
  | none => exact .inl rfl
  | some a =>
    obtain ⟨h1, h2⟩ := hf a rfl
    exact .inr (.inr ⟨a.block, rfl, h1, h2⟩)
set_option maxRecDepth 100000 in
set_option maxHeartbeats 12800000 in
theorem DotTakes_walk (w : World) (A : Option Addr) (c : Nat) (l : List UInt8) (hl : Sl w w.heap.size A (bv l)) (hc : l.length ≤ c) (hcm : c ≤ 140737488351232) (d : D2) (A2 : Option Addr) (c2 : Nat) (t : List UInt8) (ht : Sl w w.heap.size A2 (bv t)) (htc : t.length ≤ c2) (htm : c2 ≤ 140737488351232)
    (at' : Int) (ha : -9223372036854775808 ≤ at' ∧ at' ≤ 9223372036854775807) (by' : Nat) (hby : by' < 256) (how : Nat) (hhow : how < 256) :
    Calls Try.prog 5 #[.slice A l.length c, d.v, .slice A2 t.length c2, .int .i64 at', .int .u8 (by' : Int), .int .u8 (how : Int)] w fun e w' => e = .returned (.bool true) ∧ Below w.heap.size w w' := by
  have HK := Lib.hid (fun W => dknown_any W)
  have hDB := fun W => DBytes_any W d
  have hRB := fun W => RDBytes_any W d
  have hDR := fun W => DRight_any W d
  obtain ⟨rr, hrr⟩ : ∃ rr, d.right = rr := ⟨_, rfl⟩
  have hpf : rr = true → takeD (d.bytes ++ t) = (d, d.bytes.length, 0) := fun e => take_bytes (hrr.trans e) t
  rw [hrr] at hDR
  have hpl := bytes_le d
  obtain ⟨P, hP⟩ : ∃ P, d.bytes = P := ⟨_, rfl⟩
  obtain ⟨nP, hnP⟩ : ∃ nP, P.length = nP := ⟨_, rfl⟩
  unfold Fresh at hDB hRB
  rw [hP] at hDB hRB hpf hpl
  rw [hnP] at hDB hRB hpf hpl
  have hst := StandsD.new w 23 d
  have hb0 := balloc (Below.refl w.heap.size w) (.cells #[.int .i64 d.r, .int .i64 d.q] 23)
  obtain ⟨q, hq⟩ : ∃ q : Nat, IntKind.u64.wrap d.q = (q : Int) := ⟨(IntKind.u64.wrap d.q).toNat, by rw [IntKind.wrap_u64]; omega⟩
  have hqU : U64 q := by unfold U64; rw [IntKind.wrap_u64] at hq; omega
  unfold D2.v at hDB hRB hDR ⊢
  have HB := Lib.hid (And.intro hDB (And.intro hRB hDR))
  have HP := Lib.hid (And.intro hnP (And.intro hpf hP))
  clear hDB hRB hDR hrr hpf hP hnP
  go_enter Try.func5, Try.ntmps5
  go_wp2_with fail
  generalize w.alloc (.cells #[.int .i64 d.r, .int .i64 d.q] 23) = w0 at *
  refine (HK.out _).mono ?_
  rintro e w1 ⟨rfl, hb1⟩
  have hst1 := hst.below hb1
  have hbw1 := bstep hb0 hb1
  clear hst hb0 hb1
  have m0 := hst1.2.1
  have m1 := hst1.2.2.1
  go_wp2_with fail
  refine (HB.out.1 _).mono ?_
  rintro e w2 ⟨A3, c3, rfl, hown2, hb2⟩
  have hst2 := hst1.below hb2
  have hbw2 := bstep hbw1 hb2
  have hs2 := (OwnB.sl (l := P) (by rw [HP.out.1]; exact hown2))
  have hcv := convB hs2.1 nP c3 HP.out.1.symm
  have e0 := cellB hst2.2.1
  have e1 := cellB hst2.2.2.1
  clear hst1 hbw1 m0 m1 hown2 hb2
  go_wp2_with fail
  refine bstart (by kernel_rfl) ?_
  refine btake 0 (oi := _) (v := ?_) (by simp only [List.getElem?_toArray, List.getElem?_cons_zero]; rfl) (by kernel_rfl) (by exact fun _ _ _ h => h) (by first | assumption | exact KB.refl _) (.inl ⟨by rfl, fun W hW => ?_⟩) ?_; rotate_left
  · (go_simp; first | done | with_reducible rfl)
  try simp only [Act.put, List.setIfInBounds_toArray, List.set_cons_zero, List.set_cons_succ]
  refine btake 1 (oi := _) (v := ?_) (by simp only [List.getElem?_toArray, List.getElem?_cons_succ, List.getElem?_cons_zero]; rfl) (by kernel_rfl) (by exact fun _ _ _ h => h) (by first | assumption | exact KB.refl _) (.inl ⟨by rfl, fun W hW => ?_⟩) ?_; rotate_left
  · (go_simp; first | done | with_reducible rfl)
  try simp only [Act.put, List.setIfInBounds_toArray, List.set_cons_zero, List.set_cons_succ]
  refine btake 2 (oi := _) (v := ?_) (by simp only [List.getElem?_toArray, List.getElem?_cons_succ, List.getElem?_cons_zero]; rfl) (by kernel_rfl) (by exact fun _ _ _ h => h) (by first | assumption | exact KB.refl _) (.inl ⟨by rfl, fun W hW => ?_⟩) ?_; rotate_left
  · (go_simp; first | done | with_reducible rfl)
  try simp only [Act.put, List.setIfInBounds_toArray, List.set_cons_zero, List.set_cons_succ]
  -- 3: newsreel/newsreelref1.DotBytes
  refine bop 3 (o := _) (by simp only [List.getElem?_toArray, List.getElem?_cons_succ, List.getElem?_cons_zero]; rfl) (by kernel_rfl) (by first | assumption | exact KB.refl _) (by rfl) (fun K hK => ?_)
  go_simp
  refine (HB.out.2.1 _).mono ?_
  rintro e w3 ⟨A4, c4, rfl, hown3, hb3⟩
  have hkb := KB.of hb3
  have hcv2 := convB (OwnB.sl (l := P) (by rw [HP.out.1]; exact hown3)).1 nP c4 HP.out.1.symm
  refine hK.out _ _ hkb ?_; clear hK K
  try simp only [Act.put, List.setIfInBounds_toArray, List.set_cons_zero, List.set_cons_succ]
  refine btake 4 (oi := _) (v := ?_) (by simp only [List.getElem?_toArray, List.getElem?_cons_succ, List.getElem?_cons_zero]; rfl) (by kernel_rfl) (by exact fun _ _ _ h => h) (by first | assumption | exact KB.refl _) (.inl ⟨by rfl, fun W hW => ?_⟩) ?_; rotate_left
  · (go_simp; first | done | with_reducible rfl)
  try simp only [Act.put, List.setIfInBounds_toArray, List.set_cons_zero, List.set_cons_succ]
  refine btake 5 (oi := _) (v := ?_) (by simp only [List.getElem?_toArray, List.getElem?_cons_succ, List.getElem?_cons_zero]; rfl) (by kernel_rfl) (by exact fun _ _ _ h => h) (by first | assumption | exact KB.refl _) (.inl ⟨by rfl, fun W hW => ?_⟩) ?_; rotate_left
  · (go_simp; first | done | with_reducible rfl)
  try simp only [Act.put, List.setIfInBounds_toArray, List.set_cons_zero, List.set_cons_succ]
  refine bdone (by kernel_rfl) ?_
  have hb23 := (Below.refl _ w2).drew.trans hb3
  have hst3 := hst2.below hb23
  have hbw3 := hbw2.trans (hb23.mono hbw2.size)
  have hs3 := (hs2.1.below hb23).more hb23.size
  obtain ⟨hc3, hm3⟩ := hs2.2
  rw [HP.out.1] at hc3
  clear hcv hcv2 hkb hown3 hb3 hb23 hst2 hbw2 hs2 e0 e1
  have e0 := cellB hst3.2.1
  have e1 := cellB hst3.2.2.1
  have hl3 := (hl.below hbw3).more hbw3.size
  have ht3 := (ht.below hbw3).more hbw3.size
  go_wp2_with fail
  refine bstart (by kernel_rfl) ?_
  refine btake 0 (oi := _) (v := ?_) (by simp only [List.getElem?_toArray, List.getElem?_cons_zero]; rfl) (by kernel_rfl) (by exact fun _ _ _ h => h) (by first | assumption | exact KB.refl _) (.inl ⟨by rfl, fun W hW => ?_⟩) ?_; rotate_left
  · (go_simp; first | done | with_reducible rfl)
  try simp only [Act.put, List.setIfInBounds_toArray, List.set_cons_zero, List.set_cons_succ]
  refine btake 1 (oi := _) (v := ?_) (by simp only [List.getElem?_toArray, List.getElem?_cons_succ, List.getElem?_cons_zero]; rfl) (by kernel_rfl) (by exact fun _ _ _ h => h) (by first | assumption | exact KB.refl _) (.inl ⟨by rfl, fun W hW => ?_⟩) ?_; rotate_left
  · (go_simp; first | done | with_reducible rfl)
  try simp only [Act.put, List.setIfInBounds_toArray, List.set_cons_zero, List.set_cons_succ]
  refine btake 3 (oi := _) (v := ?_) (by simp only [List.getElem?_toArray, List.getElem?_cons_succ, List.getElem?_cons_zero]; rfl) (by kernel_rfl) (by exact fun _ _ _ h => h) (by first | assumption | exact KB.refl _) (.inl ⟨by rfl, fun W hW => ?_⟩) ?_; rotate_left
  · (go_simp; first | done | with_reducible rfl)
  try simp only [Act.put, List.setIfInBounds_toArray, List.set_cons_zero, List.set_cons_succ]
  refine btake 5 (oi := _) (v := ?_) (by simp only [List.getElem?_toArray, List.getElem?_cons_succ, List.getElem?_cons_zero]; rfl) (by kernel_rfl) (by exact fun _ _ _ h => h) (by first | assumption | exact KB.refl _) (.inl ⟨by rfl, fun W hW => ?_⟩) ?_; rotate_left
  · (go_simp; first | done | with_reducible rfl)
  try simp only [Act.put, List.setIfInBounds_toArray, List.set_cons_zero, List.set_cons_succ]
  refine btake 6 (oi := _) (v := ?_) (by simp only [List.getElem?_toArray, List.getElem?_cons_succ, List.getElem?_cons_zero]; rfl) (by kernel_rfl) (by exact fun _ _ _ h => h) (by first | assumption | exact KB.refl _) (.inl ⟨by rfl, fun W hW => ?_⟩) ?_; rotate_left
  · (go_simp; first | done | with_reducible rfl)
  try simp only [Act.put, List.setIfInBounds_toArray, List.set_cons_zero, List.set_cons_succ]
  refine btake 7 (oi := _) (v := ?_) (by simp only [List.getElem?_toArray, List.getElem?_cons_succ, List.getElem?_cons_zero]; rfl) (by kernel_rfl) (by exact fun _ _ _ h => h) (by first | assumption | exact KB.refl _) (.inl ⟨by rfl, fun W hW => ?_⟩) ?_; rotate_left
  · (go_simp; first | done | with_reducible rfl)
  try simp only [Act.put, List.setIfInBounds_toArray, List.set_cons_zero, List.set_cons_succ]
  refine btake 8 (oi := _) (v := ?_) (by simp only [List.getElem?_toArray, List.getElem?_cons_succ, List.getElem?_cons_zero]; rfl) (by kernel_rfl) (by exact fun _ _ _ h => h) (by first | assumption | exact KB.refl _) (.inl ⟨by rfl, fun W hW => ?_⟩) ?_; rotate_left
  · (go_simp; first | done | with_reducible rfl)
  try simp only [Act.put, List.setIfInBounds_toArray, List.set_cons_zero, List.set_cons_succ]
  refine btake 10 (oi := _) (v := ?_) (by simp only [List.getElem?_toArray, List.getElem?_cons_succ, List.getElem?_cons_zero]; rfl) (by kernel_rfl) (by exact fun _ _ _ h => h) (by first | assumption | exact KB.refl _) (.inl ⟨by rfl, fun W hW => ?_⟩) ?_; rotate_left
  · (go_simp; first | done | with_reducible rfl)
  try simp only [Act.put, List.setIfInBounds_toArray, List.set_cons_zero, List.set_cons_succ]
  refine btake 12 (oi := _) (v := ?_) (by simp only [List.getElem?_toArray, List.getElem?_cons_succ, List.getElem?_cons_zero]; rfl) (by kernel_rfl) (by exact fun _ _ _ h => h) (by first | assumption | exact KB.refl _) (.inl ⟨by rfl, fun W hW => ?_⟩) ?_; rotate_left
  · (go_simp; first | done | with_reducible rfl)
  try simp only [Act.put, List.setIfInBounds_toArray, List.set_cons_zero, List.set_cons_succ]
  refine btake 13 (oi := _) (v := ?_) (by simp only [List.getElem?_toArray, List.getElem?_cons_succ, List.getElem?_cons_zero]; rfl) (by kernel_rfl) (by exact fun _ _ _ h => h) (by first | assumption | exact KB.refl _) (.inl ⟨by rfl, fun W hW => ?_⟩) ?_; rotate_left
  · (go_simp; first | done | with_reducible rfl)
  try simp only [Act.put, List.setIfInBounds_toArray, List.set_cons_zero, List.set_cons_succ]
  refine btake 14 (oi := _) (v := ?_) (by simp only [List.getElem?_toArray, List.getElem?_cons_succ, List.getElem?_cons_zero]; rfl) (by kernel_rfl) (by exact fun _ _ _ h => h) (by first | assumption | exact KB.refl _) (.inl ⟨by rfl, fun W hW => ?_⟩) ?_; rotate_left
  · (go_simp; first | done | with_reducible rfl)
  try simp only [Act.put, List.setIfInBounds_toArray, List.set_cons_zero, List.set_cons_succ]
  refine btake 19 (oi := _) (v := ?_) (by simp only [List.getElem?_toArray, List.getElem?_cons_succ, List.getElem?_cons_zero]; rfl) (by kernel_rfl) (by exact fun _ _ _ h => h) (by first | assumption | exact KB.refl _) (.inl ⟨by rfl, fun W hW => ?_⟩) ?_; rotate_left
  · (go_simp; first | done | with_reducible rfl)
  try simp only [Act.put, List.setIfInBounds_toArray, List.set_cons_zero, List.set_cons_succ]
  refine bparX [YldX.own 2 (some 37) (some 4) w3.heap.size P, YldX.own 4 (some 39) none w3.heap.size (P ++ t), YldX.some_ 9 (some 44) none (nP + 1), YldX.own 11 (some 46) (some 16) w3.heap.size [UInt8.ofNat by'], YldX.u1 15 (some 50) (some 16) q, YldX.own 16 (some 51) none w3.heap.size ([UInt8.ofNat by'] ++ encs [q])] 2 rfl (by kernel_rfl) (by kernel_rfl) (fun s hs => ?_) (fun vs W hbW hd => ?_)
  · simp only [List.mem_cons, List.not_mem_nil, or_false] at hs
    rcases hs with rfl | rfl | rfl | rfl | rfl | rfl
    · -- 2: Op.call { callee := Callee.builtin Builtin.append, args := #[Operand.const (Value.slice none 0 0), Operand.tmp 36], argTypes := #[34, 34] }
      intro vs W hbW hd
      clear hd
      refine parX_of (j := 2) (d := (some 37)) (o := _) (by simp only [List.getElem?_toArray, List.getElem?_cons_succ, List.getElem?_cons_zero]; rfl) (by rfl) (fun K hK => ?_)
      simp only [putx, puts, List.map_cons, List.map_nil, YldX.y, List.foldl_cons, List.foldl_nil, Act.put, List.setIfInBounds_toArray, List.set_cons_zero, List.set_cons_succ, YldX.eq, YldX.sl, YldX.own, YldX.some_, YldX.u1] at hK ⊢
      refine wp_app rfl (OwnB.nil W W.heap.size) (Sl.below' (w := w3.drew) hs3 hbW) HP.out.1.symm rfl rfl (by have := HP.out.1; simp; omega) (Nat.le_refl _) ?_
      intro s5 w5 hown5 hg5 hat5
      rw [List.nil_append] at hown5
      exact hK.out _ _ _ (by rfl) (StepX.fresh (OwnB.lower hown5 hbW.size) (below_of_grown hg5 (by simp [Value.ownBlock]) (Nat.le_refl _)) hown5)
    · -- 4: Op.call { callee := Callee.builtin Builtin.append, args := #[Operand.tmp 37, Operand.tmp 38], argTypes := #[34, 34] }
      intro vs W hbW hd
      obtain ⟨h2, b2⟩ : ((YldX.own 2 (some 37) (some 4) w3.heap.size P).pr (vs 2) W) ∧ ∀ g, (vs 2).ownBlock = some g → _ := hd _ (.head _) (by kernel_rfl) (by first | exact .inl rfl | exact .inr rfl)
      clear hd
      refine parX_of (j := 4) (d := (some 39)) (o := _) (by simp only [List.getElem?_toArray, List.getElem?_cons_succ, List.getElem?_cons_zero]; rfl) (by rfl) (fun K hK => ?_)
      simp only [putx, puts, List.map_cons, List.map_nil, YldX.y, List.foldl_cons, List.foldl_nil, Act.put, List.setIfInBounds_toArray, List.set_cons_zero, List.set_cons_succ, YldX.eq, YldX.sl, YldX.own, YldX.some_, YldX.u1] at hK ⊢
      generalize e2 : vs 2 = v2 at hK h2 b2 ⊢
      refine wp_app rfl h2 (Sl.below' (w := w3.drew) ht3 hbW) rfl rfl rfl (by have := HP.out.1; omega) hbW.size ?_
      intro s5 w5 hown5 hg5 hat5
      exact hK.out _ _ _ (by rfl) (StepX.app (t := YldX.own 2 (some 37) (some 4) w3.heap.size P) (.head _) (by kernel_rfl) rfl e2 hown5 hown5 hg5 hat5)
    · -- 9: newsreel/newsreelseat.Changed
      intro vs W hbW hd
      obtain ⟨h4, b4⟩ : ((YldX.own 4 (some 39) none w3.heap.size (P ++ t)).pr (vs 4) W) ∧ ∀ g, (vs 4).ownBlock = some g → _ := hd _ (.tail _ (.head _)) (by kernel_rfl) (by first | exact .inl rfl | exact .inr rfl)
      clear hd
      refine parX_of (j := 9) (d := (some 44)) (o := _) (by simp only [List.getElem?_toArray, List.getElem?_cons_succ, List.getElem?_cons_zero]; rfl) (by rfl) (fun K hK => ?_)
      simp only [putx, puts, List.map_cons, List.map_nil, YldX.y, List.foldl_cons, List.foldl_nil, Act.put, List.setIfInBounds_toArray, List.set_cons_zero, List.set_cons_succ, YldX.eq, YldX.sl, YldX.own, YldX.some_, YldX.u1] at hK ⊢
      generalize e4 : vs 4 = v4 at hK h4 b4 ⊢
      go_simp
      refine Calls.mono (ChangedO_any W A3 nP c3 P ((Sl.below' (w := w3.drew) hs3 hbW).more hbW.size) HP.out.1.symm (by have := HP.out.1; omega) at' ha.1 ha.2 by' hby how hhow) ?_
      rintro e w5 ⟨A5, c5, C, rfl, hsC, hleC, hmC, hlC, hbC, hfr⟩
      rw [HP.out.1] at hlC
      exact hK.out _ _ _ (by rfl) (StepX.fr ⟨C, hlC, A5, c5, rfl, hsC, hleC, hmC⟩ hbC hfr)
    · -- 11: Op.buildSlice 34 1 #[(0, Operand.tmp 45)]
      intro vs W hbW hd
      clear hd
      refine parX_of (j := 11) (d := (some 46)) (o := _) (by simp only [List.getElem?_toArray, List.getElem?_cons_succ, List.getElem?_cons_zero]; rfl) (by rfl) (fun K hK => ?_)
      simp only [putx, puts, List.map_cons, List.map_nil, YldX.y, List.foldl_cons, List.foldl_nil, Act.put, List.setIfInBounds_toArray, List.set_cons_zero, List.set_cons_succ, YldX.eq, YldX.sl, YldX.own, YldX.some_, YldX.u1] at hK ⊢
      go_simp
      exact hK.out _ _ _ (by rfl) (StepX.fresh ((OwnB.one W by' hby).lower hbW.size) (balloc (Below.refl _ _) _) (OwnB.one W by' hby))
    · -- 15: Op.buildSlice 58 1 #[(0, Operand.tmp 49)]
      intro vs W hbW hd
      clear hd
      refine parX_of (j := 15) (d := (some 50)) (o := _) (by simp only [List.getElem?_toArray, List.getElem?_cons_succ, List.getElem?_cons_zero]; rfl) (by rfl) (fun K hK => ?_)
      simp only [putx, puts, List.map_cons, List.map_nil, YldX.y, List.foldl_cons, List.foldl_nil, Act.put, List.setIfInBounds_toArray, List.set_cons_zero, List.set_cons_succ, YldX.eq, YldX.sl, YldX.own, YldX.some_, YldX.u1] at hK ⊢
      go_simp
      exact hK.out _ _ _ (by rfl) (StepX.fr ⟨_, rfl, (Sl.lit64 W [q]).more (by simp)⟩ (balloc (Below.refl _ _) _) (fun a e => by cases e; simp))
    · -- 16: newsreel/newsreelref1.Put
      intro vs W hbW hd
      obtain ⟨h9, b9⟩ : ((YldX.some_ 9 (some 44) none (nP + 1)).pr (vs 9) W) ∧ ∀ g, (vs 9).ownBlock = some g → _ := hd _ (.tail _ (.tail _ (.head _))) (by kernel_rfl) (by first | exact .inl rfl | exact .inr rfl)
      obtain ⟨h11, b11⟩ : ((YldX.own 11 (some 46) (some 16) w3.heap.size [UInt8.ofNat by']).pr (vs 11) W) ∧ ∀ g, (vs 11).ownBlock = some g → _ := hd _ (.tail _ (.tail _ (.tail _ (.head _)))) (by kernel_rfl) (by first | exact .inl rfl | exact .inr rfl)
      obtain ⟨h15, b15⟩ : ((YldX.u1 15 (some 50) (some 16) q).pr (vs 15) W) ∧ ∀ g, (vs 15).ownBlock = some g → _ := hd _ (.tail _ (.tail _ (.tail _ (.tail _ (.head _))))) (by kernel_rfl) (by first | exact .inl rfl | exact .inr rfl)
      clear hd
      refine parX_of (j := 16) (d := (some 51)) (o := _) (by simp only [List.getElem?_toArray, List.getElem?_cons_succ, List.getElem?_cons_zero]; rfl) (by rfl) (fun K hK => ?_)
      simp only [putx, puts, List.map_cons, List.map_nil, YldX.y, List.foldl_cons, List.foldl_nil, Act.put, List.setIfInBounds_toArray, List.set_cons_zero, List.set_cons_succ, YldX.eq, YldX.sl, YldX.own, YldX.some_, YldX.u1] at hK ⊢
      generalize e9 : vs 9 = v9 at hK h9 b9 ⊢
      generalize e11 : vs 11 = v11 at hK h11 b11 ⊢
      generalize e15 : vs 15 = v15 at hK h15 b15 ⊢
      obtain ⟨A11, c11, rfl, _, _, k11, _⟩ := OwnB.form h11
      obtain ⟨A15, rfl, k15⟩ := h15
      go_simp
      refine Calls.mono (RefPut_any W A11 A15 c11 1 [UInt8.ofNat by'] [q] k11 k15 (by intro z hz; rw [List.mem_singleton] at hz; subst hz; exact hqU) (by simp)) ?_
      rintro e w5 ⟨A5, c5, rfl, hown5, hb5⟩
      exact hK.out _ _ _ (by rfl) (StepX.fresh (OwnB.lower hown5 hbW.size) hb5 hown5)
  obtain ⟨h4, b4⟩ : ((YldX.own 4 (some 39) none w3.heap.size (P ++ t)).pr (vs 4) W) ∧ ∀ g, (vs 4).ownBlock = some g → _ := hd _ (.tail _ (.head _)) rfl
  obtain ⟨h9, b9⟩ : ((YldX.some_ 9 (some 44) none (nP + 1)).pr (vs 9) W) ∧ ∀ g, (vs 9).ownBlock = some g → _ := hd _ (.tail _ (.tail _ (.head _))) rfl
  obtain ⟨h16, b16⟩ : ((YldX.own 16 (some 51) none w3.heap.size ([UInt8.ofNat by'] ++ encs [q])).pr (vs 16) W) ∧ ∀ g, (vs 16).ownBlock = some g → _ := hd _ (.tail _ (.tail _ (.tail _ (.tail _ (.tail _ (.head _)))))) rfl
  clear hd
  have hKW := KB.of hbW
  simp only [putx, puts, List.map_cons, List.map_nil, YldX.y, List.foldl_cons, List.foldl_nil, Act.put, List.setIfInBounds_toArray, List.set_cons_zero, List.set_cons_succ, YldX.eq, YldX.sl, YldX.own, YldX.some_, YldX.u1]
  generalize vs 2 = v2
  generalize vs 4 = v4 at h4 b4 ⊢
  generalize vs 9 = v9 at h9 b9 ⊢
  generalize vs 11 = v11
  generalize vs 15 = v15
  generalize vs 16 = v16 at h16 b16 ⊢
  obtain ⟨C, hCl, A9, c9, rfl, hs9, hle9, hm9⟩ := h9
  obtain ⟨T4, hT4⟩ : ∃ T4, P ++ t = T4 := ⟨_, rfl⟩
  obtain ⟨R, hR⟩ : ∃ R, [UInt8.ofNat by'] ++ encs [q] = R := ⟨_, rfl⟩
  rw [hT4] at h4
  rw [hR] at h16
  obtain ⟨A4', c4', e4', hle4, hm4, hs4, _⟩ := OwnB.form h4
  obtain ⟨A16, c16, e16, hle16, hm16, hs16, _⟩ := OwnB.form h16
  obtain ⟨n4, hn4⟩ : ∃ n4, T4.length = n4 := ⟨_, rfl⟩
  obtain ⟨n9, hn9⟩ : ∃ n9, C.length = n9 := ⟨_, rfl⟩
  obtain ⟨n16, hn16⟩ : ∃ n16, R.length = n16 := ⟨_, rfl⟩
  rw [hn4] at e4' hle4
  rw [hn9] at hle9 ⊢
  rw [hn16] at e16 hle16
  subst e4' e16
  have hbW' : Below w3.heap.size w3 W := (Below.refl _ w3).drew.trans hbW
  have hM := Mat.four W 34 (.slice A l.length c) (.slice A4' n4 c4') (.slice A9 n9 c9) (.slice A16 n16 c16) l T4 C R
    ⟨A, c, rfl, (hl3.below hbW').more hbW'.size, hc, by simp only [maxLen]; omega⟩ ⟨A4', c4', by rw [hn4], hs4, by rw [hn4]; exact hle4, hm4⟩
    ⟨A9, c9, by rw [hn9], hs9, by rw [hn9]; exact hle9, hm9⟩ ⟨A16, c16, by rw [hn16], hs16, by rw [hn16]; exact hle16, hm16⟩
  -- 17: Op.buildSlice 39 4 #[(0, Operand.tmp 35), (1, Operand.tmp 39), (2, Operand.tmp 44), (3, Operand.tmp 51)]
  refine bopH 17 (o := _) (by simp only [List.getElem?_toArray, List.getElem?_cons_succ, List.getElem?_cons_zero]; rfl) (by kernel_rfl) (by first | assumption | exact KB.refl _) (by rfl) (fun K hK => ?_)
  go_simp
  have hkb : KB w3.drew.heap (W.alloc (.cells #[.slice A l.length c, .slice A4' n4 c4', .slice A9 n9 c9, .slice A16 n16 c16] 34)) := KB.of (hbW.alloc hbW.size _)
  refine hK.out _ _ hkb ?_; clear hK K
  try simp only [Act.put, List.setIfInBounds_toArray, List.set_cons_zero, List.set_cons_succ]
  refine btake 18 (oi := _) (v := ?_) (by simp only [List.getElem?_toArray, List.getElem?_cons_succ, List.getElem?_cons_zero]; rfl) (by kernel_rfl) (by exact fun _ _ _ h => h) (by first | assumption | exact KB.refl _) (.inl ⟨by rfl, fun W hW => ?_⟩) ?_; rotate_left
  · (go_simp; first | done | with_reducible rfl)
  try simp only [Act.put, List.setIfInBounds_toArray, List.set_cons_zero, List.set_cons_succ]
  refine bdone (by kernel_rfl) ?_
  have hb7 := hbW'.alloc hbW'.size (.cells #[.slice A l.length c, .slice A4' n4 c4', .slice A9 n9 c9, .slice A16 n16 c16] 34)
  have hl4 : ([l, T4, C, R] : List (List UInt8)).length = 4 := rfl
  generalize ([l, T4, C, R] : List (List UInt8)) = LL at *
  generalize W.alloc (.cells #[.slice A l.length c, .slice A4' n4 c4', .slice A9 n9 c9, .slice A16 n16 c16] 34) = w7 at *
  have HM := Lib.hid (And.intro hM hl4)
  have hbw7 := hbw3.trans (hb7.mono hbw3.size)
  have HF := Lib.hid (And.intro (hst3.below hb7) (And.intro ((hs3.below hb7).more hb7.size) ((ht3.below hb7).more hb7.size)))
  clear hM hl4 hl ht hl3 ht3 hs3 hst3 hs4 hs9 hs16 h4 h16 b4 b9 b16 hbW hbW' hKW hkb hb7 hbw3 hT4 hR hn4 hn9 hn16 e0 e1
  generalize W.heap.size = gM at *
  go_wp2_with fail
  go_loopw [54] (fun x54 wr => ∃ k : Nat, k ≤ 4 ∧ x54 = .int .i64 (k : Int) ∧ Below w7.heap.size w7 wr) (fun x54 _ => 4 - (intOf x54).toNat)
  case atStart => exact ⟨0, by omega, rfl, Below.refl _ _⟩
  case round =>
    obtain ⟨k, hk, rfl, hbel⟩ := hrel
    by_cases hlt : k < 4
    · obtain ⟨bm, om, A5, c5, e9, hbm, f0, hs5, hle5, hcm5⟩ := HM.out.1.at_ (k := k) (by rw [HM.out.2]; exact hlt)
      generalize LL[k]?.getD [] = V at *
      obtain ⟨nv, hnv⟩ : ∃ nv, V.length = nv := ⟨_, rfl⟩
      rw [hnv] at f0 hle5
      cases e9
      rw [Nat.zero_add] at f0
      replace f0 := (hbel.cell hbm).trans f0
      replace hs5 := (hs5.below hbel).more hbel.size
      have hT1 := DTake_any wr A5 nv c5 V hs5 hnv.symm hle5 hcm5
      have hT2 := fun W (hW : Below wr.heap.size wr W) => RDTake_any W A5 nv c5 V ((hs5.below hW).more hW.size) hnv.symm hle5 hcm5
      have hok := takeD_ok (b := V)
      unfold TakeDPost at hT1 hT2
      obtain ⟨⟨y, j, e⟩, hq'⟩ : ∃ q, takeD V = q := ⟨_, rfl⟩
      rw [hq'] at hT1 hT2 hok
      simp only at hT1 hT2 hok
      rw [hnv] at hok
      have hDB := fun W => DBytes_any W y
      have heq := fun W => ne2 W y y
      simp only [decide_true, Bool.not_true] at heq
      unfold D2.v at hT1 hT2 hDB heq
      have hd5 : decide ((k : Int) < 4) = true := by rw [decide_eq_true_eq]; omega
      have hk0 : (0 : Int) ≤ (k : Int) := by omega
      have hk3 : (k : Int) < 4 := by omega
      have H2 := Lib.hid hT2
      have HV := Lib.hid hnv
      clear hT2 hq' hnv
      go_wp2_with fail
      refine Calls.mono hT1 ?_
      rintro e1 w8 ⟨rfl, hb8⟩
      have hx8 := StandsD.new w8 23 y
      have hb8' := hb8.alloc hb8.size (.cells #[.int .i64 y.r, .int .i64 y.q] 23)
      go_wp2_with fail
      refine (H2.out _ hb8').mono ?_
      rintro e1 w9 ⟨rfl, hb9⟩
      have hx9 := (hx8.below hb9).alloc (.cells #[.int .i64 y.r, .int .i64 y.q] 23)
      have hy9 := StandsD.new w9 23 y
      have hb10 := (hb8'.trans (hb9.mono hb8'.size)).alloc (hb8'.trans (hb9.mono hb8'.size)).size (.cells #[.int .i64 y.r, .int .i64 y.q] 23)
      have g0 := hx9.2.1
      have g1 := hx9.2.2.1
      have g2 := hy9.2.1
      have g3 := hy9.2.2.1
      have hbz := hbel.trans (hb10.mono hbel.size)
      have hs10 := (hs5.below hb10).more hb10.size
      clear hT1 hb8 hb8' hx8 hb9 H2 hx9 hy9 hs5 hb10 f0 hbel
      go_wp2_with fail
      generalize w9.alloc (.cells #[.int .i64 y.r, .int .i64 y.q] 23) = w10 at *
      by_cases he : e = 0
      · obtain ⟨_, hby2, j1, j2⟩ := hok he
        subst he
        unfold Fresh at hDB
        rw [hby2] at hDB
        have hsT : Sl w10 w10.heap.size A5 (bv (V.take j)) := by rw [← bv_take]; exact hs10.tk _
        obtain ⟨T, hT⟩ : ∃ T, V.take j = T := ⟨_, rfl⟩
        have hTj : T.length = j := by rw [← hT, List.length_take, HV.out]; omega
        rw [hT] at hDB hsT
        rw [hTj] at hDB
        have HP2 := Lib.hid hDB
        have HT := Lib.hid hTj
        have hcvV := convB hsT j c5 hTj.symm
        have q1 : decide ((j : Int) < 2) = false := by rw [decide_eq_false_iff_not]; omega
        have q2 : decide ((nv : Int) < (j : Int)) = false := by rw [decide_eq_false_iff_not]; omega
        have q5 : decide (nv < j) = false := by rw [decide_eq_false_iff_not]; omega
        have q6 : decide (j < 2) = false := by rw [decide_eq_false_iff_not]; omega
        have q3 : (0 : Int) ≤ (j : Int) := by omega
        have q4 : (j : Int) ≤ (c5 : Int) := by omega
        have e0 := cellB g0
        have e1 := cellB g1
        clear hDB hby2 hT hTj hok hsT g2 g3
        go_wp2_with fail
        refine bstart (by kernel_rfl) ?_
        refine btake 0 (oi := _) (v := ?_) (by simp only [List.getElem?_toArray, List.getElem?_cons_zero]; rfl) (by kernel_rfl) (by exact fun _ _ _ h => h) (by first | assumption | exact KB.refl _) (.inl ⟨by rfl, fun W hW => ?_⟩) ?_; rotate_left
        · (go_simp; first | done | with_reducible rfl)
        try simp only [Act.put, List.setIfInBounds_toArray, List.set_cons_zero, List.set_cons_succ]
        refine btake 1 (oi := _) (v := ?_) (by simp only [List.getElem?_toArray, List.getElem?_cons_succ, List.getElem?_cons_zero]; rfl) (by kernel_rfl) (by exact fun _ _ _ h => h) (by first | assumption | exact KB.refl _) (.inl ⟨by rfl, fun W hW => ?_⟩) ?_; rotate_left
        · (go_simp; first | done | with_reducible rfl)
        try simp only [Act.put, List.setIfInBounds_toArray, List.set_cons_zero, List.set_cons_succ]
        refine btake 2 (oi := _) (v := ?_) (by simp only [List.getElem?_toArray, List.getElem?_cons_succ, List.getElem?_cons_zero]; rfl) (by kernel_rfl) (by exact fun _ _ _ h => h) (by first | assumption | exact KB.refl _) (.inl ⟨by rfl, fun W hW => ?_⟩) ?_; rotate_left
        · (go_simp; first | done | with_reducible rfl)
        try simp only [Act.put, List.setIfInBounds_toArray, List.set_cons_zero, List.set_cons_succ]
        refine btake 3 (oi := _) (v := ?_) (by simp only [List.getElem?_toArray, List.getElem?_cons_succ, List.getElem?_cons_zero]; rfl) (by kernel_rfl) (by exact fun _ _ _ h => h) (by first | assumption | exact KB.refl _) (.inl ⟨by rfl, fun W hW => ?_⟩) ?_; rotate_left
        · (go_simp; first | done | with_reducible rfl)
        try simp only [Act.put, List.setIfInBounds_toArray, List.set_cons_zero, List.set_cons_succ]
        refine btake 4 (oi := _) (v := ?_) (by simp only [List.getElem?_toArray, List.getElem?_cons_succ, List.getElem?_cons_zero]; rfl) (by kernel_rfl) (by exact fun _ _ _ h => h) (by first | assumption | exact KB.refl _) (.inl ⟨by rfl, fun W hW => ?_⟩) ?_; rotate_left
        · (go_simp; first | done | with_reducible rfl)
        try simp only [Act.put, List.setIfInBounds_toArray, List.set_cons_zero, List.set_cons_succ]
        refine btake 5 (oi := _) (v := ?_) (by simp only [List.getElem?_toArray, List.getElem?_cons_succ, List.getElem?_cons_zero]; rfl) (by kernel_rfl) (by exact fun _ _ _ h => h) (by first | assumption | exact KB.refl _) (.inl ⟨by rfl, fun W hW => ?_⟩) ?_; rotate_left
        · (go_simp; first | done | with_reducible rfl)
        try simp only [Act.put, List.setIfInBounds_toArray, List.set_cons_zero, List.set_cons_succ]
        refine btake 6 (oi := _) (v := ?_) (by simp only [List.getElem?_toArray, List.getElem?_cons_succ, List.getElem?_cons_zero]; rfl) (by kernel_rfl) (by exact fun _ _ _ h => h) (by first | assumption | exact KB.refl _) (.inl ⟨by rfl, fun W hW => ?_⟩) ?_; rotate_left
        · (go_simp; first | done | with_reducible rfl)
        try simp only [Act.put, List.setIfInBounds_toArray, List.set_cons_zero, List.set_cons_succ]
        refine btake 7 (oi := _) (v := ?_) (by simp only [List.getElem?_toArray, List.getElem?_cons_succ, List.getElem?_cons_zero]; rfl) (by kernel_rfl) (by exact fun _ _ _ h => h) (by first | assumption | exact KB.refl _) (.inl ⟨by rfl, fun W hW => ?_⟩) ?_; rotate_left
        · (go_simp; first | done | with_reducible rfl)
        try simp only [Act.put, List.setIfInBounds_toArray, List.set_cons_zero, List.set_cons_succ]
        refine btake 8 (oi := _) (v := ?_) (by simp only [List.getElem?_toArray, List.getElem?_cons_succ, List.getElem?_cons_zero]; rfl) (by kernel_rfl) (by exact fun _ _ _ h => h) (by first | assumption | exact KB.refl _) (.inl ⟨by rfl, fun W hW => ?_⟩) ?_; rotate_left
        · (go_simp; first | done | with_reducible rfl)
        try simp only [Act.put, List.setIfInBounds_toArray, List.set_cons_zero, List.set_cons_succ]
        refine btake 9 (oi := _) (v := ?_) (by simp only [List.getElem?_toArray, List.getElem?_cons_succ, List.getElem?_cons_zero]; rfl) (by kernel_rfl) (by exact fun _ _ _ h => h) (by first | assumption | exact KB.refl _) (.inl ⟨by rfl, fun W hW => ?_⟩) ?_; rotate_left
        · (go_simp; first | done | with_reducible rfl)
        try simp only [Act.put, List.setIfInBounds_toArray, List.set_cons_zero, List.set_cons_succ]
        refine btake 10 (oi := _) (v := ?_) (by simp only [List.getElem?_toArray, List.getElem?_cons_succ, List.getElem?_cons_zero]; rfl) (by kernel_rfl) (by exact fun _ _ _ h => h) (by first | assumption | exact KB.refl _) (.inl ⟨by rfl, fun W hW => ?_⟩) ?_; rotate_left
        · (go_simp; first | done | with_reducible rfl)
        try simp only [Act.put, List.setIfInBounds_toArray, List.set_cons_zero, List.set_cons_succ]
        refine btake 11 (oi := _) (v := ?_) (by simp only [List.getElem?_toArray, List.getElem?_cons_succ, List.getElem?_cons_zero]; rfl) (by kernel_rfl) (by exact fun _ _ _ h => h) (by first | assumption | exact KB.refl _) (.inl ⟨by rfl, fun W hW => ?_⟩) ?_; rotate_left
        · (go_simp; first | done | with_reducible rfl)
        try simp only [Act.put, List.setIfInBounds_toArray, List.set_cons_zero, List.set_cons_succ]
        refine btake 12 (oi := _) (v := ?_) (by simp only [List.getElem?_toArray, List.getElem?_cons_succ, List.getElem?_cons_zero]; rfl) (by kernel_rfl) (by exact fun _ _ _ h => h) (by first | assumption | exact KB.refl _) (.inl ⟨by rfl, fun W hW => ?_⟩) ?_; rotate_left
        · (go_simp; first | done | with_reducible rfl)
        try simp only [Act.put, List.setIfInBounds_toArray, List.set_cons_zero, List.set_cons_succ]
        refine btake 15 (oi := _) (v := ?_) (by simp only [List.getElem?_toArray, List.getElem?_cons_succ, List.getElem?_cons_zero]; rfl) (by kernel_rfl) (by exact fun _ _ _ h => h) (by first | assumption | exact KB.refl _) (.inl ⟨by rfl, fun W hW => ?_⟩) ?_; rotate_left
        · (go_simp; first | done | with_reducible rfl)
        try simp only [Act.put, List.setIfInBounds_toArray, List.set_cons_zero, List.set_cons_succ]
        refine btake 16 (oi := _) (v := ?_) (by simp only [List.getElem?_toArray, List.getElem?_cons_succ, List.getElem?_cons_zero]; rfl) (by kernel_rfl) (by exact fun _ _ _ h => h) (by first | assumption | exact KB.refl _) (.inl ⟨by rfl, fun W hW => ?_⟩) ?_; rotate_left
        · (go_simp; first | done | with_reducible rfl)
        try simp only [Act.put, List.setIfInBounds_toArray, List.set_cons_zero, List.set_cons_succ]
        refine btake 17 (oi := _) (v := ?_) (by simp only [List.getElem?_toArray, List.getElem?_cons_succ, List.getElem?_cons_zero]; rfl) (by kernel_rfl) (by exact fun _ _ _ h => h) (by first | assumption | exact KB.refl _) (.inl ⟨by rfl, fun W hW => ?_⟩) ?_; rotate_left
        · (go_simp; first | done | with_reducible rfl)
        try simp only [Act.put, List.setIfInBounds_toArray, List.set_cons_zero, List.set_cons_succ]
        refine btake 18 (oi := _) (v := ?_) (by simp only [List.getElem?_toArray, List.getElem?_cons_succ, List.getElem?_cons_zero]; rfl) (by kernel_rfl) (by exact fun _ _ _ h => h) (by first | assumption | exact KB.refl _) (.inl ⟨by rfl, fun W hW => ?_⟩) ?_; rotate_left
        · (go_simp; first | done | with_reducible rfl)
        try simp only [Act.put, List.setIfInBounds_toArray, List.set_cons_zero, List.set_cons_succ]
        -- 13: newsreel/dot.Bytes
        refine bop 13 (o := _) (by simp only [List.getElem?_toArray, List.getElem?_cons_succ, List.getElem?_cons_zero]; rfl) (by kernel_rfl) (by first | assumption | exact KB.refl _) (by rfl) (fun K hK => ?_)
        go_simp
        refine (HP2.out _).mono ?_
        rintro e1 w11 ⟨A19, c19, rfl, g9, hb12⟩
        have hkb := KB.of hb12
        have hcv2 := convB (OwnB.sl (l := T) (by rw [HT.out]; exact g9)).1 j c19 HT.out.symm
        refine hK.out _ _ hkb ?_; clear hK K
        try simp only [Act.put, List.setIfInBounds_toArray, List.set_cons_zero, List.set_cons_succ]
        refine btake 14 (oi := _) (v := ?_) (by simp only [List.getElem?_toArray, List.getElem?_cons_succ, List.getElem?_cons_zero]; rfl) (by kernel_rfl) (by exact fun _ _ _ h => h) (by first | assumption | exact KB.refl _) (.inl ⟨by rfl, fun W hW => ?_⟩) ?_; rotate_left
        · (go_simp; first | done | with_reducible rfl)
        try simp only [Act.put, List.setIfInBounds_toArray, List.set_cons_zero, List.set_cons_succ]
        refine btake 19 (oi := _) (v := ?_) (by simp only [List.getElem?_toArray, List.getElem?_cons_succ, List.getElem?_cons_zero]; rfl) (by kernel_rfl) (by exact fun _ _ _ h => h) (by first | assumption | exact KB.refl _) (.inl ⟨by rfl, fun W hW => ?_⟩) ?_; rotate_left
        · (go_simp; first | done | with_reducible rfl)
        try simp only [Act.put, List.setIfInBounds_toArray, List.set_cons_zero, List.set_cons_succ]
        refine btake 20 (oi := _) (v := ?_) (by simp only [List.getElem?_toArray, List.getElem?_cons_succ, List.getElem?_cons_zero]; rfl) (by kernel_rfl) (by exact fun _ _ _ h => h) (by first | assumption | exact KB.refl _) (.inl ⟨by rfl, fun W hW => ?_⟩) ?_; rotate_left
        · (go_simp; first | done | with_reducible rfl)
        try simp only [Act.put, List.setIfInBounds_toArray, List.set_cons_zero, List.set_cons_succ]
        refine btake 21 (oi := _) (v := ?_) (by simp only [List.getElem?_toArray, List.getElem?_cons_succ, List.getElem?_cons_zero]; rfl) (by kernel_rfl) (by exact fun _ _ _ h => h) (by first | assumption | exact KB.refl _) (.inl ⟨by rfl, fun W hW => ?_⟩) ?_; rotate_left
        · (go_simp; first | done | with_reducible rfl)
        try simp only [Act.put, List.setIfInBounds_toArray, List.set_cons_zero, List.set_cons_succ]
        refine bdone (by kernel_rfl) ?_
        have hbz2 := hbz.trans (((Below.refl _ w10).drew.trans hb12).mono hbz.size)
        clear hcvV hcv2 hkb g9 hb12 hs10 hbz e0 e1 g0 g1
        go_wp2_with fail
        go_roundw
        case rel => exact ⟨k + 1, by omega, by go_num, hbz2⟩
        case measure => simp [intOf]; omega
      · have he1 : ((e : Int) == 0) = false := by rw [beq_eq_false_iff_ne]; omega
        clear hok hs10 hDB g0 g1 g2 g3
        go_wp2_with fail
        refine bstart (by kernel_rfl) ?_
        refine btake 0 (oi := _) (v := ?_) (by simp only [List.getElem?_toArray, List.getElem?_cons_zero]; rfl) (by kernel_rfl) (by exact fun _ _ _ h => h) (by first | assumption | exact KB.refl _) (.inl ⟨by rfl, fun W hW => ?_⟩) ?_; rotate_left
        · (go_simp; first | done | with_reducible rfl)
        try simp only [Act.put, List.setIfInBounds_toArray, List.set_cons_zero, List.set_cons_succ]
        refine btake 1 (oi := _) (v := ?_) (by simp only [List.getElem?_toArray, List.getElem?_cons_succ, List.getElem?_cons_zero]; rfl) (by kernel_rfl) (by exact fun _ _ _ h => h) (by first | assumption | exact KB.refl _) (.inl ⟨by rfl, fun W hW => ?_⟩) ?_; rotate_left
        · (go_simp; first | done | with_reducible rfl)
        try simp only [Act.put, List.setIfInBounds_toArray, List.set_cons_zero, List.set_cons_succ]
        refine btake 2 (oi := _) (v := ?_) (by simp only [List.getElem?_toArray, List.getElem?_cons_succ, List.getElem?_cons_zero]; rfl) (by kernel_rfl) (by exact fun _ _ _ h => h) (by first | assumption | exact KB.refl _) (.inl ⟨by rfl, fun W hW => ?_⟩) ?_; rotate_left
        · (go_simp; first | done | with_reducible rfl)
        try simp only [Act.put, List.setIfInBounds_toArray, List.set_cons_zero, List.set_cons_succ]
        refine btake 3 (oi := _) (v := undef) (by simp only [List.getElem?_toArray, List.getElem?_cons_succ, List.getElem?_cons_zero]; rfl) (by kernel_rfl) (by exact fun _ _ _ h => h) (by first | assumption | exact KB.refl _) (.inr ⟨by rfl, rfl⟩) ?_
        try simp only [Act.put, List.setIfInBounds_toArray, List.set_cons_zero, List.set_cons_succ]
        refine btake 4 (oi := _) (v := undef) (by simp only [List.getElem?_toArray, List.getElem?_cons_succ, List.getElem?_cons_zero]; rfl) (by kernel_rfl) (by exact fun _ _ _ h => h) (by first | assumption | exact KB.refl _) (.inr ⟨by rfl, rfl⟩) ?_
        try simp only [Act.put, List.setIfInBounds_toArray, List.set_cons_zero, List.set_cons_succ]
        refine btake 5 (oi := _) (v := undef) (by simp only [List.getElem?_toArray, List.getElem?_cons_succ, List.getElem?_cons_zero]; rfl) (by kernel_rfl) (by exact fun _ _ _ h => h) (by first | assumption | exact KB.refl _) (.inr ⟨by rfl, rfl⟩) ?_
        try simp only [Act.put, List.setIfInBounds_toArray, List.set_cons_zero, List.set_cons_succ]
        refine btake 6 (oi := _) (v := undef) (by simp only [List.getElem?_toArray, List.getElem?_cons_succ, List.getElem?_cons_zero]; rfl) (by kernel_rfl) (by exact fun _ _ _ h => h) (by first | assumption | exact KB.refl _) (.inr ⟨by rfl, rfl⟩) ?_
        try simp only [Act.put, List.setIfInBounds_toArray, List.set_cons_zero, List.set_cons_succ]
        refine btake 7 (oi := _) (v := undef) (by simp only [List.getElem?_toArray, List.getElem?_cons_succ, List.getElem?_cons_zero]; rfl) (by kernel_rfl) (by exact fun _ _ _ h => h) (by first | assumption | exact KB.refl _) (.inr ⟨by rfl, rfl⟩) ?_
        try simp only [Act.put, List.setIfInBounds_toArray, List.set_cons_zero, List.set_cons_succ]
        refine btake 8 (oi := _) (v := undef) (by simp only [List.getElem?_toArray, List.getElem?_cons_succ, List.getElem?_cons_zero]; rfl) (by kernel_rfl) (by exact fun _ _ _ h => h) (by first | assumption | exact KB.refl _) (.inr ⟨by rfl, rfl⟩) ?_
        try simp only [Act.put, List.setIfInBounds_toArray, List.set_cons_zero, List.set_cons_succ]
        refine btake 9 (oi := _) (v := undef) (by simp only [List.getElem?_toArray, List.getElem?_cons_succ, List.getElem?_cons_zero]; rfl) (by kernel_rfl) (by exact fun _ _ _ h => h) (by first | assumption | exact KB.refl _) (.inr ⟨by rfl, rfl⟩) ?_
        try simp only [Act.put, List.setIfInBounds_toArray, List.set_cons_zero, List.set_cons_succ]
        refine btake 10 (oi := _) (v := undef) (by simp only [List.getElem?_toArray, List.getElem?_cons_succ, List.getElem?_cons_zero]; rfl) (by kernel_rfl) (by exact fun _ _ _ h => h) (by first | assumption | exact KB.refl _) (.inr ⟨by rfl, rfl⟩) ?_
        try simp only [Act.put, List.setIfInBounds_toArray, List.set_cons_zero, List.set_cons_succ]
        refine btake 11 (oi := _) (v := undef) (by simp only [List.getElem?_toArray, List.getElem?_cons_succ, List.getElem?_cons_zero]; rfl) (by kernel_rfl) (by exact fun _ _ _ h => h) (by first | assumption | exact KB.refl _) (.inr ⟨by rfl, rfl⟩) ?_
        try simp only [Act.put, List.setIfInBounds_toArray, List.set_cons_zero, List.set_cons_succ]
        refine btake 12 (oi := _) (v := undef) (by simp only [List.getElem?_toArray, List.getElem?_cons_succ, List.getElem?_cons_zero]; rfl) (by kernel_rfl) (by exact fun _ _ _ h => h) (by first | assumption | exact KB.refl _) (.inr ⟨by rfl, rfl⟩) ?_
        try simp only [Act.put, List.setIfInBounds_toArray, List.set_cons_zero, List.set_cons_succ]
        refine btake 13 (oi := _) (v := undef) (by simp only [List.getElem?_toArray, List.getElem?_cons_succ, List.getElem?_cons_zero]; rfl) (by kernel_rfl) (by exact fun _ _ _ h => h) (by first | assumption | exact KB.refl _) (.inr ⟨by rfl, rfl⟩) ?_
        try simp only [Act.put, List.setIfInBounds_toArray, List.set_cons_zero, List.set_cons_succ]
        refine btake 14 (oi := _) (v := undef) (by simp only [List.getElem?_toArray, List.getElem?_cons_succ, List.getElem?_cons_zero]; rfl) (by kernel_rfl) (by exact fun _ _ _ h => h) (by first | assumption | exact KB.refl _) (.inr ⟨by rfl, rfl⟩) ?_
        try simp only [Act.put, List.setIfInBounds_toArray, List.set_cons_zero, List.set_cons_succ]
        refine btake 15 (oi := _) (v := undef) (by simp only [List.getElem?_toArray, List.getElem?_cons_succ, List.getElem?_cons_zero]; rfl) (by kernel_rfl) (by exact fun _ _ _ h => h) (by first | assumption | exact KB.refl _) (.inr ⟨by rfl, rfl⟩) ?_
        try simp only [Act.put, List.setIfInBounds_toArray, List.set_cons_zero, List.set_cons_succ]
        refine btake 16 (oi := _) (v := undef) (by simp only [List.getElem?_toArray, List.getElem?_cons_succ, List.getElem?_cons_zero]; rfl) (by kernel_rfl) (by exact fun _ _ _ h => h) (by first | assumption | exact KB.refl _) (.inr ⟨by rfl, rfl⟩) ?_
        try simp only [Act.put, List.setIfInBounds_toArray, List.set_cons_zero, List.set_cons_succ]
        refine btake 17 (oi := _) (v := undef) (by simp only [List.getElem?_toArray, List.getElem?_cons_succ, List.getElem?_cons_zero]; rfl) (by kernel_rfl) (by exact fun _ _ _ h => h) (by first | assumption | exact KB.refl _) (.inr ⟨by rfl, rfl⟩) ?_
        try simp only [Act.put, List.setIfInBounds_toArray, List.set_cons_zero, List.set_cons_succ]
        refine btake 18 (oi := _) (v := undef) (by simp only [List.getElem?_toArray, List.getElem?_cons_succ, List.getElem?_cons_zero]; rfl) (by kernel_rfl) (by exact fun _ _ _ h => h) (by first | assumption | exact KB.refl _) (.inr ⟨by rfl, rfl⟩) ?_
        try simp only [Act.put, List.setIfInBounds_toArray, List.set_cons_zero, List.set_cons_succ]
        refine btake 19 (oi := _) (v := undef) (by simp only [List.getElem?_toArray, List.getElem?_cons_succ, List.getElem?_cons_zero]; rfl) (by kernel_rfl) (by exact fun _ _ _ h => h) (by first | assumption | exact KB.refl _) (.inr ⟨by rfl, rfl⟩) ?_
        try simp only [Act.put, List.setIfInBounds_toArray, List.set_cons_zero, List.set_cons_succ]
        refine btake 20 (oi := _) (v := undef) (by simp only [List.getElem?_toArray, List.getElem?_cons_succ, List.getElem?_cons_zero]; rfl) (by kernel_rfl) (by exact fun _ _ _ h => h) (by first | assumption | exact KB.refl _) (.inr ⟨by rfl, rfl⟩) ?_
        try simp only [Act.put, List.setIfInBounds_toArray, List.set_cons_zero, List.set_cons_succ]
        refine btake 21 (oi := _) (v := ?_) (by simp only [List.getElem?_toArray, List.getElem?_cons_succ, List.getElem?_cons_zero]; rfl) (by kernel_rfl) (by exact fun _ _ _ h => h) (by first | assumption | exact KB.refl _) (.inl ⟨by rfl, fun W hW => ?_⟩) ?_; rotate_left
        · (go_simp; first | done | with_reducible rfl)
        try simp only [Act.put, List.setIfInBounds_toArray, List.set_cons_zero, List.set_cons_succ]
        refine bdone (by kernel_rfl) ?_
        have hbz2 := hbz.drew
        clear hbz
        go_wp2_with fail
        go_roundw
        case rel => exact ⟨k + 1, by omega, by go_num, hbz2⟩
        case measure => simp [intOf]; omega
    · obtain rfl : k = 4 := by omega
      have hs8 := (HF.out.2.1.below hbel).more hbel.size
      have ht8 := (HF.out.2.2.below hbel).more hbel.size
      have hst8 := HF.out.1.below hbel
      have hbz := hbw7.trans (hbel.mono hbw7.size)
      clear hbel
      go_wp2_with (first
        | (at_builtin; refine app rfl rfl (OwnB.nil wr wr.heap.size) hs8 HP.out.1.symm rfl rfl (by have := HP.out.1; simp; omega) (Nat.le_refl _) ?_; intro s9 w9 hown9 hg9 hat9)
        | (at_builtin; refine app rfl rfl hown9 (ht8.below (below_of_grown hg9 (by simp [Value.ownBlock]) (Nat.le_refl _))) rfl rfl rfl (by have := HP.out.1; simp; omega) hg9.size ?_; intro s10 w10 hown10 hg10 hat10))
      have hb9 : Below wr.heap.size wr w9 := below_of_grown hg9 (by simp [Value.ownBlock]) (Nat.le_refl _)
      have hb10 : Below wr.heap.size wr w10 := own_below hb9 hb9.size hown9 hg10
      rw [List.nil_append] at hown10
      obtain ⟨A10, c10, e10, hle10, hcm10, hs10, _⟩ := OwnB.form hown10
      obtain ⟨n10, hn10⟩ : ∃ n10, (P ++ t).length = n10 := ⟨_, rfl⟩
      rw [hn10] at e10 hle10
      subst e10
      have hT := DTake_any w10 A10 n10 c10 (P ++ t) hs10 hn10.symm hle10 hcm10
      unfold TakeDPost at hT
      obtain ⟨⟨z, jz, ez⟩, hz⟩ : ∃ q, takeD (P ++ t) = q := ⟨_, rfl⟩
      have hzz : rr = true → z = d ∧ jz = nP ∧ ez = 0 := fun h => by
        have h2 := HP.out.2.1 h
        rw [hz] at h2
        injection h2 with h3 h4
        injection h4 with h4 h5
        exact ⟨h3, h4, h5⟩
      rw [hz] at hT
      unfold D2.v at hT
      have HZ := Lib.hid hzz
      have hst10 := hst8.below hb10
      have hbz10 := hbz.trans (hb10.mono hbz.size)
      clear hz hzz hs8 ht8 hst8 hbz hb9 hb10 hown9 hown10 hs10 hg9 hg10 hat9 hat10 hn10 hle10
      refine Calls.mono hT ?_
      rintro e1 w11 ⟨rfl, h11⟩
      have hst11 := (hst10.below h11).alloc (.cells #[.int .i64 z.r, .int .i64 z.q] 23)
      have hz11 := StandsD.new w11 23 z
      have hbz11 := hbz10.trans (h11.mono hbz10.size)
      have hbz12 := hbz11.alloc hbz11.size (.cells #[.int .i64 z.r, .int .i64 z.q] 23)
      have m0 := hst11.2.1
      have m1 := hst11.2.2.1
      clear hT hst10 hbz10 h11 hbz11
      go_wp2_with fail
      generalize w11.alloc (.cells #[.int .i64 z.r, .int .i64 z.q] 23) = w12 at *
      refine (HB.out.2.2 _).mono ?_
      rintro e1 w13 ⟨rfl, h13⟩
      have hbz13 := hbz12.trans (h13.mono hbz12.size)
      cases rr with
      | false =>
        clear m0 m1
        go_wp2_with fail
        go_ret
        exact ⟨rfl, hbz13⟩
      | true =>
        obtain ⟨rfl, rfl, rfl⟩ := HZ.out rfl
        have hst13 := hst11.below h13
        have hz13 := hz11.below h13
        have g0 := hst13.2.1
        have g1 := hst13.2.2.1
        have g2 := hz13.2.1
        have g3 := hz13.2.2.1
        have heq := fun W => eq2 W z z
        simp only [decide_true] at heq
        unfold D2.v at heq
        clear m0 m1 hst11 hz11 hst13 hz13 h13 hbz12
        go_wp2_with fail
        go_ret
        exact ⟨rfl, hbz13⟩
end Go.Proofs.Ytpeecgphmcihaaa

