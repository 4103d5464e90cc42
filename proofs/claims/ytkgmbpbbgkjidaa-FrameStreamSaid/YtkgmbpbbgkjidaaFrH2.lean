/- Frames: the document's head, its first bytes being right. -/
import Derived.Test.YtkgmbpbbgkjidaaFrH
namespace Go.Proofs.Ytkgmbpbbgkjidaa
open Go.RowKit Go.Proofs.Ytkgmbpbbgkjidaa.Pl Go.Proofs.Ytkgmbpbbgkjidaa.Pc

theorem RTake_tup (w : World) (B : Nat) (A : Option Addr) (n c : Nat) (l : List UInt8) (v k e0 : Nat) (hb : Sl w B A (bv l)) (h0 : n = l.length) (hc : n ≤ c) (hn : c ≤ maxLen) (h : takeS l = (v, k, e0)) :
    Calls Try.prog 63 #[.slice A n c] w fun e w' => e = .returned (.tuple #[.int .u64 (v : Int), .int .i64 (k : Int), .int .i64 (e0 : Int)]) ∧ w = w' := by
  subst h0
  have := RefTake_any w B A c l hb hc hn
  rw [h] at this
  exact this
set_option maxRecDepth 100000 in
set_option maxHeartbeats 6400000 in
theorem Rhead_short (w : World) (A : Option Addr) (n c : Nat) (b : List UInt8) (limit : Int) (hb : Sl w w.heap.size A (bv b)) (h0 : n = b.length) (hc : n ≤ c) (_hm : c ≤ maxLen) (he : b.take 2 = ([78, 82] : List UInt8).take b.length) (h9 : b.length < 9) :
    Calls Try.prog 59 #[.slice A n c, .int .i64 limit] w (HeadPost w zeroF 0 0 20) := by
  subst h0
  have hA := At.new w 47 #[.int .i64 0, .int .u32 0, .int .i64 0, .int .i64 0, .slice none 0 0]
  have b0 := balloc (Below.refl w.heap.size w) (.cells #[.int .i64 0, .int .u32 0, .int .i64 0, .int .i64 0, .slice none 0 0] 47)
  have hs := (hb.below b0).more b0.size
  obtain ⟨h78, h82⟩ := take2 he
  clear he
  go_enter Try.func59, Try.ntmps59
  go_wp2_with fail
  generalize w.alloc (.cells #[.int .i64 0, .int .u32 0, .int .i64 0, .int .i64 0, .slice none 0 0] 47) = w1 at *
  have H78 := Lib.hid (And.intro h78 h82)
  clear h78 h82
  go_loopw [8] (fun x8 wr => (x8 = .int .i64 0 ∨ (x8 = .int .i64 1 ∧ 0 < b.length) ∨ (x8 = .int .i64 2 ∧ 1 < b.length)) ∧ Below w1.heap.size w1 wr) (fun x8 _ => 2 - (intOf x8).toNat)
  case atStart => exact ⟨.inl rfl, Below.refl _ _⟩
  case round =>
    obtain ⟨hx, hbel⟩ := hrel
    have hA1 := hA.below hbel
    have b1 := b0.trans (hbel.mono b0.size)
    have hs1 := (hs.below hbel).more hbel.size
    rcases hx with rfl | ⟨rfl, hl0⟩ | ⟨rfl, hl1⟩
    · by_cases hl : 0 < b.length
      · skip
        obtain ⟨bk, o, rfl, _, hbW, hcell⟩ := hs1.at_ (k := 0) (by simpa using hl)
        have d0 := cellB (hcell 0 _ (bv_get b 0 hl))
        try simp only [Nat.add_zero] at d0
        have k0 : (b[0]?.getD 0).toNat = at_ b 0 := rfl
        rw [k0, H78.out.1 hl] at d0
        have hil : (0 : Int) < (b.length : Int) := by omega
        clear hcell k0
        go_wp2_with fail
        refine bstart (by kernel_rfl) ?_
        refine btake 0 (oi := _) (v := ?_) (by simp only [List.getElem?_toArray, List.getElem?_cons_zero]; rfl) (by kernel_rfl) (by exact fun _ _ _ h => h) (by first | assumption | exact KB.refl _) (.inl ⟨by rfl, fun W hW => ?_⟩) ?_; rotate_left
        · (go_simp; first | done | with_reducible rfl)
        try simp only [Act.put, List.setIfInBounds_toArray, List.set_cons_zero, List.set_cons_succ]
        refine btake 1 (oi := _) (v := ?_) (by simp only [List.getElem?_toArray, List.getElem?_cons_succ, List.getElem?_cons_zero]; rfl) (by kernel_rfl) (by exact fun _ _ _ h => h) (by first | assumption | exact KB.refl _) (.inl ⟨by rfl, fun W hW => ?_⟩) ?_; rotate_left
        · (go_simp; first | done | with_reducible rfl)
        try simp only [Act.put, List.setIfInBounds_toArray, List.set_cons_zero, List.set_cons_succ]
        refine btake 2 (oi := _) (v := ?_) (by simp only [List.getElem?_toArray, List.getElem?_cons_succ, List.getElem?_cons_zero]; rfl) (by kernel_rfl) (by exact fun _ _ _ h => h) (by first | assumption | exact KB.refl _) (.inl ⟨by rfl, fun W hW => ?_⟩) ?_; rotate_left
        · (go_simp; first | done | with_reducible rfl)
        try simp only [Act.put, List.setIfInBounds_toArray, List.set_cons_zero, List.set_cons_succ]
        refine btake 3 (oi := _) (v := ?_) (by simp only [List.getElem?_toArray, List.getElem?_cons_succ, List.getElem?_cons_zero]; rfl) (by kernel_rfl) (by exact fun _ _ _ h => h) (by first | assumption | exact KB.refl _) (.inl ⟨by rfl, fun W hW => ?_⟩) ?_; rotate_left
        · (go_simp; first | done | with_reducible rfl)
        try simp only [Act.put, List.setIfInBounds_toArray, List.set_cons_zero, List.set_cons_succ]
        refine btake 4 (oi := _) (v := ?_) (by simp only [List.getElem?_toArray, List.getElem?_cons_succ, List.getElem?_cons_zero]; rfl) (by kernel_rfl) (by exact fun _ _ _ h => h) (by first | assumption | exact KB.refl _) (.inl ⟨by rfl, fun W hW => ?_⟩) ?_; rotate_left
        · (go_simp; first | done | with_reducible rfl)
        try simp only [Act.put, List.setIfInBounds_toArray, List.set_cons_zero, List.set_cons_succ]
        refine btake 5 (oi := _) (v := ?_) (by simp only [List.getElem?_toArray, List.getElem?_cons_succ, List.getElem?_cons_zero]; rfl) (by kernel_rfl) (by exact fun _ _ _ h => h) (by first | assumption | exact KB.refl _) (.inl ⟨by rfl, fun W hW => ?_⟩) ?_; rotate_left
        · go_simp
          show _ = Value.int .u8 78
          rfl
        try simp only [Act.put, List.setIfInBounds_toArray, List.set_cons_zero, List.set_cons_succ]
        refine btake 6 (oi := _) (v := ?_) (by simp only [List.getElem?_toArray, List.getElem?_cons_succ, List.getElem?_cons_zero]; rfl) (by kernel_rfl) (by exact fun _ _ _ h => h) (by first | assumption | exact KB.refl _) (.inl ⟨by rfl, fun W hW => ?_⟩) ?_; rotate_left
        · (go_simp; first | done | with_reducible rfl)
        try simp only [Act.put, List.setIfInBounds_toArray, List.set_cons_zero, List.set_cons_succ]
        refine bdone (by kernel_rfl) ?_
        go_wp2_with fail
        go_roundw
        case rel => exact ⟨.inr (.inl ⟨rfl, hl⟩), hbel.drew⟩
        case measure => simp [intOf]
      · skip
        have h9i : (b.length : Int) < 9 := by omega
        have hAz := hA1
        have bz := b1
        have a0 := hAz.c 0 rfl
        have a1 := hAz.c 1 rfl
        have a2 := hAz.c 2 rfl
        have a3 := hAz.c 3 rfl
        have a4 := hAz.c 4 rfl
        have f0 := hAz.f 0 rfl
        have f1 := hAz.f 1 rfl
        have f2 := hAz.f 2 rfl
        have f3 := hAz.f 3 rfl
        have f4 := hAz.f 4 rfl
        have hP9 := hAz.putL [.int .i64 0, .int .u32 0, .int .i64 0, .int .i64 0, .slice none 0 0] rfl
        have bP := below_putL [.int .i64 0, .int .u32 0, .int .i64 0, .int .i64 0, .slice none 0 0] 0 bz (g := w.heap.size) (Nat.le_refl _)
        simp only [putL, Nat.zero_add, Nat.reduceAdd] at hP9 bP
        go_wp2_with fail
        have z0 := hP9.c 0 rfl
        have z1 := hP9.c 1 rfl
        have z2 := hP9.c 2 rfl
        have z3 := hP9.c 3 rfl
        have z4 := hP9.c 4 rfl
        exact bodyPost_ret (v := .tuple #[.agg #[.int .i64 0, .int .u32 0, .int .i64 0, .int .i64 0, .slice none 0 0], .int .i64 0, .int .i64 0, .int .i64 20]) (by simp [results, Try.results59, go_sem, z0, z1, z2, z3, z4]) rfl ⟨rfl, bP⟩
    · by_cases hl : 1 < b.length
      · skip
        obtain ⟨bk, o, rfl, _, hbW, hcell⟩ := hs1.at_ (k := 1) (by simpa using hl)
        have d0 := cellB (hcell 1 _ (bv_get b 1 hl))
        try simp only [Nat.add_zero] at d0
        have k0 : (b[1]?.getD 0).toNat = at_ b 1 := rfl
        rw [k0, H78.out.2 hl] at d0
        have hil : (1 : Int) < (b.length : Int) := by omega
        clear hcell k0
        go_wp2_with fail
        refine bstart (by kernel_rfl) ?_
        refine btake 0 (oi := _) (v := ?_) (by simp only [List.getElem?_toArray, List.getElem?_cons_zero]; rfl) (by kernel_rfl) (by exact fun _ _ _ h => h) (by first | assumption | exact KB.refl _) (.inl ⟨by rfl, fun W hW => ?_⟩) ?_; rotate_left
        · (go_simp; first | done | with_reducible rfl)
        try simp only [Act.put, List.setIfInBounds_toArray, List.set_cons_zero, List.set_cons_succ]
        refine btake 1 (oi := _) (v := ?_) (by simp only [List.getElem?_toArray, List.getElem?_cons_succ, List.getElem?_cons_zero]; rfl) (by kernel_rfl) (by exact fun _ _ _ h => h) (by first | assumption | exact KB.refl _) (.inl ⟨by rfl, fun W hW => ?_⟩) ?_; rotate_left
        · (go_simp; first | done | with_reducible rfl)
        try simp only [Act.put, List.setIfInBounds_toArray, List.set_cons_zero, List.set_cons_succ]
        refine btake 2 (oi := _) (v := ?_) (by simp only [List.getElem?_toArray, List.getElem?_cons_succ, List.getElem?_cons_zero]; rfl) (by kernel_rfl) (by exact fun _ _ _ h => h) (by first | assumption | exact KB.refl _) (.inl ⟨by rfl, fun W hW => ?_⟩) ?_; rotate_left
        · (go_simp; first | done | with_reducible rfl)
        try simp only [Act.put, List.setIfInBounds_toArray, List.set_cons_zero, List.set_cons_succ]
        refine btake 3 (oi := _) (v := ?_) (by simp only [List.getElem?_toArray, List.getElem?_cons_succ, List.getElem?_cons_zero]; rfl) (by kernel_rfl) (by exact fun _ _ _ h => h) (by first | assumption | exact KB.refl _) (.inl ⟨by rfl, fun W hW => ?_⟩) ?_; rotate_left
        · (go_simp; first | done | with_reducible rfl)
        try simp only [Act.put, List.setIfInBounds_toArray, List.set_cons_zero, List.set_cons_succ]
        refine btake 4 (oi := _) (v := ?_) (by simp only [List.getElem?_toArray, List.getElem?_cons_succ, List.getElem?_cons_zero]; rfl) (by kernel_rfl) (by exact fun _ _ _ h => h) (by first | assumption | exact KB.refl _) (.inl ⟨by rfl, fun W hW => ?_⟩) ?_; rotate_left
        · (go_simp; first | done | with_reducible rfl)
        try simp only [Act.put, List.setIfInBounds_toArray, List.set_cons_zero, List.set_cons_succ]
        refine btake 5 (oi := _) (v := ?_) (by simp only [List.getElem?_toArray, List.getElem?_cons_succ, List.getElem?_cons_zero]; rfl) (by kernel_rfl) (by exact fun _ _ _ h => h) (by first | assumption | exact KB.refl _) (.inl ⟨by rfl, fun W hW => ?_⟩) ?_; rotate_left
        · go_simp
          show _ = Value.int .u8 82
          rfl
        try simp only [Act.put, List.setIfInBounds_toArray, List.set_cons_zero, List.set_cons_succ]
        refine btake 6 (oi := _) (v := ?_) (by simp only [List.getElem?_toArray, List.getElem?_cons_succ, List.getElem?_cons_zero]; rfl) (by kernel_rfl) (by exact fun _ _ _ h => h) (by first | assumption | exact KB.refl _) (.inl ⟨by rfl, fun W hW => ?_⟩) ?_; rotate_left
        · (go_simp; first | done | with_reducible rfl)
        try simp only [Act.put, List.setIfInBounds_toArray, List.set_cons_zero, List.set_cons_succ]
        refine bdone (by kernel_rfl) ?_
        go_wp2_with fail
        go_roundw
        case rel => exact ⟨.inr (.inr ⟨rfl, hl⟩), hbel.drew⟩
        case measure => simp [intOf]
      · skip
        have h9i : (b.length : Int) < 9 := by omega
        have hAz := hA1
        have bz := b1
        have a0 := hAz.c 0 rfl
        have a1 := hAz.c 1 rfl
        have a2 := hAz.c 2 rfl
        have a3 := hAz.c 3 rfl
        have a4 := hAz.c 4 rfl
        have f0 := hAz.f 0 rfl
        have f1 := hAz.f 1 rfl
        have f2 := hAz.f 2 rfl
        have f3 := hAz.f 3 rfl
        have f4 := hAz.f 4 rfl
        have hP9 := hAz.putL [.int .i64 0, .int .u32 0, .int .i64 0, .int .i64 0, .slice none 0 0] rfl
        have bP := below_putL [.int .i64 0, .int .u32 0, .int .i64 0, .int .i64 0, .slice none 0 0] 0 bz (g := w.heap.size) (Nat.le_refl _)
        simp only [putL, Nat.zero_add, Nat.reduceAdd] at hP9 bP
        go_wp2_with fail
        have z0 := hP9.c 0 rfl
        have z1 := hP9.c 1 rfl
        have z2 := hP9.c 2 rfl
        have z3 := hP9.c 3 rfl
        have z4 := hP9.c 4 rfl
        exact bodyPost_ret (v := .tuple #[.agg #[.int .i64 0, .int .u32 0, .int .i64 0, .int .i64 0, .slice none 0 0], .int .i64 0, .int .i64 0, .int .i64 20]) (by simp [results, Try.results59, go_sem, z0, z1, z2, z3, z4]) rfl ⟨rfl, bP⟩
    · skip
      have h9i : (b.length : Int) < 9 := by omega
      have hAz := hA1
      have bz := b1
      have a0 := hAz.c 0 rfl
      have a1 := hAz.c 1 rfl
      have a2 := hAz.c 2 rfl
      have a3 := hAz.c 3 rfl
      have a4 := hAz.c 4 rfl
      have f0 := hAz.f 0 rfl
      have f1 := hAz.f 1 rfl
      have f2 := hAz.f 2 rfl
      have f3 := hAz.f 3 rfl
      have f4 := hAz.f 4 rfl
      have hP9 := hAz.putL [.int .i64 0, .int .u32 0, .int .i64 0, .int .i64 0, .slice none 0 0] rfl
      have bP := below_putL [.int .i64 0, .int .u32 0, .int .i64 0, .int .i64 0, .slice none 0 0] 0 bz (g := w.heap.size) (Nat.le_refl _)
      simp only [putL, Nat.zero_add, Nat.reduceAdd] at hP9 bP
      go_wp2_with fail
      have z0 := hP9.c 0 rfl
      have z1 := hP9.c 1 rfl
      have z2 := hP9.c 2 rfl
      have z3 := hP9.c 3 rfl
      have z4 := hP9.c 4 rfl
      exact bodyPost_ret (v := .tuple #[.agg #[.int .i64 0, .int .u32 0, .int .i64 0, .int .i64 0, .slice none 0 0], .int .i64 0, .int .i64 0, .int .i64 20]) (by simp [results, Try.results59, go_sem, z0, z1, z2, z3, z4]) rfl ⟨rfl, bP⟩
set_option maxRecDepth 100000 in
set_option maxHeartbeats 6400000 in
theorem Rhead_form (w : World) (A : Option Addr) (n c : Nat) (b : List UInt8) (limit : Int) (hb : Sl w w.heap.size A (bv b)) (h0 : n = b.length) (hc : n ≤ c) (hm : c ≤ maxLen) (he : b.take 2 = ([78, 82] : List UInt8).take b.length) (h9 : 9 ≤ b.length) (hr : rightB b = false) :
    Calls Try.prog 59 #[.slice A n c, .int .i64 limit] w (HeadPost w zeroF 0 0 21) := by
  subst h0
  have hA := At.new w 47 #[.int .i64 0, .int .u32 0, .int .i64 0, .int .i64 0, .slice none 0 0]
  have b0 := balloc (Below.refl w.heap.size w) (.cells #[.int .i64 0, .int .u32 0, .int .i64 0, .int .i64 0, .slice none 0 0] 47)
  have hs := (hb.below b0).more b0.size
  obtain ⟨h78, h82⟩ := take2 he
  clear he
  have hcl : b.length ≤ c := hc
  have x2l : at_ b 2 < 256 := UInt8.toNat_lt _
  have x7l : at_ b 7 < 256 := UInt8.toNat_lt _
  have x8l : at_ b 8 < 256 := UInt8.toNat_lt _
  have hG : big ((b.drop 3).take 4) = bigF 0 ((b.drop 3).take 4) := by unfold big; rw [List.take_of_length_le (by simp; omega)]
  have hGl : bigF 0 ((b.drop 3).take 4) < 4294967296 := by
    have := bigF_lt ((b.drop 3).take 4) 0
    have hl : ((b.drop 3).take 4).length = 4 := by simp; omega
    rw [hl] at this
    omega
  obtain ⟨y2, hy2⟩ : ∃ y2, at_ b 2 = y2 := ⟨_, rfl⟩
  obtain ⟨y7, hy7⟩ : ∃ y7, at_ b 7 = y7 := ⟨_, rfl⟩
  obtain ⟨y8, hy8⟩ : ∃ y8, at_ b 8 = y8 := ⟨_, rfl⟩
  obtain ⟨gg, hgg⟩ : ∃ gg, bigF 0 ((b.drop 3).take 4) = gg := ⟨_, rfl⟩
  have hfr : hdF b = ⟨(y2 : Int), gg, (y7 : Int), (y8 : Int), []⟩ := by unfold hdF; rw [hy2, hy7, hy8, hgg]
  have hkn : Fr.right ⟨(y2 : Int), gg, (y7 : Int), (y8 : Int), []⟩ = rightB b := by unfold rightB Fr.right; rw [hy2, hy7, hy8]
  have HK := Lib.hid (fun W => Rknown_any W ⟨(y2 : Int), gg, (y7 : Int), (y8 : Int), []⟩ none 0)
  rw [hkn, hr] at HK
  rw [hgg] at hG hGl
  rw [hy2] at x2l
  rw [hy7] at x7l
  rw [hy8] at x8l
  have YY := Lib.hid (And.intro hy2 (And.intro hy7 hy8))
  have HG := Lib.hid hG
  clear hG hgg hkn hy2 hy7 hy8 hb
  have ww0 : IntKind.u32.wrap (gg : Int) = (gg : Int) := by rw [IntKind.wrap_u32]; omega
  have ww2 : IntKind.i64.wrap (y2 : Int) = (y2 : Int) := by rw [IntKind.wrap_i64]; omega
  have ww7 : IntKind.i64.wrap (y7 : Int) = (y7 : Int) := by rw [IntKind.wrap_i64]; omega
  have ww8 : IntKind.i64.wrap (y8 : Int) = (y8 : Int) := by rw [IntKind.wrap_i64]; omega
  go_enter Try.func59, Try.ntmps59
  go_wp2_with fail
  generalize w.alloc (.cells #[.int .i64 0, .int .u32 0, .int .i64 0, .int .i64 0, .slice none 0 0] 47) = w1 at *
  have H78 := Lib.hid (And.intro h78 h82)
  clear h78 h82
  go_loopw [8] (fun x8 wr => (x8 = .int .i64 0 ∨ (x8 = .int .i64 1 ∧ 0 < b.length) ∨ (x8 = .int .i64 2 ∧ 1 < b.length)) ∧ Below w1.heap.size w1 wr) (fun x8 _ => 2 - (intOf x8).toNat)
  case atStart => exact ⟨.inl rfl, Below.refl _ _⟩
  case round =>
    obtain ⟨hx, hbel⟩ := hrel
    have hA1 := hA.below hbel
    have b1 := b0.trans (hbel.mono b0.size)
    have hs1 := (hs.below hbel).more hbel.size
    rcases hx with rfl | ⟨rfl, hl0⟩ | ⟨rfl, hl1⟩
    · have hl : 0 < b.length := by omega
      obtain ⟨bk, o, rfl, _, hbW, hcell⟩ := hs1.at_ (k := 0) (by simpa using hl)
      have d0 := cellB (hcell 0 _ (bv_get b 0 hl))
      try simp only [Nat.add_zero] at d0
      have k0 : (b[0]?.getD 0).toNat = at_ b 0 := rfl
      rw [k0, H78.out.1 hl] at d0
      have hil : (0 : Int) < (b.length : Int) := by omega
      clear hcell k0
      go_wp2_with fail
      refine bstart (by kernel_rfl) ?_
      refine btake 0 (oi := _) (v := ?_) (by simp only [List.getElem?_toArray, List.getElem?_cons_zero]; rfl) (by kernel_rfl) (by exact fun _ _ _ h => h) (by first | assumption | exact KB.refl _) (.inl ⟨by rfl, fun W hW => ?_⟩) ?_; rotate_left
      · (go_simp; first | done | with_reducible rfl)
      try simp only [Act.put, List.setIfInBounds_toArray, List.set_cons_zero, List.set_cons_succ]
      refine btake 1 (oi := _) (v := ?_) (by simp only [List.getElem?_toArray, List.getElem?_cons_succ, List.getElem?_cons_zero]; rfl) (by kernel_rfl) (by exact fun _ _ _ h => h) (by first | assumption | exact KB.refl _) (.inl ⟨by rfl, fun W hW => ?_⟩) ?_; rotate_left
      · (go_simp; first | done | with_reducible rfl)
      try simp only [Act.put, List.setIfInBounds_toArray, List.set_cons_zero, List.set_cons_succ]
      refine btake 2 (oi := _) (v := ?_) (by simp only [List.getElem?_toArray, List.getElem?_cons_succ, List.getElem?_cons_zero]; rfl) (by kernel_rfl) (by exact fun _ _ _ h => h) (by first | assumption | exact KB.refl _) (.inl ⟨by rfl, fun W hW => ?_⟩) ?_; rotate_left
      · (go_simp; first | done | with_reducible rfl)
      try simp only [Act.put, List.setIfInBounds_toArray, List.set_cons_zero, List.set_cons_succ]
      refine btake 3 (oi := _) (v := ?_) (by simp only [List.getElem?_toArray, List.getElem?_cons_succ, List.getElem?_cons_zero]; rfl) (by kernel_rfl) (by exact fun _ _ _ h => h) (by first | assumption | exact KB.refl _) (.inl ⟨by rfl, fun W hW => ?_⟩) ?_; rotate_left
      · (go_simp; first | done | with_reducible rfl)
      try simp only [Act.put, List.setIfInBounds_toArray, List.set_cons_zero, List.set_cons_succ]
      refine btake 4 (oi := _) (v := ?_) (by simp only [List.getElem?_toArray, List.getElem?_cons_succ, List.getElem?_cons_zero]; rfl) (by kernel_rfl) (by exact fun _ _ _ h => h) (by first | assumption | exact KB.refl _) (.inl ⟨by rfl, fun W hW => ?_⟩) ?_; rotate_left
      · (go_simp; first | done | with_reducible rfl)
      try simp only [Act.put, List.setIfInBounds_toArray, List.set_cons_zero, List.set_cons_succ]
      refine btake 5 (oi := _) (v := ?_) (by simp only [List.getElem?_toArray, List.getElem?_cons_succ, List.getElem?_cons_zero]; rfl) (by kernel_rfl) (by exact fun _ _ _ h => h) (by first | assumption | exact KB.refl _) (.inl ⟨by rfl, fun W hW => ?_⟩) ?_; rotate_left
      · go_simp
        show _ = Value.int .u8 78
        rfl
      try simp only [Act.put, List.setIfInBounds_toArray, List.set_cons_zero, List.set_cons_succ]
      refine btake 6 (oi := _) (v := ?_) (by simp only [List.getElem?_toArray, List.getElem?_cons_succ, List.getElem?_cons_zero]; rfl) (by kernel_rfl) (by exact fun _ _ _ h => h) (by first | assumption | exact KB.refl _) (.inl ⟨by rfl, fun W hW => ?_⟩) ?_; rotate_left
      · (go_simp; first | done | with_reducible rfl)
      try simp only [Act.put, List.setIfInBounds_toArray, List.set_cons_zero, List.set_cons_succ]
      refine bdone (by kernel_rfl) ?_
      go_wp2_with fail
      go_roundw
      case rel => exact ⟨.inr (.inl ⟨rfl, hl⟩), hbel.drew⟩
      case measure => simp [intOf]
    · have hl : 1 < b.length := by omega
      obtain ⟨bk, o, rfl, _, hbW, hcell⟩ := hs1.at_ (k := 1) (by simpa using hl)
      have d0 := cellB (hcell 1 _ (bv_get b 1 hl))
      try simp only [Nat.add_zero] at d0
      have k0 : (b[1]?.getD 0).toNat = at_ b 1 := rfl
      rw [k0, H78.out.2 hl] at d0
      have hil : (1 : Int) < (b.length : Int) := by omega
      clear hcell k0
      go_wp2_with fail
      refine bstart (by kernel_rfl) ?_
      refine btake 0 (oi := _) (v := ?_) (by simp only [List.getElem?_toArray, List.getElem?_cons_zero]; rfl) (by kernel_rfl) (by exact fun _ _ _ h => h) (by first | assumption | exact KB.refl _) (.inl ⟨by rfl, fun W hW => ?_⟩) ?_; rotate_left
      · (go_simp; first | done | with_reducible rfl)
      try simp only [Act.put, List.setIfInBounds_toArray, List.set_cons_zero, List.set_cons_succ]
      refine btake 1 (oi := _) (v := ?_) (by simp only [List.getElem?_toArray, List.getElem?_cons_succ, List.getElem?_cons_zero]; rfl) (by kernel_rfl) (by exact fun _ _ _ h => h) (by first | assumption | exact KB.refl _) (.inl ⟨by rfl, fun W hW => ?_⟩) ?_; rotate_left
      · (go_simp; first | done | with_reducible rfl)
      try simp only [Act.put, List.setIfInBounds_toArray, List.set_cons_zero, List.set_cons_succ]
      refine btake 2 (oi := _) (v := ?_) (by simp only [List.getElem?_toArray, List.getElem?_cons_succ, List.getElem?_cons_zero]; rfl) (by kernel_rfl) (by exact fun _ _ _ h => h) (by first | assumption | exact KB.refl _) (.inl ⟨by rfl, fun W hW => ?_⟩) ?_; rotate_left
      · (go_simp; first | done | with_reducible rfl)
      try simp only [Act.put, List.setIfInBounds_toArray, List.set_cons_zero, List.set_cons_succ]
      refine btake 3 (oi := _) (v := ?_) (by simp only [List.getElem?_toArray, List.getElem?_cons_succ, List.getElem?_cons_zero]; rfl) (by kernel_rfl) (by exact fun _ _ _ h => h) (by first | assumption | exact KB.refl _) (.inl ⟨by rfl, fun W hW => ?_⟩) ?_; rotate_left
      · (go_simp; first | done | with_reducible rfl)
      try simp only [Act.put, List.setIfInBounds_toArray, List.set_cons_zero, List.set_cons_succ]
      refine btake 4 (oi := _) (v := ?_) (by simp only [List.getElem?_toArray, List.getElem?_cons_succ, List.getElem?_cons_zero]; rfl) (by kernel_rfl) (by exact fun _ _ _ h => h) (by first | assumption | exact KB.refl _) (.inl ⟨by rfl, fun W hW => ?_⟩) ?_; rotate_left
      · (go_simp; first | done | with_reducible rfl)
      try simp only [Act.put, List.setIfInBounds_toArray, List.set_cons_zero, List.set_cons_succ]
      refine btake 5 (oi := _) (v := ?_) (by simp only [List.getElem?_toArray, List.getElem?_cons_succ, List.getElem?_cons_zero]; rfl) (by kernel_rfl) (by exact fun _ _ _ h => h) (by first | assumption | exact KB.refl _) (.inl ⟨by rfl, fun W hW => ?_⟩) ?_; rotate_left
      · go_simp
        show _ = Value.int .u8 82
        rfl
      try simp only [Act.put, List.setIfInBounds_toArray, List.set_cons_zero, List.set_cons_succ]
      refine btake 6 (oi := _) (v := ?_) (by simp only [List.getElem?_toArray, List.getElem?_cons_succ, List.getElem?_cons_zero]; rfl) (by kernel_rfl) (by exact fun _ _ _ h => h) (by first | assumption | exact KB.refl _) (.inl ⟨by rfl, fun W hW => ?_⟩) ?_; rotate_left
      · (go_simp; first | done | with_reducible rfl)
      try simp only [Act.put, List.setIfInBounds_toArray, List.set_cons_zero, List.set_cons_succ]
      refine bdone (by kernel_rfl) ?_
      go_wp2_with fail
      go_roundw
      case rel => exact ⟨.inr (.inr ⟨rfl, hl⟩), hbel.drew⟩
      case measure => simp [intOf]
    · clear hl1
      obtain ⟨bk, o, rfl, _, hbW, hcell⟩ := hs1.at_ (k := 0) (by simp; omega)
      have h9i : ((b.length : Int) < 9) = False := by simp; omega
      have hs37 : Sl wr wr.heap.size (some ⟨bk, o + 3, none⟩) (bv ((b.drop 3).take 4)) := by
        have := (hs1.cut 3 c (by simpa using hcl)).tk 4
        rw [bv_drop, bv_take, if_neg (by omega), Option.map_some, addN] at this
        exact this
      have d2 := cellB (hcell 2 _ (bv_get b 2 (by omega)))
      have d7 := cellB (hcell 7 _ (bv_get b 7 (by omega)))
      have d8 := cellB (hcell 8 _ (bv_get b 8 (by omega)))
      have k2 : (b[2]?.getD 0).toNat = y2 := YY.out.1
      have k7 : (b[7]?.getD 0).toNat = y7 := YY.out.2.1
      have k8 : (b[8]?.getD 0).toNat = y8 := YY.out.2.2
      rw [k2] at d2
      rw [k7] at d7
      rw [k8] at d8
      have hc3 : ¬ c = 3 := by omega
      have hc7 : 7 ≤ c := by omega
      have HB2 := Lib.hid (fun W (hW : KB wr.heap W) => RefBig_lit W wr.heap.size (some ⟨bk, o + 3, none⟩) 4 (c - 3) ((b.drop 3).take 4) _ (hs37.kb hW) (by simp; omega) (by omega) (by omega) HG.out)
      clear hcell k2 k7 k8 hs37
      have i2 : (2 : Int) < (b.length : Int) := by omega
      have i7 : (7 : Int) < (b.length : Int) := by omega
      have i8 : (8 : Int) < (b.length : Int) := by omega
      have i37 : (7 : Int) ≤ (c : Int) := by omega
      go_wp2_with fail
      have hS0 : KB wr.heap wr.drew := KB.refl wr
      refine bstartH (wr.heap) (by kernel_rfl) ?_
      refine btake 0 (oi := _) (v := ?_) (by simp only [List.getElem?_toArray, List.getElem?_cons_zero]; rfl) (by kernel_rfl) (by exact fun _ _ _ h => h) (by first | assumption | exact KB.refl _) (.inl ⟨by rfl, fun W hW => ?_⟩) ?_; rotate_left
      · (go_simp; first | done | with_reducible rfl)
      try simp only [Act.put, List.setIfInBounds_toArray, List.set_cons_zero, List.set_cons_succ]
      refine btake 1 (oi := _) (v := ?_) (by simp only [List.getElem?_toArray, List.getElem?_cons_succ, List.getElem?_cons_zero]; rfl) (by kernel_rfl) (by exact fun _ _ _ h => h) (by first | assumption | exact KB.refl _) (.inl ⟨by rfl, fun W hW => ?_⟩) ?_; rotate_left
      · (go_simp; first | done | with_reducible rfl)
      try simp only [Act.put, List.setIfInBounds_toArray, List.set_cons_zero, List.set_cons_succ]
      refine btake 2 (oi := _) (v := ?_) (by simp only [List.getElem?_toArray, List.getElem?_cons_succ, List.getElem?_cons_zero]; rfl) (by kernel_rfl) (by exact fun _ _ _ h => h) (by first | assumption | exact KB.refl _) (.inl ⟨by rfl, fun W hW => ?_⟩) ?_; rotate_left
      · (go_simp; first | done | with_reducible rfl)
      try simp only [Act.put, List.setIfInBounds_toArray, List.set_cons_zero, List.set_cons_succ]
      refine btake 3 (oi := _) (v := ?_) (by simp only [List.getElem?_toArray, List.getElem?_cons_succ, List.getElem?_cons_zero]; rfl) (by kernel_rfl) (by exact fun _ _ _ h => h) (by first | assumption | exact KB.refl _) (.inl ⟨by rfl, fun W hW => ?_⟩) ?_; rotate_left
      · (go_simp; first | done | with_reducible rfl)
      try simp only [Act.put, List.setIfInBounds_toArray, List.set_cons_zero, List.set_cons_succ]
      refine btake 4 (oi := _) (v := ?_) (by simp only [List.getElem?_toArray, List.getElem?_cons_succ, List.getElem?_cons_zero]; rfl) (by kernel_rfl) (by exact fun _ _ _ h => h) (by first | assumption | exact KB.refl _) (.inl ⟨by rfl, fun W hW => ?_⟩) ?_; rotate_left
      · (go_simp; first | done | with_reducible rfl)
      try simp only [Act.put, List.setIfInBounds_toArray, List.set_cons_zero, List.set_cons_succ]
      refine btake 5 (oi := _) (v := ?_) (by simp only [List.getElem?_toArray, List.getElem?_cons_succ, List.getElem?_cons_zero]; rfl) (by kernel_rfl) (by exact fun _ _ _ h => h) (by first | assumption | exact KB.refl _) (.inl ⟨by rfl, fun W hW => ?_⟩) ?_; rotate_left
      · (go_simp; first | done | with_reducible rfl)
      try simp only [Act.put, List.setIfInBounds_toArray, List.set_cons_zero, List.set_cons_succ]
      -- 6: newsreel/newsreelref1.Big
      refine bquiet 6 (oi := _) ?_ (by simp only [List.getElem?_toArray, List.getElem?_cons_succ, List.getElem?_cons_zero]; rfl) (by kernel_rfl) (by exact fun _ _ _ h => h) (by first | assumption | exact KB.refl _) (by rfl) (fun W hW => by go_simp; first | done | exact ⟨rfl, rfl⟩ | rfl) (fun W hW => ?_) ?_; rotate_left
      · exact HB2.out W hW
      try simp only [Act.put, List.setIfInBounds_toArray, List.set_cons_zero, List.set_cons_succ]
      refine btake 7 (oi := _) (v := ?_) (by simp only [List.getElem?_toArray, List.getElem?_cons_succ, List.getElem?_cons_zero]; rfl) (by kernel_rfl) (by exact fun _ _ _ h => h) (by first | assumption | exact KB.refl _) (.inl ⟨by rfl, fun W hW => ?_⟩) ?_; rotate_left
      · (go_simp; first | done | with_reducible rfl)
      try simp only [Act.put, List.setIfInBounds_toArray, List.set_cons_zero, List.set_cons_succ]
      refine btake 8 (oi := _) (v := ?_) (by simp only [List.getElem?_toArray, List.getElem?_cons_succ, List.getElem?_cons_zero]; rfl) (by kernel_rfl) (by exact fun _ _ _ h => h) (by first | assumption | exact KB.refl _) (.inl ⟨by rfl, fun W hW => ?_⟩) ?_; rotate_left
      · (go_simp; first | done | with_reducible rfl)
      try simp only [Act.put, List.setIfInBounds_toArray, List.set_cons_zero, List.set_cons_succ]
      refine btake 9 (oi := _) (v := ?_) (by simp only [List.getElem?_toArray, List.getElem?_cons_succ, List.getElem?_cons_zero]; rfl) (by kernel_rfl) (by exact fun _ _ _ h => h) (by first | assumption | exact KB.refl _) (.inl ⟨by rfl, fun W hW => ?_⟩) ?_; rotate_left
      · (go_simp; first | done | with_reducible rfl)
      try simp only [Act.put, List.setIfInBounds_toArray, List.set_cons_zero, List.set_cons_succ]
      refine btake 10 (oi := _) (v := ?_) (by simp only [List.getElem?_toArray, List.getElem?_cons_succ, List.getElem?_cons_zero]; rfl) (by kernel_rfl) (by exact fun _ _ _ h => h) (by first | assumption | exact KB.refl _) (.inl ⟨by rfl, fun W hW => ?_⟩) ?_; rotate_left
      · (go_simp; first | done | with_reducible rfl)
      try simp only [Act.put, List.setIfInBounds_toArray, List.set_cons_zero, List.set_cons_succ]
      refine btake 11 (oi := _) (v := ?_) (by simp only [List.getElem?_toArray, List.getElem?_cons_succ, List.getElem?_cons_zero]; rfl) (by kernel_rfl) (by exact fun _ _ _ h => h) (by first | assumption | exact KB.refl _) (.inl ⟨by rfl, fun W hW => ?_⟩) ?_; rotate_left
      · (go_simp; first | done | with_reducible rfl)
      try simp only [Act.put, List.setIfInBounds_toArray, List.set_cons_zero, List.set_cons_succ]
      refine btake 12 (oi := _) (v := ?_) (by simp only [List.getElem?_toArray, List.getElem?_cons_succ, List.getElem?_cons_zero]; rfl) (by kernel_rfl) (by exact fun _ _ _ h => h) (by first | assumption | exact KB.refl _) (.inl ⟨by rfl, fun W hW => ?_⟩) ?_; rotate_left
      · (go_simp; first | done | with_reducible rfl)
      try simp only [Act.put, List.setIfInBounds_toArray, List.set_cons_zero, List.set_cons_succ]
      refine btake 13 (oi := _) (v := ?_) (by simp only [List.getElem?_toArray, List.getElem?_cons_succ, List.getElem?_cons_zero]; rfl) (by kernel_rfl) (by exact fun _ _ _ h => h) (by first | assumption | exact KB.refl _) (.inl ⟨by rfl, fun W hW => ?_⟩) ?_; rotate_left
      · (go_simp; first | done | with_reducible rfl)
      try simp only [Act.put, List.setIfInBounds_toArray, List.set_cons_zero, List.set_cons_succ]
      refine btake 14 (oi := _) (v := ?_) (by simp only [List.getElem?_toArray, List.getElem?_cons_succ, List.getElem?_cons_zero]; rfl) (by kernel_rfl) (by exact fun _ _ _ h => h) (by first | assumption | exact KB.refl _) (.inl ⟨by rfl, fun W hW => ?_⟩) ?_; rotate_left
      · (go_simp; first | done | with_reducible rfl)
      try simp only [Act.put, List.setIfInBounds_toArray, List.set_cons_zero, List.set_cons_succ]
      refine btake 15 (oi := _) (v := ?_) (by simp only [List.getElem?_toArray, List.getElem?_cons_succ, List.getElem?_cons_zero]; rfl) (by kernel_rfl) (by exact fun _ _ _ h => h) (by first | assumption | exact KB.refl _) (.inl ⟨by rfl, fun W hW => ?_⟩) ?_; rotate_left
      · (go_simp; first | done | with_reducible rfl)
      try simp only [Act.put, List.setIfInBounds_toArray, List.set_cons_zero, List.set_cons_succ]
      refine btake 16 (oi := _) (v := ?_) (by simp only [List.getElem?_toArray, List.getElem?_cons_succ, List.getElem?_cons_zero]; rfl) (by kernel_rfl) (by exact fun _ _ _ h => h) (by first | assumption | exact KB.refl _) (.inl ⟨by rfl, fun W hW => ?_⟩) ?_; rotate_left
      · (go_simp; first | done | with_reducible rfl)
      try simp only [Act.put, List.setIfInBounds_toArray, List.set_cons_zero, List.set_cons_succ]
      -- 17: Op.alloc 47
      refine bopH 17 (o := _) (by simp only [List.getElem?_toArray, List.getElem?_cons_succ, List.getElem?_cons_zero]; rfl) (by kernel_rfl) (by first | assumption | exact KB.refl _) (by rfl) (fun K hK => ?_)
      go_simp
      have hkb : KB wr.heap (wr.alloc (.cells #[.int .i64 0, .int .u32 0, .int .i64 0, .int .i64 0, .slice none 0 0] 47)).drew := KB.alloc wr _
      refine hK.out _ _ hkb ?_; clear hK K
      try simp only [Act.put, List.setIfInBounds_toArray, List.set_cons_zero, List.set_cons_succ]
      -- 18: Op.store 47 (Operand.tmp 9) (Operand.tmp 51)
      refine bopH 18 (o := _) (by simp only [List.getElem?_toArray, List.getElem?_cons_succ, List.getElem?_cons_zero]; rfl) (by kernel_rfl) (by first | assumption | exact KB.refl _) (by rfl) (fun K hK => ?_)
      go_simp
      have hkb : KB wr.heap (wr.alloc (.cells #[.int .i64 (y2 : Int), .int .u32 (gg : Int), .int .i64 (y7 : Int), .int .i64 (y8 : Int), .slice none 0 0] 47)).drew := KB.alloc wr _
      refine hK.out _ _ hkb ?_; clear hK K
      try simp only [Act.put, List.setIfInBounds_toArray, List.set_cons_zero, List.set_cons_succ]
      refine bdone (by kernel_rfl) ?_
      have hF := (At.new wr 47 #[.int .i64 (y2 : Int), .int .u32 (gg : Int), .int .i64 (y7 : Int), .int .i64 (y8 : Int), .slice none 0 0]).drew
      have hA2 := (hA1.alloc (.cells #[.int .i64 (y2 : Int), .int .u32 (gg : Int), .int .i64 (y7 : Int), .int .i64 (y8 : Int), .slice none 0 0] 47)).drew
      have b2 := (b1.alloc b1.size (.cells #[.int .i64 (y2 : Int), .int .u32 (gg : Int), .int .i64 (y7 : Int), .int .i64 (y8 : Int), .slice none 0 0] 47)).drew
      have hs2 : Sl (wr.alloc (.cells #[.int .i64 (y2 : Int), .int .u32 (gg : Int), .int .i64 (y7 : Int), .int .i64 (y8 : Int), .slice none 0 0] 47)).drew (wr.alloc (.cells #[.int .i64 (y2 : Int), .int .u32 (gg : Int), .int .i64 (y7 : Int), .int .i64 (y8 : Int), .slice none 0 0] 47)).drew.heap.size (some ⟨bk, o, none⟩) (bv b) := (hs1.alloc _).more (by show wr.heap.size ≤ (wr.alloc _).heap.size; simp)
      have hFw : wr.heap.size ≠ w.heap.size := by have := hA1.lt; omega
      clear d2 d7 d8 hkb hS0 i2 i7 i8 i37 HB2 h9i
      generalize (wr.alloc (.cells #[.int .i64 (y2 : Int), .int .u32 (gg : Int), .int .i64 (y7 : Int), .int .i64 (y8 : Int), .slice none 0 0] 47)).drew = w2 at *
      generalize wr.heap.size = gF at *
      clear hs1 hA1 b1
      have u0 := hF.c 0 rfl
      have u1 := hF.c 1 rfl
      have u2 := hF.c 2 rfl
      have u3 := hF.c 3 rfl
      have u4 := hF.c 4 rfl
      go_wp2_with fail
      refine (HK.out w2).mono ?_
      rintro e w3 ⟨rfl, hb3⟩
      replace hA2 := hA2.below hb3
      replace hF := hF.below hb3
      replace b2 := b2.trans (hb3.mono b2.size)
      replace hs2 := (hs2.below hb3).more hb3.size
      clear u0 u1 u2 u3 u4 hb3
      have hAz := hA2
      have bz := b2
      have a0 := hAz.c 0 rfl
      have a1 := hAz.c 1 rfl
      have a2 := hAz.c 2 rfl
      have a3 := hAz.c 3 rfl
      have a4 := hAz.c 4 rfl
      have f0 := hAz.f 0 rfl
      have f1 := hAz.f 1 rfl
      have f2 := hAz.f 2 rfl
      have f3 := hAz.f 3 rfl
      have f4 := hAz.f 4 rfl
      have hP9 := hAz.putL [.int .i64 0, .int .u32 0, .int .i64 0, .int .i64 0, .slice none 0 0] rfl
      have bP := below_putL [.int .i64 0, .int .u32 0, .int .i64 0, .int .i64 0, .slice none 0 0] 0 bz (g := w.heap.size) (Nat.le_refl _)
      simp only [putL, Nat.zero_add, Nat.reduceAdd] at hP9 bP
      go_wp2_with fail
      have z0 := hP9.c 0 rfl
      have z1 := hP9.c 1 rfl
      have z2 := hP9.c 2 rfl
      have z3 := hP9.c 3 rfl
      have z4 := hP9.c 4 rfl
      exact bodyPost_ret (v := .tuple #[.agg #[.int .i64 0, .int .u32 0, .int .i64 0, .int .i64 0, .slice none 0 0], .int .i64 0, .int .i64 0, .int .i64 21]) (by simp [results, Try.results59, go_sem, z0, z1, z2, z3, z4]) rfl ⟨rfl, bP⟩
set_option maxRecDepth 100000 in
set_option maxHeartbeats 6400000 in
theorem Rhead_nine (w : World) (A : Option Addr) (n c : Nat) (b : List UInt8) (limit : Int) (hb : Sl w w.heap.size A (bv b)) (h0 : n = b.length) (hc : n ≤ c) (hm : c ≤ maxLen) (he : b.take 2 = ([78, 82] : List UInt8).take b.length) (h9 : 9 = b.length) (hc9 : c = 9) (hr : rightB b = true) :
    Calls Try.prog 59 #[.slice A n c, .int .i64 limit] w (HeadPost w zeroF 0 0 20) := by
  subst h0
  have hA := At.new w 47 #[.int .i64 0, .int .u32 0, .int .i64 0, .int .i64 0, .slice none 0 0]
  have b0 := balloc (Below.refl w.heap.size w) (.cells #[.int .i64 0, .int .u32 0, .int .i64 0, .int .i64 0, .slice none 0 0] 47)
  have hs := (hb.below b0).more b0.size
  obtain ⟨h78, h82⟩ := take2 he
  clear he
  have HT := Lib.hid (fun W (A : Option Addr) => RTake_tup W 0 A 0 0 [] 0 0 20 Sl.nil rfl (by omega) (by simp [maxLen]) (by simp [takeS, run]))
  have h9b : b.length ≤ 9 := by omega
  have h9c : 9 ≤ b.length := by omega
  have hcl : b.length ≤ c := hc
  have x2l : at_ b 2 < 256 := UInt8.toNat_lt _
  have x7l : at_ b 7 < 256 := UInt8.toNat_lt _
  have x8l : at_ b 8 < 256 := UInt8.toNat_lt _
  have hG : big ((b.drop 3).take 4) = bigF 0 ((b.drop 3).take 4) := by unfold big; rw [List.take_of_length_le (by simp; omega)]
  have hGl : bigF 0 ((b.drop 3).take 4) < 4294967296 := by
    have := bigF_lt ((b.drop 3).take 4) 0
    have hl : ((b.drop 3).take 4).length = 4 := by simp; omega
    rw [hl] at this
    omega
  obtain ⟨y2, hy2⟩ : ∃ y2, at_ b 2 = y2 := ⟨_, rfl⟩
  obtain ⟨y7, hy7⟩ : ∃ y7, at_ b 7 = y7 := ⟨_, rfl⟩
  obtain ⟨y8, hy8⟩ : ∃ y8, at_ b 8 = y8 := ⟨_, rfl⟩
  obtain ⟨gg, hgg⟩ : ∃ gg, bigF 0 ((b.drop 3).take 4) = gg := ⟨_, rfl⟩
  have hfr : hdF b = ⟨(y2 : Int), gg, (y7 : Int), (y8 : Int), []⟩ := by unfold hdF; rw [hy2, hy7, hy8, hgg]
  have hkn : Fr.right ⟨(y2 : Int), gg, (y7 : Int), (y8 : Int), []⟩ = rightB b := by unfold rightB Fr.right; rw [hy2, hy7, hy8]
  have HK := Lib.hid (fun W => Rknown_any W ⟨(y2 : Int), gg, (y7 : Int), (y8 : Int), []⟩ none 0)
  rw [hkn, hr] at HK
  rw [hgg] at hG hGl
  rw [hy2] at x2l
  rw [hy7] at x7l
  rw [hy8] at x8l
  have YY := Lib.hid (And.intro hy2 (And.intro hy7 hy8))
  have HG := Lib.hid hG
  clear hG hgg hkn hy2 hy7 hy8 hb
  have ww0 : IntKind.u32.wrap (gg : Int) = (gg : Int) := by rw [IntKind.wrap_u32]; omega
  have ww2 : IntKind.i64.wrap (y2 : Int) = (y2 : Int) := by rw [IntKind.wrap_i64]; omega
  have ww7 : IntKind.i64.wrap (y7 : Int) = (y7 : Int) := by rw [IntKind.wrap_i64]; omega
  have ww8 : IntKind.i64.wrap (y8 : Int) = (y8 : Int) := by rw [IntKind.wrap_i64]; omega
  subst hc9
  clear h9
  go_enter Try.func59, Try.ntmps59
  go_wp2_with fail
  generalize w.alloc (.cells #[.int .i64 0, .int .u32 0, .int .i64 0, .int .i64 0, .slice none 0 0] 47) = w1 at *
  have H78 := Lib.hid (And.intro h78 h82)
  clear h78 h82
  go_loopw [8] (fun x8 wr => (x8 = .int .i64 0 ∨ (x8 = .int .i64 1 ∧ 0 < b.length) ∨ (x8 = .int .i64 2 ∧ 1 < b.length)) ∧ Below w1.heap.size w1 wr) (fun x8 _ => 2 - (intOf x8).toNat)
  case atStart => exact ⟨.inl rfl, Below.refl _ _⟩
  case round =>
    obtain ⟨hx, hbel⟩ := hrel
    have hA1 := hA.below hbel
    have b1 := b0.trans (hbel.mono b0.size)
    have hs1 := (hs.below hbel).more hbel.size
    rcases hx with rfl | ⟨rfl, hl0⟩ | ⟨rfl, hl1⟩
    · have hl : 0 < b.length := by omega
      obtain ⟨bk, o, rfl, _, hbW, hcell⟩ := hs1.at_ (k := 0) (by simpa using hl)
      have d0 := cellB (hcell 0 _ (bv_get b 0 hl))
      try simp only [Nat.add_zero] at d0
      have k0 : (b[0]?.getD 0).toNat = at_ b 0 := rfl
      rw [k0, H78.out.1 hl] at d0
      have hil : (0 : Int) < (b.length : Int) := by omega
      clear hcell k0
      go_wp2_with fail
      refine bstart (by kernel_rfl) ?_
      refine btake 0 (oi := _) (v := ?_) (by simp only [List.getElem?_toArray, List.getElem?_cons_zero]; rfl) (by kernel_rfl) (by exact fun _ _ _ h => h) (by first | assumption | exact KB.refl _) (.inl ⟨by rfl, fun W hW => ?_⟩) ?_; rotate_left
      · (go_simp; first | done | with_reducible rfl)
      try simp only [Act.put, List.setIfInBounds_toArray, List.set_cons_zero, List.set_cons_succ]
      refine btake 1 (oi := _) (v := ?_) (by simp only [List.getElem?_toArray, List.getElem?_cons_succ, List.getElem?_cons_zero]; rfl) (by kernel_rfl) (by exact fun _ _ _ h => h) (by first | assumption | exact KB.refl _) (.inl ⟨by rfl, fun W hW => ?_⟩) ?_; rotate_left
      · (go_simp; first | done | with_reducible rfl)
      try simp only [Act.put, List.setIfInBounds_toArray, List.set_cons_zero, List.set_cons_succ]
      refine btake 2 (oi := _) (v := ?_) (by simp only [List.getElem?_toArray, List.getElem?_cons_succ, List.getElem?_cons_zero]; rfl) (by kernel_rfl) (by exact fun _ _ _ h => h) (by first | assumption | exact KB.refl _) (.inl ⟨by rfl, fun W hW => ?_⟩) ?_; rotate_left
      · (go_simp; first | done | with_reducible rfl)
      try simp only [Act.put, List.setIfInBounds_toArray, List.set_cons_zero, List.set_cons_succ]
      refine btake 3 (oi := _) (v := ?_) (by simp only [List.getElem?_toArray, List.getElem?_cons_succ, List.getElem?_cons_zero]; rfl) (by kernel_rfl) (by exact fun _ _ _ h => h) (by first | assumption | exact KB.refl _) (.inl ⟨by rfl, fun W hW => ?_⟩) ?_; rotate_left
      · (go_simp; first | done | with_reducible rfl)
      try simp only [Act.put, List.setIfInBounds_toArray, List.set_cons_zero, List.set_cons_succ]
      refine btake 4 (oi := _) (v := ?_) (by simp only [List.getElem?_toArray, List.getElem?_cons_succ, List.getElem?_cons_zero]; rfl) (by kernel_rfl) (by exact fun _ _ _ h => h) (by first | assumption | exact KB.refl _) (.inl ⟨by rfl, fun W hW => ?_⟩) ?_; rotate_left
      · (go_simp; first | done | with_reducible rfl)
      try simp only [Act.put, List.setIfInBounds_toArray, List.set_cons_zero, List.set_cons_succ]
      refine btake 5 (oi := _) (v := ?_) (by simp only [List.getElem?_toArray, List.getElem?_cons_succ, List.getElem?_cons_zero]; rfl) (by kernel_rfl) (by exact fun _ _ _ h => h) (by first | assumption | exact KB.refl _) (.inl ⟨by rfl, fun W hW => ?_⟩) ?_; rotate_left
      · go_simp
        show _ = Value.int .u8 78
        rfl
      try simp only [Act.put, List.setIfInBounds_toArray, List.set_cons_zero, List.set_cons_succ]
      refine btake 6 (oi := _) (v := ?_) (by simp only [List.getElem?_toArray, List.getElem?_cons_succ, List.getElem?_cons_zero]; rfl) (by kernel_rfl) (by exact fun _ _ _ h => h) (by first | assumption | exact KB.refl _) (.inl ⟨by rfl, fun W hW => ?_⟩) ?_; rotate_left
      · (go_simp; first | done | with_reducible rfl)
      try simp only [Act.put, List.setIfInBounds_toArray, List.set_cons_zero, List.set_cons_succ]
      refine bdone (by kernel_rfl) ?_
      go_wp2_with fail
      go_roundw
      case rel => exact ⟨.inr (.inl ⟨rfl, hl⟩), hbel.drew⟩
      case measure => simp [intOf]
    · have hl : 1 < b.length := by omega
      obtain ⟨bk, o, rfl, _, hbW, hcell⟩ := hs1.at_ (k := 1) (by simpa using hl)
      have d0 := cellB (hcell 1 _ (bv_get b 1 hl))
      try simp only [Nat.add_zero] at d0
      have k0 : (b[1]?.getD 0).toNat = at_ b 1 := rfl
      rw [k0, H78.out.2 hl] at d0
      have hil : (1 : Int) < (b.length : Int) := by omega
      clear hcell k0
      go_wp2_with fail
      refine bstart (by kernel_rfl) ?_
      refine btake 0 (oi := _) (v := ?_) (by simp only [List.getElem?_toArray, List.getElem?_cons_zero]; rfl) (by kernel_rfl) (by exact fun _ _ _ h => h) (by first | assumption | exact KB.refl _) (.inl ⟨by rfl, fun W hW => ?_⟩) ?_; rotate_left
      · (go_simp; first | done | with_reducible rfl)
      try simp only [Act.put, List.setIfInBounds_toArray, List.set_cons_zero, List.set_cons_succ]
      refine btake 1 (oi := _) (v := ?_) (by simp only [List.getElem?_toArray, List.getElem?_cons_succ, List.getElem?_cons_zero]; rfl) (by kernel_rfl) (by exact fun _ _ _ h => h) (by first | assumption | exact KB.refl _) (.inl ⟨by rfl, fun W hW => ?_⟩) ?_; rotate_left
      · (go_simp; first | done | with_reducible rfl)
      try simp only [Act.put, List.setIfInBounds_toArray, List.set_cons_zero, List.set_cons_succ]
      refine btake 2 (oi := _) (v := ?_) (by simp only [List.getElem?_toArray, List.getElem?_cons_succ, List.getElem?_cons_zero]; rfl) (by kernel_rfl) (by exact fun _ _ _ h => h) (by first | assumption | exact KB.refl _) (.inl ⟨by rfl, fun W hW => ?_⟩) ?_; rotate_left
      · (go_simp; first | done | with_reducible rfl)
      try simp only [Act.put, List.setIfInBounds_toArray, List.set_cons_zero, List.set_cons_succ]
      refine btake 3 (oi := _) (v := ?_) (by simp only [List.getElem?_toArray, List.getElem?_cons_succ, List.getElem?_cons_zero]; rfl) (by kernel_rfl) (by exact fun _ _ _ h => h) (by first | assumption | exact KB.refl _) (.inl ⟨by rfl, fun W hW => ?_⟩) ?_; rotate_left
      · (go_simp; first | done | with_reducible rfl)
      try simp only [Act.put, List.setIfInBounds_toArray, List.set_cons_zero, List.set_cons_succ]
      refine btake 4 (oi := _) (v := ?_) (by simp only [List.getElem?_toArray, List.getElem?_cons_succ, List.getElem?_cons_zero]; rfl) (by kernel_rfl) (by exact fun _ _ _ h => h) (by first | assumption | exact KB.refl _) (.inl ⟨by rfl, fun W hW => ?_⟩) ?_; rotate_left
      · (go_simp; first | done | with_reducible rfl)
      try simp only [Act.put, List.setIfInBounds_toArray, List.set_cons_zero, List.set_cons_succ]
      refine btake 5 (oi := _) (v := ?_) (by simp only [List.getElem?_toArray, List.getElem?_cons_succ, List.getElem?_cons_zero]; rfl) (by kernel_rfl) (by exact fun _ _ _ h => h) (by first | assumption | exact KB.refl _) (.inl ⟨by rfl, fun W hW => ?_⟩) ?_; rotate_left
      · go_simp
        show _ = Value.int .u8 82
        rfl
      try simp only [Act.put, List.setIfInBounds_toArray, List.set_cons_zero, List.set_cons_succ]
      refine btake 6 (oi := _) (v := ?_) (by simp only [List.getElem?_toArray, List.getElem?_cons_succ, List.getElem?_cons_zero]; rfl) (by kernel_rfl) (by exact fun _ _ _ h => h) (by first | assumption | exact KB.refl _) (.inl ⟨by rfl, fun W hW => ?_⟩) ?_; rotate_left
      · (go_simp; first | done | with_reducible rfl)
      try simp only [Act.put, List.setIfInBounds_toArray, List.set_cons_zero, List.set_cons_succ]
      refine bdone (by kernel_rfl) ?_
      go_wp2_with fail
      go_roundw
      case rel => exact ⟨.inr (.inr ⟨rfl, hl⟩), hbel.drew⟩
      case measure => simp [intOf]
    · clear hl1
      obtain ⟨bk, o, rfl, _, hbW, hcell⟩ := hs1.at_ (k := 0) (by simp; omega)
      have h9i : ((b.length : Int) < 9) = False := by simp; omega
      have hs37 : Sl wr wr.heap.size (some ⟨bk, o + 3, none⟩) (bv ((b.drop 3).take 4)) := by
        have := (hs1.cut 3 9 (by simpa using hcl)).tk 4
        rw [bv_drop, bv_take, if_neg (by omega), Option.map_some, addN] at this
        exact this
      have d2 := cellB (hcell 2 _ (bv_get b 2 (by omega)))
      have d7 := cellB (hcell 7 _ (bv_get b 7 (by omega)))
      have d8 := cellB (hcell 8 _ (bv_get b 8 (by omega)))
      have k2 : (b[2]?.getD 0).toNat = y2 := YY.out.1
      have k7 : (b[7]?.getD 0).toNat = y7 := YY.out.2.1
      have k8 : (b[8]?.getD 0).toNat = y8 := YY.out.2.2
      rw [k2] at d2
      rw [k7] at d7
      rw [k8] at d8
      skip
      skip
      have HB2 := Lib.hid (fun W (hW : KB wr.heap W) => RefBig_lit W wr.heap.size (some ⟨bk, o + 3, none⟩) 4 6 ((b.drop 3).take 4) _ (hs37.kb hW) (by simp; omega) (by omega) (by omega) HG.out)
      clear hcell k2 k7 k8 hs37
      have i2 : (2 : Int) < (b.length : Int) := by omega
      have i7 : (7 : Int) < (b.length : Int) := by omega
      have i8 : (8 : Int) < (b.length : Int) := by omega
      have i37 : (7 : Int) ≤ 9 := by omega
      go_wp2_with fail
      have hS0 : KB wr.heap wr.drew := KB.refl wr
      refine bstartH (wr.heap) (by kernel_rfl) ?_
      refine btake 0 (oi := _) (v := ?_) (by simp only [List.getElem?_toArray, List.getElem?_cons_zero]; rfl) (by kernel_rfl) (by exact fun _ _ _ h => h) (by first | assumption | exact KB.refl _) (.inl ⟨by rfl, fun W hW => ?_⟩) ?_; rotate_left
      · (go_simp; first | done | with_reducible rfl)
      try simp only [Act.put, List.setIfInBounds_toArray, List.set_cons_zero, List.set_cons_succ]
      refine btake 1 (oi := _) (v := ?_) (by simp only [List.getElem?_toArray, List.getElem?_cons_succ, List.getElem?_cons_zero]; rfl) (by kernel_rfl) (by exact fun _ _ _ h => h) (by first | assumption | exact KB.refl _) (.inl ⟨by rfl, fun W hW => ?_⟩) ?_; rotate_left
      · (go_simp; first | done | with_reducible rfl)
      try simp only [Act.put, List.setIfInBounds_toArray, List.set_cons_zero, List.set_cons_succ]
      refine btake 2 (oi := _) (v := ?_) (by simp only [List.getElem?_toArray, List.getElem?_cons_succ, List.getElem?_cons_zero]; rfl) (by kernel_rfl) (by exact fun _ _ _ h => h) (by first | assumption | exact KB.refl _) (.inl ⟨by rfl, fun W hW => ?_⟩) ?_; rotate_left
      · (go_simp; first | done | with_reducible rfl)
      try simp only [Act.put, List.setIfInBounds_toArray, List.set_cons_zero, List.set_cons_succ]
      refine btake 3 (oi := _) (v := ?_) (by simp only [List.getElem?_toArray, List.getElem?_cons_succ, List.getElem?_cons_zero]; rfl) (by kernel_rfl) (by exact fun _ _ _ h => h) (by first | assumption | exact KB.refl _) (.inl ⟨by rfl, fun W hW => ?_⟩) ?_; rotate_left
      · (go_simp; first | done | with_reducible rfl)
      try simp only [Act.put, List.setIfInBounds_toArray, List.set_cons_zero, List.set_cons_succ]
      refine btake 4 (oi := _) (v := ?_) (by simp only [List.getElem?_toArray, List.getElem?_cons_succ, List.getElem?_cons_zero]; rfl) (by kernel_rfl) (by exact fun _ _ _ h => h) (by first | assumption | exact KB.refl _) (.inl ⟨by rfl, fun W hW => ?_⟩) ?_; rotate_left
      · (go_simp; first | done | with_reducible rfl)
      try simp only [Act.put, List.setIfInBounds_toArray, List.set_cons_zero, List.set_cons_succ]
      refine btake 5 (oi := _) (v := ?_) (by simp only [List.getElem?_toArray, List.getElem?_cons_succ, List.getElem?_cons_zero]; rfl) (by kernel_rfl) (by exact fun _ _ _ h => h) (by first | assumption | exact KB.refl _) (.inl ⟨by rfl, fun W hW => ?_⟩) ?_; rotate_left
      · (go_simp; first | done | with_reducible rfl)
      try simp only [Act.put, List.setIfInBounds_toArray, List.set_cons_zero, List.set_cons_succ]
      -- 6: newsreel/newsreelref1.Big
      refine bquiet 6 (oi := _) ?_ (by simp only [List.getElem?_toArray, List.getElem?_cons_succ, List.getElem?_cons_zero]; rfl) (by kernel_rfl) (by exact fun _ _ _ h => h) (by first | assumption | exact KB.refl _) (by rfl) (fun W hW => by go_simp; first | done | exact ⟨rfl, rfl⟩ | rfl) (fun W hW => ?_) ?_; rotate_left
      · exact HB2.out W hW
      try simp only [Act.put, List.setIfInBounds_toArray, List.set_cons_zero, List.set_cons_succ]
      refine btake 7 (oi := _) (v := ?_) (by simp only [List.getElem?_toArray, List.getElem?_cons_succ, List.getElem?_cons_zero]; rfl) (by kernel_rfl) (by exact fun _ _ _ h => h) (by first | assumption | exact KB.refl _) (.inl ⟨by rfl, fun W hW => ?_⟩) ?_; rotate_left
      · (go_simp; first | done | with_reducible rfl)
      try simp only [Act.put, List.setIfInBounds_toArray, List.set_cons_zero, List.set_cons_succ]
      refine btake 8 (oi := _) (v := ?_) (by simp only [List.getElem?_toArray, List.getElem?_cons_succ, List.getElem?_cons_zero]; rfl) (by kernel_rfl) (by exact fun _ _ _ h => h) (by first | assumption | exact KB.refl _) (.inl ⟨by rfl, fun W hW => ?_⟩) ?_; rotate_left
      · (go_simp; first | done | with_reducible rfl)
      try simp only [Act.put, List.setIfInBounds_toArray, List.set_cons_zero, List.set_cons_succ]
      refine btake 9 (oi := _) (v := ?_) (by simp only [List.getElem?_toArray, List.getElem?_cons_succ, List.getElem?_cons_zero]; rfl) (by kernel_rfl) (by exact fun _ _ _ h => h) (by first | assumption | exact KB.refl _) (.inl ⟨by rfl, fun W hW => ?_⟩) ?_; rotate_left
      · (go_simp; first | done | with_reducible rfl)
      try simp only [Act.put, List.setIfInBounds_toArray, List.set_cons_zero, List.set_cons_succ]
      refine btake 10 (oi := _) (v := ?_) (by simp only [List.getElem?_toArray, List.getElem?_cons_succ, List.getElem?_cons_zero]; rfl) (by kernel_rfl) (by exact fun _ _ _ h => h) (by first | assumption | exact KB.refl _) (.inl ⟨by rfl, fun W hW => ?_⟩) ?_; rotate_left
      · (go_simp; first | done | with_reducible rfl)
      try simp only [Act.put, List.setIfInBounds_toArray, List.set_cons_zero, List.set_cons_succ]
      refine btake 11 (oi := _) (v := ?_) (by simp only [List.getElem?_toArray, List.getElem?_cons_succ, List.getElem?_cons_zero]; rfl) (by kernel_rfl) (by exact fun _ _ _ h => h) (by first | assumption | exact KB.refl _) (.inl ⟨by rfl, fun W hW => ?_⟩) ?_; rotate_left
      · (go_simp; first | done | with_reducible rfl)
      try simp only [Act.put, List.setIfInBounds_toArray, List.set_cons_zero, List.set_cons_succ]
      refine btake 12 (oi := _) (v := ?_) (by simp only [List.getElem?_toArray, List.getElem?_cons_succ, List.getElem?_cons_zero]; rfl) (by kernel_rfl) (by exact fun _ _ _ h => h) (by first | assumption | exact KB.refl _) (.inl ⟨by rfl, fun W hW => ?_⟩) ?_; rotate_left
      · (go_simp; first | done | with_reducible rfl)
      try simp only [Act.put, List.setIfInBounds_toArray, List.set_cons_zero, List.set_cons_succ]
      refine btake 13 (oi := _) (v := ?_) (by simp only [List.getElem?_toArray, List.getElem?_cons_succ, List.getElem?_cons_zero]; rfl) (by kernel_rfl) (by exact fun _ _ _ h => h) (by first | assumption | exact KB.refl _) (.inl ⟨by rfl, fun W hW => ?_⟩) ?_; rotate_left
      · (go_simp; first | done | with_reducible rfl)
      try simp only [Act.put, List.setIfInBounds_toArray, List.set_cons_zero, List.set_cons_succ]
      refine btake 14 (oi := _) (v := ?_) (by simp only [List.getElem?_toArray, List.getElem?_cons_succ, List.getElem?_cons_zero]; rfl) (by kernel_rfl) (by exact fun _ _ _ h => h) (by first | assumption | exact KB.refl _) (.inl ⟨by rfl, fun W hW => ?_⟩) ?_; rotate_left
      · (go_simp; first | done | with_reducible rfl)
      try simp only [Act.put, List.setIfInBounds_toArray, List.set_cons_zero, List.set_cons_succ]
      refine btake 15 (oi := _) (v := ?_) (by simp only [List.getElem?_toArray, List.getElem?_cons_succ, List.getElem?_cons_zero]; rfl) (by kernel_rfl) (by exact fun _ _ _ h => h) (by first | assumption | exact KB.refl _) (.inl ⟨by rfl, fun W hW => ?_⟩) ?_; rotate_left
      · (go_simp; first | done | with_reducible rfl)
      try simp only [Act.put, List.setIfInBounds_toArray, List.set_cons_zero, List.set_cons_succ]
      refine btake 16 (oi := _) (v := ?_) (by simp only [List.getElem?_toArray, List.getElem?_cons_succ, List.getElem?_cons_zero]; rfl) (by kernel_rfl) (by exact fun _ _ _ h => h) (by first | assumption | exact KB.refl _) (.inl ⟨by rfl, fun W hW => ?_⟩) ?_; rotate_left
      · (go_simp; first | done | with_reducible rfl)
      try simp only [Act.put, List.setIfInBounds_toArray, List.set_cons_zero, List.set_cons_succ]
      -- 17: Op.alloc 47
      refine bopH 17 (o := _) (by simp only [List.getElem?_toArray, List.getElem?_cons_succ, List.getElem?_cons_zero]; rfl) (by kernel_rfl) (by first | assumption | exact KB.refl _) (by rfl) (fun K hK => ?_)
      go_simp
      have hkb : KB wr.heap (wr.alloc (.cells #[.int .i64 0, .int .u32 0, .int .i64 0, .int .i64 0, .slice none 0 0] 47)).drew := KB.alloc wr _
      refine hK.out _ _ hkb ?_; clear hK K
      try simp only [Act.put, List.setIfInBounds_toArray, List.set_cons_zero, List.set_cons_succ]
      -- 18: Op.store 47 (Operand.tmp 9) (Operand.tmp 51)
      refine bopH 18 (o := _) (by simp only [List.getElem?_toArray, List.getElem?_cons_succ, List.getElem?_cons_zero]; rfl) (by kernel_rfl) (by first | assumption | exact KB.refl _) (by rfl) (fun K hK => ?_)
      go_simp
      have hkb : KB wr.heap (wr.alloc (.cells #[.int .i64 (y2 : Int), .int .u32 (gg : Int), .int .i64 (y7 : Int), .int .i64 (y8 : Int), .slice none 0 0] 47)).drew := KB.alloc wr _
      refine hK.out _ _ hkb ?_; clear hK K
      try simp only [Act.put, List.setIfInBounds_toArray, List.set_cons_zero, List.set_cons_succ]
      refine bdone (by kernel_rfl) ?_
      have hF := (At.new wr 47 #[.int .i64 (y2 : Int), .int .u32 (gg : Int), .int .i64 (y7 : Int), .int .i64 (y8 : Int), .slice none 0 0]).drew
      have hA2 := (hA1.alloc (.cells #[.int .i64 (y2 : Int), .int .u32 (gg : Int), .int .i64 (y7 : Int), .int .i64 (y8 : Int), .slice none 0 0] 47)).drew
      have b2 := (b1.alloc b1.size (.cells #[.int .i64 (y2 : Int), .int .u32 (gg : Int), .int .i64 (y7 : Int), .int .i64 (y8 : Int), .slice none 0 0] 47)).drew
      have hs2 : Sl (wr.alloc (.cells #[.int .i64 (y2 : Int), .int .u32 (gg : Int), .int .i64 (y7 : Int), .int .i64 (y8 : Int), .slice none 0 0] 47)).drew (wr.alloc (.cells #[.int .i64 (y2 : Int), .int .u32 (gg : Int), .int .i64 (y7 : Int), .int .i64 (y8 : Int), .slice none 0 0] 47)).drew.heap.size (some ⟨bk, o, none⟩) (bv b) := (hs1.alloc _).more (by show wr.heap.size ≤ (wr.alloc _).heap.size; simp)
      have hFw : wr.heap.size ≠ w.heap.size := by have := hA1.lt; omega
      clear d2 d7 d8 hkb hS0 i2 i7 i8 i37 HB2 h9i
      generalize (wr.alloc (.cells #[.int .i64 (y2 : Int), .int .u32 (gg : Int), .int .i64 (y7 : Int), .int .i64 (y8 : Int), .slice none 0 0] 47)).drew = w2 at *
      generalize wr.heap.size = gF at *
      clear hs1 hA1 b1
      have u0 := hF.c 0 rfl
      have u1 := hF.c 1 rfl
      have u2 := hF.c 2 rfl
      have u3 := hF.c 3 rfl
      have u4 := hF.c 4 rfl
      go_wp2_with fail
      refine (HK.out w2).mono ?_
      rintro e w3 ⟨rfl, hb3⟩
      replace hA2 := hA2.below hb3
      replace hF := hF.below hb3
      replace b2 := b2.trans (hb3.mono b2.size)
      replace hs2 := (hs2.below hb3).more hb3.size
      clear u0 u1 u2 u3 u4 hb3
      go_wp2_with fail
      refine (HT.out _ _).mono ?_
      rintro e w4 ⟨rfl, rfl⟩
      have hAz := hA2
      have bz := b2
      have a0 := hAz.c 0 rfl
      have a1 := hAz.c 1 rfl
      have a2 := hAz.c 2 rfl
      have a3 := hAz.c 3 rfl
      have a4 := hAz.c 4 rfl
      have f0 := hAz.f 0 rfl
      have f1 := hAz.f 1 rfl
      have f2 := hAz.f 2 rfl
      have f3 := hAz.f 3 rfl
      have f4 := hAz.f 4 rfl
      have hP9 := hAz.putL [.int .i64 0, .int .u32 0, .int .i64 0, .int .i64 0, .slice none 0 0] rfl
      have bP := below_putL [.int .i64 0, .int .u32 0, .int .i64 0, .int .i64 0, .slice none 0 0] 0 bz (g := w.heap.size) (Nat.le_refl _)
      simp only [putL, Nat.zero_add, Nat.reduceAdd] at hP9 bP
      go_wp2_with fail
      have z0 := hP9.c 0 rfl
      have z1 := hP9.c 1 rfl
      have z2 := hP9.c 2 rfl
      have z3 := hP9.c 3 rfl
      have z4 := hP9.c 4 rfl
      exact bodyPost_ret (v := .tuple #[.agg #[.int .i64 0, .int .u32 0, .int .i64 0, .int .i64 0, .slice none 0 0], .int .i64 0, .int .i64 0, .int .i64 20]) (by simp [results, Try.results59, go_sem, z0, z1, z2, z3, z4]) rfl ⟨rfl, bP⟩
set_option maxRecDepth 100000 in
set_option maxHeartbeats 6400000 in
set_option linter.unusedVariables false in
theorem Rhead_take (w : World) (A : Option Addr) (n c : Nat) (b : List UInt8) (limit : Int) (hb : Sl w w.heap.size A (bv b)) (h0 : n = b.length) (hc : n ≤ c) (hm : c ≤ maxLen) (he : b.take 2 = ([78, 82] : List UInt8).take b.length) (h9 : 9 ≤ b.length) (hr : rightB b = true) (hc9 : c ≠ 9) (tv tk te : Nat) (ht : takeS (b.drop 9) = (tv, tk, te)) (hte : te ≠ 0) (hfit : heldN limit = heldN limit) :
    Calls Try.prog 59 #[.slice A n c, .int .i64 limit] w (HeadPost w zeroF 0 0 te) := by
  subst h0
  have hA := At.new w 47 #[.int .i64 0, .int .u32 0, .int .i64 0, .int .i64 0, .slice none 0 0]
  have b0 := balloc (Below.refl w.heap.size w) (.cells #[.int .i64 0, .int .u32 0, .int .i64 0, .int .i64 0, .slice none 0 0] 47)
  have hs := (hb.below b0).more b0.size
  obtain ⟨h78, h82⟩ := take2 he
  clear he
  have hcn : ¬ c = 9 := hc9
  have hc9b : 9 ≤ c := by omega
  have htl := takeS_lt (b.drop 9)
  have hle : (takeS (b.drop 9)).2.1 ≤ 10 := by
    by_cases h : (takeS (b.drop 9)).2.2 = 0
    · exact (takeS_ok _ h).2.1
    · rw [(takeS_bad _ h).2]; omega
  rw [ht] at htl hle
  simp only at htl hle
  obtain ⟨hh, hhe⟩ : ∃ hh, heldN limit = hh := ⟨_, rfl⟩
  have hhl : hh ≤ 65536 := by rw [← hhe]; unfold heldN; (repeat' split) <;> omega
  have HH := Lib.hid (fun W => Rheld_any W limit)
  rw [hhe] at HH
  rw [hhe] at hfit
  have HT0 := Lib.hid ht
  clear ht hhe
  have hcl : b.length ≤ c := hc
  have x2l : at_ b 2 < 256 := UInt8.toNat_lt _
  have x7l : at_ b 7 < 256 := UInt8.toNat_lt _
  have x8l : at_ b 8 < 256 := UInt8.toNat_lt _
  have hG : big ((b.drop 3).take 4) = bigF 0 ((b.drop 3).take 4) := by unfold big; rw [List.take_of_length_le (by simp; omega)]
  have hGl : bigF 0 ((b.drop 3).take 4) < 4294967296 := by
    have := bigF_lt ((b.drop 3).take 4) 0
    have hl : ((b.drop 3).take 4).length = 4 := by simp; omega
    rw [hl] at this
    omega
  obtain ⟨y2, hy2⟩ : ∃ y2, at_ b 2 = y2 := ⟨_, rfl⟩
  obtain ⟨y7, hy7⟩ : ∃ y7, at_ b 7 = y7 := ⟨_, rfl⟩
  obtain ⟨y8, hy8⟩ : ∃ y8, at_ b 8 = y8 := ⟨_, rfl⟩
  obtain ⟨gg, hgg⟩ : ∃ gg, bigF 0 ((b.drop 3).take 4) = gg := ⟨_, rfl⟩
  have hfr : hdF b = ⟨(y2 : Int), gg, (y7 : Int), (y8 : Int), []⟩ := by unfold hdF; rw [hy2, hy7, hy8, hgg]
  have hkn : Fr.right ⟨(y2 : Int), gg, (y7 : Int), (y8 : Int), []⟩ = rightB b := by unfold rightB Fr.right; rw [hy2, hy7, hy8]
  have HK := Lib.hid (fun W => Rknown_any W ⟨(y2 : Int), gg, (y7 : Int), (y8 : Int), []⟩ none 0)
  rw [hkn, hr] at HK
  rw [hgg] at hG hGl
  rw [hy2] at x2l
  rw [hy7] at x7l
  rw [hy8] at x8l
  have YY := Lib.hid (And.intro hy2 (And.intro hy7 hy8))
  have HG := Lib.hid hG
  clear hG hgg hkn hy2 hy7 hy8 hb
  have ww0 : IntKind.u32.wrap (gg : Int) = (gg : Int) := by rw [IntKind.wrap_u32]; omega
  have ww2 : IntKind.i64.wrap (y2 : Int) = (y2 : Int) := by rw [IntKind.wrap_i64]; omega
  have ww7 : IntKind.i64.wrap (y7 : Int) = (y7 : Int) := by rw [IntKind.wrap_i64]; omega
  have ww8 : IntKind.i64.wrap (y8 : Int) = (y8 : Int) := by rw [IntKind.wrap_i64]; omega
  have q0 : ((te : Int) != 0) = true := by simp; omega
  go_enter Try.func59, Try.ntmps59
  go_wp2_with fail
  generalize w.alloc (.cells #[.int .i64 0, .int .u32 0, .int .i64 0, .int .i64 0, .slice none 0 0] 47) = w1 at *
  have H78 := Lib.hid (And.intro h78 h82)
  clear h78 h82
  go_loopw [8] (fun x8 wr => (x8 = .int .i64 0 ∨ (x8 = .int .i64 1 ∧ 0 < b.length) ∨ (x8 = .int .i64 2 ∧ 1 < b.length)) ∧ Below w1.heap.size w1 wr) (fun x8 _ => 2 - (intOf x8).toNat)
  case atStart => exact ⟨.inl rfl, Below.refl _ _⟩
  case round =>
    obtain ⟨hx, hbel⟩ := hrel
    have hA1 := hA.below hbel
    have b1 := b0.trans (hbel.mono b0.size)
    have hs1 := (hs.below hbel).more hbel.size
    rcases hx with rfl | ⟨rfl, hl0⟩ | ⟨rfl, hl1⟩
    · have hl : 0 < b.length := by omega
      obtain ⟨bk, o, rfl, _, hbW, hcell⟩ := hs1.at_ (k := 0) (by simpa using hl)
      have d0 := cellB (hcell 0 _ (bv_get b 0 hl))
      try simp only [Nat.add_zero] at d0
      have k0 : (b[0]?.getD 0).toNat = at_ b 0 := rfl
      rw [k0, H78.out.1 hl] at d0
      have hil : (0 : Int) < (b.length : Int) := by omega
      clear hcell k0
      go_wp2_with fail
      refine bstart (by kernel_rfl) ?_
      refine btake 0 (oi := _) (v := ?_) (by simp only [List.getElem?_toArray, List.getElem?_cons_zero]; rfl) (by kernel_rfl) (by exact fun _ _ _ h => h) (by first | assumption | exact KB.refl _) (.inl ⟨by rfl, fun W hW => ?_⟩) ?_; rotate_left
      · (go_simp; first | done | with_reducible rfl)
      try simp only [Act.put, List.setIfInBounds_toArray, List.set_cons_zero, List.set_cons_succ]
      refine btake 1 (oi := _) (v := ?_) (by simp only [List.getElem?_toArray, List.getElem?_cons_succ, List.getElem?_cons_zero]; rfl) (by kernel_rfl) (by exact fun _ _ _ h => h) (by first | assumption | exact KB.refl _) (.inl ⟨by rfl, fun W hW => ?_⟩) ?_; rotate_left
      · (go_simp; first | done | with_reducible rfl)
      try simp only [Act.put, List.setIfInBounds_toArray, List.set_cons_zero, List.set_cons_succ]
      refine btake 2 (oi := _) (v := ?_) (by simp only [List.getElem?_toArray, List.getElem?_cons_succ, List.getElem?_cons_zero]; rfl) (by kernel_rfl) (by exact fun _ _ _ h => h) (by first | assumption | exact KB.refl _) (.inl ⟨by rfl, fun W hW => ?_⟩) ?_; rotate_left
      · (go_simp; first | done | with_reducible rfl)
      try simp only [Act.put, List.setIfInBounds_toArray, List.set_cons_zero, List.set_cons_succ]
      refine btake 3 (oi := _) (v := ?_) (by simp only [List.getElem?_toArray, List.getElem?_cons_succ, List.getElem?_cons_zero]; rfl) (by kernel_rfl) (by exact fun _ _ _ h => h) (by first | assumption | exact KB.refl _) (.inl ⟨by rfl, fun W hW => ?_⟩) ?_; rotate_left
      · (go_simp; first | done | with_reducible rfl)
      try simp only [Act.put, List.setIfInBounds_toArray, List.set_cons_zero, List.set_cons_succ]
      refine btake 4 (oi := _) (v := ?_) (by simp only [List.getElem?_toArray, List.getElem?_cons_succ, List.getElem?_cons_zero]; rfl) (by kernel_rfl) (by exact fun _ _ _ h => h) (by first | assumption | exact KB.refl _) (.inl ⟨by rfl, fun W hW => ?_⟩) ?_; rotate_left
      · (go_simp; first | done | with_reducible rfl)
      try simp only [Act.put, List.setIfInBounds_toArray, List.set_cons_zero, List.set_cons_succ]
      refine btake 5 (oi := _) (v := ?_) (by simp only [List.getElem?_toArray, List.getElem?_cons_succ, List.getElem?_cons_zero]; rfl) (by kernel_rfl) (by exact fun _ _ _ h => h) (by first | assumption | exact KB.refl _) (.inl ⟨by rfl, fun W hW => ?_⟩) ?_; rotate_left
      · go_simp
        show _ = Value.int .u8 78
        rfl
      try simp only [Act.put, List.setIfInBounds_toArray, List.set_cons_zero, List.set_cons_succ]
      refine btake 6 (oi := _) (v := ?_) (by simp only [List.getElem?_toArray, List.getElem?_cons_succ, List.getElem?_cons_zero]; rfl) (by kernel_rfl) (by exact fun _ _ _ h => h) (by first | assumption | exact KB.refl _) (.inl ⟨by rfl, fun W hW => ?_⟩) ?_; rotate_left
      · (go_simp; first | done | with_reducible rfl)
      try simp only [Act.put, List.setIfInBounds_toArray, List.set_cons_zero, List.set_cons_succ]
      refine bdone (by kernel_rfl) ?_
      go_wp2_with fail
      go_roundw
      case rel => exact ⟨.inr (.inl ⟨rfl, hl⟩), hbel.drew⟩
      case measure => simp [intOf]
    · have hl : 1 < b.length := by omega
      obtain ⟨bk, o, rfl, _, hbW, hcell⟩ := hs1.at_ (k := 1) (by simpa using hl)
      have d0 := cellB (hcell 1 _ (bv_get b 1 hl))
      try simp only [Nat.add_zero] at d0
      have k0 : (b[1]?.getD 0).toNat = at_ b 1 := rfl
      rw [k0, H78.out.2 hl] at d0
      have hil : (1 : Int) < (b.length : Int) := by omega
      clear hcell k0
      go_wp2_with fail
      refine bstart (by kernel_rfl) ?_
      refine btake 0 (oi := _) (v := ?_) (by simp only [List.getElem?_toArray, List.getElem?_cons_zero]; rfl) (by kernel_rfl) (by exact fun _ _ _ h => h) (by first | assumption | exact KB.refl _) (.inl ⟨by rfl, fun W hW => ?_⟩) ?_; rotate_left
      · (go_simp; first | done | with_reducible rfl)
      try simp only [Act.put, List.setIfInBounds_toArray, List.set_cons_zero, List.set_cons_succ]
      refine btake 1 (oi := _) (v := ?_) (by simp only [List.getElem?_toArray, List.getElem?_cons_succ, List.getElem?_cons_zero]; rfl) (by kernel_rfl) (by exact fun _ _ _ h => h) (by first | assumption | exact KB.refl _) (.inl ⟨by rfl, fun W hW => ?_⟩) ?_; rotate_left
      · (go_simp; first | done | with_reducible rfl)
      try simp only [Act.put, List.setIfInBounds_toArray, List.set_cons_zero, List.set_cons_succ]
      refine btake 2 (oi := _) (v := ?_) (by simp only [List.getElem?_toArray, List.getElem?_cons_succ, List.getElem?_cons_zero]; rfl) (by kernel_rfl) (by exact fun _ _ _ h => h) (by first | assumption | exact KB.refl _) (.inl ⟨by rfl, fun W hW => ?_⟩) ?_; rotate_left
      · (go_simp; first | done | with_reducible rfl)
      try simp only [Act.put, List.setIfInBounds_toArray, List.set_cons_zero, List.set_cons_succ]
      refine btake 3 (oi := _) (v := ?_) (by simp only [List.getElem?_toArray, List.getElem?_cons_succ, List.getElem?_cons_zero]; rfl) (by kernel_rfl) (by exact fun _ _ _ h => h) (by first | assumption | exact KB.refl _) (.inl ⟨by rfl, fun W hW => ?_⟩) ?_; rotate_left
      · (go_simp; first | done | with_reducible rfl)
      try simp only [Act.put, List.setIfInBounds_toArray, List.set_cons_zero, List.set_cons_succ]
      refine btake 4 (oi := _) (v := ?_) (by simp only [List.getElem?_toArray, List.getElem?_cons_succ, List.getElem?_cons_zero]; rfl) (by kernel_rfl) (by exact fun _ _ _ h => h) (by first | assumption | exact KB.refl _) (.inl ⟨by rfl, fun W hW => ?_⟩) ?_; rotate_left
      · (go_simp; first | done | with_reducible rfl)
      try simp only [Act.put, List.setIfInBounds_toArray, List.set_cons_zero, List.set_cons_succ]
      refine btake 5 (oi := _) (v := ?_) (by simp only [List.getElem?_toArray, List.getElem?_cons_succ, List.getElem?_cons_zero]; rfl) (by kernel_rfl) (by exact fun _ _ _ h => h) (by first | assumption | exact KB.refl _) (.inl ⟨by rfl, fun W hW => ?_⟩) ?_; rotate_left
      · go_simp
        show _ = Value.int .u8 82
        rfl
      try simp only [Act.put, List.setIfInBounds_toArray, List.set_cons_zero, List.set_cons_succ]
      refine btake 6 (oi := _) (v := ?_) (by simp only [List.getElem?_toArray, List.getElem?_cons_succ, List.getElem?_cons_zero]; rfl) (by kernel_rfl) (by exact fun _ _ _ h => h) (by first | assumption | exact KB.refl _) (.inl ⟨by rfl, fun W hW => ?_⟩) ?_; rotate_left
      · (go_simp; first | done | with_reducible rfl)
      try simp only [Act.put, List.setIfInBounds_toArray, List.set_cons_zero, List.set_cons_succ]
      refine bdone (by kernel_rfl) ?_
      go_wp2_with fail
      go_roundw
      case rel => exact ⟨.inr (.inr ⟨rfl, hl⟩), hbel.drew⟩
      case measure => simp [intOf]
    · clear hl1
      obtain ⟨bk, o, rfl, _, hbW, hcell⟩ := hs1.at_ (k := 0) (by simp; omega)
      have h9i : ((b.length : Int) < 9) = False := by simp; omega
      have hs37 : Sl wr wr.heap.size (some ⟨bk, o + 3, none⟩) (bv ((b.drop 3).take 4)) := by
        have := (hs1.cut 3 c (by simpa using hcl)).tk 4
        rw [bv_drop, bv_take, if_neg (by omega), Option.map_some, addN] at this
        exact this
      have d2 := cellB (hcell 2 _ (bv_get b 2 (by omega)))
      have d7 := cellB (hcell 7 _ (bv_get b 7 (by omega)))
      have d8 := cellB (hcell 8 _ (bv_get b 8 (by omega)))
      have k2 : (b[2]?.getD 0).toNat = y2 := YY.out.1
      have k7 : (b[7]?.getD 0).toNat = y7 := YY.out.2.1
      have k8 : (b[8]?.getD 0).toNat = y8 := YY.out.2.2
      rw [k2] at d2
      rw [k7] at d7
      rw [k8] at d8
      have hc3 : ¬ c = 3 := by omega
      have hc7 : 7 ≤ c := by omega
      have HB2 := Lib.hid (fun W (hW : KB wr.heap W) => RefBig_lit W wr.heap.size (some ⟨bk, o + 3, none⟩) 4 (c - 3) ((b.drop 3).take 4) _ (hs37.kb hW) (by simp; omega) (by omega) (by omega) HG.out)
      clear hcell k2 k7 k8 hs37
      have i2 : (2 : Int) < (b.length : Int) := by omega
      have i7 : (7 : Int) < (b.length : Int) := by omega
      have i8 : (8 : Int) < (b.length : Int) := by omega
      have i37 : (7 : Int) ≤ (c : Int) := by omega
      go_wp2_with fail
      have hS0 : KB wr.heap wr.drew := KB.refl wr
      refine bstartH (wr.heap) (by kernel_rfl) ?_
      refine btake 0 (oi := _) (v := ?_) (by simp only [List.getElem?_toArray, List.getElem?_cons_zero]; rfl) (by kernel_rfl) (by exact fun _ _ _ h => h) (by first | assumption | exact KB.refl _) (.inl ⟨by rfl, fun W hW => ?_⟩) ?_; rotate_left
      · (go_simp; first | done | with_reducible rfl)
      try simp only [Act.put, List.setIfInBounds_toArray, List.set_cons_zero, List.set_cons_succ]
      refine btake 1 (oi := _) (v := ?_) (by simp only [List.getElem?_toArray, List.getElem?_cons_succ, List.getElem?_cons_zero]; rfl) (by kernel_rfl) (by exact fun _ _ _ h => h) (by first | assumption | exact KB.refl _) (.inl ⟨by rfl, fun W hW => ?_⟩) ?_; rotate_left
      · (go_simp; first | done | with_reducible rfl)
      try simp only [Act.put, List.setIfInBounds_toArray, List.set_cons_zero, List.set_cons_succ]
      refine btake 2 (oi := _) (v := ?_) (by simp only [List.getElem?_toArray, List.getElem?_cons_succ, List.getElem?_cons_zero]; rfl) (by kernel_rfl) (by exact fun _ _ _ h => h) (by first | assumption | exact KB.refl _) (.inl ⟨by rfl, fun W hW => ?_⟩) ?_; rotate_left
      · (go_simp; first | done | with_reducible rfl)
      try simp only [Act.put, List.setIfInBounds_toArray, List.set_cons_zero, List.set_cons_succ]
      refine btake 3 (oi := _) (v := ?_) (by simp only [List.getElem?_toArray, List.getElem?_cons_succ, List.getElem?_cons_zero]; rfl) (by kernel_rfl) (by exact fun _ _ _ h => h) (by first | assumption | exact KB.refl _) (.inl ⟨by rfl, fun W hW => ?_⟩) ?_; rotate_left
      · (go_simp; first | done | with_reducible rfl)
      try simp only [Act.put, List.setIfInBounds_toArray, List.set_cons_zero, List.set_cons_succ]
      refine btake 4 (oi := _) (v := ?_) (by simp only [List.getElem?_toArray, List.getElem?_cons_succ, List.getElem?_cons_zero]; rfl) (by kernel_rfl) (by exact fun _ _ _ h => h) (by first | assumption | exact KB.refl _) (.inl ⟨by rfl, fun W hW => ?_⟩) ?_; rotate_left
      · (go_simp; first | done | with_reducible rfl)
      try simp only [Act.put, List.setIfInBounds_toArray, List.set_cons_zero, List.set_cons_succ]
      refine btake 5 (oi := _) (v := ?_) (by simp only [List.getElem?_toArray, List.getElem?_cons_succ, List.getElem?_cons_zero]; rfl) (by kernel_rfl) (by exact fun _ _ _ h => h) (by first | assumption | exact KB.refl _) (.inl ⟨by rfl, fun W hW => ?_⟩) ?_; rotate_left
      · (go_simp; first | done | with_reducible rfl)
      try simp only [Act.put, List.setIfInBounds_toArray, List.set_cons_zero, List.set_cons_succ]
      -- 6: newsreel/newsreelref1.Big
      refine bquiet 6 (oi := _) ?_ (by simp only [List.getElem?_toArray, List.getElem?_cons_succ, List.getElem?_cons_zero]; rfl) (by kernel_rfl) (by exact fun _ _ _ h => h) (by first | assumption | exact KB.refl _) (by rfl) (fun W hW => by go_simp; first | done | exact ⟨rfl, rfl⟩ | rfl) (fun W hW => ?_) ?_; rotate_left
      · exact HB2.out W hW
      try simp only [Act.put, List.setIfInBounds_toArray, List.set_cons_zero, List.set_cons_succ]
      refine btake 7 (oi := _) (v := ?_) (by simp only [List.getElem?_toArray, List.getElem?_cons_succ, List.getElem?_cons_zero]; rfl) (by kernel_rfl) (by exact fun _ _ _ h => h) (by first | assumption | exact KB.refl _) (.inl ⟨by rfl, fun W hW => ?_⟩) ?_; rotate_left
      · (go_simp; first | done | with_reducible rfl)
      try simp only [Act.put, List.setIfInBounds_toArray, List.set_cons_zero, List.set_cons_succ]
      refine btake 8 (oi := _) (v := ?_) (by simp only [List.getElem?_toArray, List.getElem?_cons_succ, List.getElem?_cons_zero]; rfl) (by kernel_rfl) (by exact fun _ _ _ h => h) (by first | assumption | exact KB.refl _) (.inl ⟨by rfl, fun W hW => ?_⟩) ?_; rotate_left
      · (go_simp; first | done | with_reducible rfl)
      try simp only [Act.put, List.setIfInBounds_toArray, List.set_cons_zero, List.set_cons_succ]
      refine btake 9 (oi := _) (v := ?_) (by simp only [List.getElem?_toArray, List.getElem?_cons_succ, List.getElem?_cons_zero]; rfl) (by kernel_rfl) (by exact fun _ _ _ h => h) (by first | assumption | exact KB.refl _) (.inl ⟨by rfl, fun W hW => ?_⟩) ?_; rotate_left
      · (go_simp; first | done | with_reducible rfl)
      try simp only [Act.put, List.setIfInBounds_toArray, List.set_cons_zero, List.set_cons_succ]
      refine btake 10 (oi := _) (v := ?_) (by simp only [List.getElem?_toArray, List.getElem?_cons_succ, List.getElem?_cons_zero]; rfl) (by kernel_rfl) (by exact fun _ _ _ h => h) (by first | assumption | exact KB.refl _) (.inl ⟨by rfl, fun W hW => ?_⟩) ?_; rotate_left
      · (go_simp; first | done | with_reducible rfl)
      try simp only [Act.put, List.setIfInBounds_toArray, List.set_cons_zero, List.set_cons_succ]
      refine btake 11 (oi := _) (v := ?_) (by simp only [List.getElem?_toArray, List.getElem?_cons_succ, List.getElem?_cons_zero]; rfl) (by kernel_rfl) (by exact fun _ _ _ h => h) (by first | assumption | exact KB.refl _) (.inl ⟨by rfl, fun W hW => ?_⟩) ?_; rotate_left
      · (go_simp; first | done | with_reducible rfl)
      try simp only [Act.put, List.setIfInBounds_toArray, List.set_cons_zero, List.set_cons_succ]
      refine btake 12 (oi := _) (v := ?_) (by simp only [List.getElem?_toArray, List.getElem?_cons_succ, List.getElem?_cons_zero]; rfl) (by kernel_rfl) (by exact fun _ _ _ h => h) (by first | assumption | exact KB.refl _) (.inl ⟨by rfl, fun W hW => ?_⟩) ?_; rotate_left
      · (go_simp; first | done | with_reducible rfl)
      try simp only [Act.put, List.setIfInBounds_toArray, List.set_cons_zero, List.set_cons_succ]
      refine btake 13 (oi := _) (v := ?_) (by simp only [List.getElem?_toArray, List.getElem?_cons_succ, List.getElem?_cons_zero]; rfl) (by kernel_rfl) (by exact fun _ _ _ h => h) (by first | assumption | exact KB.refl _) (.inl ⟨by rfl, fun W hW => ?_⟩) ?_; rotate_left
      · (go_simp; first | done | with_reducible rfl)
      try simp only [Act.put, List.setIfInBounds_toArray, List.set_cons_zero, List.set_cons_succ]
      refine btake 14 (oi := _) (v := ?_) (by simp only [List.getElem?_toArray, List.getElem?_cons_succ, List.getElem?_cons_zero]; rfl) (by kernel_rfl) (by exact fun _ _ _ h => h) (by first | assumption | exact KB.refl _) (.inl ⟨by rfl, fun W hW => ?_⟩) ?_; rotate_left
      · (go_simp; first | done | with_reducible rfl)
      try simp only [Act.put, List.setIfInBounds_toArray, List.set_cons_zero, List.set_cons_succ]
      refine btake 15 (oi := _) (v := ?_) (by simp only [List.getElem?_toArray, List.getElem?_cons_succ, List.getElem?_cons_zero]; rfl) (by kernel_rfl) (by exact fun _ _ _ h => h) (by first | assumption | exact KB.refl _) (.inl ⟨by rfl, fun W hW => ?_⟩) ?_; rotate_left
      · (go_simp; first | done | with_reducible rfl)
      try simp only [Act.put, List.setIfInBounds_toArray, List.set_cons_zero, List.set_cons_succ]
      refine btake 16 (oi := _) (v := ?_) (by simp only [List.getElem?_toArray, List.getElem?_cons_succ, List.getElem?_cons_zero]; rfl) (by kernel_rfl) (by exact fun _ _ _ h => h) (by first | assumption | exact KB.refl _) (.inl ⟨by rfl, fun W hW => ?_⟩) ?_; rotate_left
      · (go_simp; first | done | with_reducible rfl)
      try simp only [Act.put, List.setIfInBounds_toArray, List.set_cons_zero, List.set_cons_succ]
      -- 17: Op.alloc 47
      refine bopH 17 (o := _) (by simp only [List.getElem?_toArray, List.getElem?_cons_succ, List.getElem?_cons_zero]; rfl) (by kernel_rfl) (by first | assumption | exact KB.refl _) (by rfl) (fun K hK => ?_)
      go_simp
      have hkb : KB wr.heap (wr.alloc (.cells #[.int .i64 0, .int .u32 0, .int .i64 0, .int .i64 0, .slice none 0 0] 47)).drew := KB.alloc wr _
      refine hK.out _ _ hkb ?_; clear hK K
      try simp only [Act.put, List.setIfInBounds_toArray, List.set_cons_zero, List.set_cons_succ]
      -- 18: Op.store 47 (Operand.tmp 9) (Operand.tmp 51)
      refine bopH 18 (o := _) (by simp only [List.getElem?_toArray, List.getElem?_cons_succ, List.getElem?_cons_zero]; rfl) (by kernel_rfl) (by first | assumption | exact KB.refl _) (by rfl) (fun K hK => ?_)
      go_simp
      have hkb : KB wr.heap (wr.alloc (.cells #[.int .i64 (y2 : Int), .int .u32 (gg : Int), .int .i64 (y7 : Int), .int .i64 (y8 : Int), .slice none 0 0] 47)).drew := KB.alloc wr _
      refine hK.out _ _ hkb ?_; clear hK K
      try simp only [Act.put, List.setIfInBounds_toArray, List.set_cons_zero, List.set_cons_succ]
      refine bdone (by kernel_rfl) ?_
      have hF := (At.new wr 47 #[.int .i64 (y2 : Int), .int .u32 (gg : Int), .int .i64 (y7 : Int), .int .i64 (y8 : Int), .slice none 0 0]).drew
      have hA2 := (hA1.alloc (.cells #[.int .i64 (y2 : Int), .int .u32 (gg : Int), .int .i64 (y7 : Int), .int .i64 (y8 : Int), .slice none 0 0] 47)).drew
      have b2 := (b1.alloc b1.size (.cells #[.int .i64 (y2 : Int), .int .u32 (gg : Int), .int .i64 (y7 : Int), .int .i64 (y8 : Int), .slice none 0 0] 47)).drew
      have hs2 : Sl (wr.alloc (.cells #[.int .i64 (y2 : Int), .int .u32 (gg : Int), .int .i64 (y7 : Int), .int .i64 (y8 : Int), .slice none 0 0] 47)).drew (wr.alloc (.cells #[.int .i64 (y2 : Int), .int .u32 (gg : Int), .int .i64 (y7 : Int), .int .i64 (y8 : Int), .slice none 0 0] 47)).drew.heap.size (some ⟨bk, o, none⟩) (bv b) := (hs1.alloc _).more (by show wr.heap.size ≤ (wr.alloc _).heap.size; simp)
      have hFw : wr.heap.size ≠ w.heap.size := by have := hA1.lt; omega
      clear d2 d7 d8 hkb hS0 i2 i7 i8 i37 HB2 h9i
      generalize (wr.alloc (.cells #[.int .i64 (y2 : Int), .int .u32 (gg : Int), .int .i64 (y7 : Int), .int .i64 (y8 : Int), .slice none 0 0] 47)).drew = w2 at *
      generalize wr.heap.size = gF at *
      clear hs1 hA1 b1
      have u0 := hF.c 0 rfl
      have u1 := hF.c 1 rfl
      have u2 := hF.c 2 rfl
      have u3 := hF.c 3 rfl
      have u4 := hF.c 4 rfl
      go_wp2_with fail
      refine (HK.out w2).mono ?_
      rintro e w3 ⟨rfl, hb3⟩
      replace hA2 := hA2.below hb3
      replace hF := hF.below hb3
      replace b2 := b2.trans (hb3.mono b2.size)
      replace hs2 := (hs2.below hb3).more hb3.size
      clear u0 u1 u2 u3 u4 hb3
      have HT := Lib.hid (RTake_tup w3 w3.heap.size (some ⟨bk, o + 9, none⟩) (b.length - 9) (c - 9) (b.drop 9) tv tk te (by have := hs2.cut 9 c (by simpa using hcl); rw [bv_drop, if_neg hcn, Option.map_some, addN] at this; exact this) (by simp) (by omega) (by omega) HT0.out)
      go_wp2_with fail
      refine HT.out.mono ?_
      rintro e w4 ⟨rfl, rfl⟩
      have hAz := hA2
      have bz := b2
      have a0 := hAz.c 0 rfl
      have a1 := hAz.c 1 rfl
      have a2 := hAz.c 2 rfl
      have a3 := hAz.c 3 rfl
      have a4 := hAz.c 4 rfl
      have f0 := hAz.f 0 rfl
      have f1 := hAz.f 1 rfl
      have f2 := hAz.f 2 rfl
      have f3 := hAz.f 3 rfl
      have f4 := hAz.f 4 rfl
      have hP9 := hAz.putL [.int .i64 0, .int .u32 0, .int .i64 0, .int .i64 0, .slice none 0 0] rfl
      have bP := below_putL [.int .i64 0, .int .u32 0, .int .i64 0, .int .i64 0, .slice none 0 0] 0 bz (g := w.heap.size) (Nat.le_refl _)
      simp only [putL, Nat.zero_add, Nat.reduceAdd] at hP9 bP
      go_wp2_with fail
      have z0 := hP9.c 0 rfl
      have z1 := hP9.c 1 rfl
      have z2 := hP9.c 2 rfl
      have z3 := hP9.c 3 rfl
      have z4 := hP9.c 4 rfl
      exact bodyPost_ret (v := .tuple #[.agg #[.int .i64 0, .int .u32 0, .int .i64 0, .int .i64 0, .slice none 0 0], .int .i64 0, .int .i64 0, .int .i64 (te : Int)]) (by simp [results, Try.results59, go_sem, z0, z1, z2, z3, z4]) rfl ⟨rfl, bP⟩
set_option maxRecDepth 100000 in
set_option maxHeartbeats 6400000 in
theorem Rhead_much (w : World) (A : Option Addr) (n c : Nat) (b : List UInt8) (limit : Int) (hb : Sl w w.heap.size A (bv b)) (h0 : n = b.length) (hc : n ≤ c) (hm : c ≤ maxLen) (he : b.take 2 = ([78, 82] : List UInt8).take b.length) (h9 : 9 ≤ b.length) (hr : rightB b = true) (hc9 : c ≠ 9) (tv tk te : Nat) (ht : takeS (b.drop 9) = (tv, tk, te)) (hte : te = 0) (hfit : 65536 < tv ∧ heldN limit = heldN limit) :
    Calls Try.prog 59 #[.slice A n c, .int .i64 limit] w (HeadPost w zeroF 0 0 23) := by
  subst h0
  have hA := At.new w 47 #[.int .i64 0, .int .u32 0, .int .i64 0, .int .i64 0, .slice none 0 0]
  have b0 := balloc (Below.refl w.heap.size w) (.cells #[.int .i64 0, .int .u32 0, .int .i64 0, .int .i64 0, .slice none 0 0] 47)
  have hs := (hb.below b0).more b0.size
  obtain ⟨h78, h82⟩ := take2 he
  clear he
  have hcn : ¬ c = 9 := hc9
  have hc9b : 9 ≤ c := by omega
  have htl := takeS_lt (b.drop 9)
  have hle : (takeS (b.drop 9)).2.1 ≤ 10 := by
    by_cases h : (takeS (b.drop 9)).2.2 = 0
    · exact (takeS_ok _ h).2.1
    · rw [(takeS_bad _ h).2]; omega
  rw [ht] at htl hle
  simp only at htl hle
  obtain ⟨hh, hhe⟩ : ∃ hh, heldN limit = hh := ⟨_, rfl⟩
  have hhl : hh ≤ 65536 := by rw [← hhe]; unfold heldN; (repeat' split) <;> omega
  have HH := Lib.hid (fun W => Rheld_any W limit)
  rw [hhe] at HH
  rw [hhe] at hfit
  have HT0 := Lib.hid ht
  clear ht hhe
  have hcl : b.length ≤ c := hc
  have x2l : at_ b 2 < 256 := UInt8.toNat_lt _
  have x7l : at_ b 7 < 256 := UInt8.toNat_lt _
  have x8l : at_ b 8 < 256 := UInt8.toNat_lt _
  have hG : big ((b.drop 3).take 4) = bigF 0 ((b.drop 3).take 4) := by unfold big; rw [List.take_of_length_le (by simp; omega)]
  have hGl : bigF 0 ((b.drop 3).take 4) < 4294967296 := by
    have := bigF_lt ((b.drop 3).take 4) 0
    have hl : ((b.drop 3).take 4).length = 4 := by simp; omega
    rw [hl] at this
    omega
  obtain ⟨y2, hy2⟩ : ∃ y2, at_ b 2 = y2 := ⟨_, rfl⟩
  obtain ⟨y7, hy7⟩ : ∃ y7, at_ b 7 = y7 := ⟨_, rfl⟩
  obtain ⟨y8, hy8⟩ : ∃ y8, at_ b 8 = y8 := ⟨_, rfl⟩
  obtain ⟨gg, hgg⟩ : ∃ gg, bigF 0 ((b.drop 3).take 4) = gg := ⟨_, rfl⟩
  have hfr : hdF b = ⟨(y2 : Int), gg, (y7 : Int), (y8 : Int), []⟩ := by unfold hdF; rw [hy2, hy7, hy8, hgg]
  have hkn : Fr.right ⟨(y2 : Int), gg, (y7 : Int), (y8 : Int), []⟩ = rightB b := by unfold rightB Fr.right; rw [hy2, hy7, hy8]
  have HK := Lib.hid (fun W => Rknown_any W ⟨(y2 : Int), gg, (y7 : Int), (y8 : Int), []⟩ none 0)
  rw [hkn, hr] at HK
  rw [hgg] at hG hGl
  rw [hy2] at x2l
  rw [hy7] at x7l
  rw [hy8] at x8l
  have YY := Lib.hid (And.intro hy2 (And.intro hy7 hy8))
  have HG := Lib.hid hG
  clear hG hgg hkn hy2 hy7 hy8 hb
  have ww0 : IntKind.u32.wrap (gg : Int) = (gg : Int) := by rw [IntKind.wrap_u32]; omega
  have ww2 : IntKind.i64.wrap (y2 : Int) = (y2 : Int) := by rw [IntKind.wrap_i64]; omega
  have ww7 : IntKind.i64.wrap (y7 : Int) = (y7 : Int) := by rw [IntKind.wrap_i64]; omega
  have ww8 : IntKind.i64.wrap (y8 : Int) = (y8 : Int) := by rw [IntKind.wrap_i64]; omega
  subst hte
  have q1 : decide (65536 < (tv : Int)) = true := by rw [decide_eq_true_eq]; omega
  go_enter Try.func59, Try.ntmps59
  go_wp2_with fail
  generalize w.alloc (.cells #[.int .i64 0, .int .u32 0, .int .i64 0, .int .i64 0, .slice none 0 0] 47) = w1 at *
  have H78 := Lib.hid (And.intro h78 h82)
  clear h78 h82
  go_loopw [8] (fun x8 wr => (x8 = .int .i64 0 ∨ (x8 = .int .i64 1 ∧ 0 < b.length) ∨ (x8 = .int .i64 2 ∧ 1 < b.length)) ∧ Below w1.heap.size w1 wr) (fun x8 _ => 2 - (intOf x8).toNat)
  case atStart => exact ⟨.inl rfl, Below.refl _ _⟩
  case round =>
    obtain ⟨hx, hbel⟩ := hrel
    have hA1 := hA.below hbel
    have b1 := b0.trans (hbel.mono b0.size)
    have hs1 := (hs.below hbel).more hbel.size
    rcases hx with rfl | ⟨rfl, hl0⟩ | ⟨rfl, hl1⟩
    · have hl : 0 < b.length := by omega
      obtain ⟨bk, o, rfl, _, hbW, hcell⟩ := hs1.at_ (k := 0) (by simpa using hl)
      have d0 := cellB (hcell 0 _ (bv_get b 0 hl))
      try simp only [Nat.add_zero] at d0
      have k0 : (b[0]?.getD 0).toNat = at_ b 0 := rfl
      rw [k0, H78.out.1 hl] at d0
      have hil : (0 : Int) < (b.length : Int) := by omega
      clear hcell k0
      go_wp2_with fail
      refine bstart (by kernel_rfl) ?_
      refine btake 0 (oi := _) (v := ?_) (by simp only [List.getElem?_toArray, List.getElem?_cons_zero]; rfl) (by kernel_rfl) (by exact fun _ _ _ h => h) (by first | assumption | exact KB.refl _) (.inl ⟨by rfl, fun W hW => ?_⟩) ?_; rotate_left
      · (go_simp; first | done | with_reducible rfl)
      try simp only [Act.put, List.setIfInBounds_toArray, List.set_cons_zero, List.set_cons_succ]
      refine btake 1 (oi := _) (v := ?_) (by simp only [List.getElem?_toArray, List.getElem?_cons_succ, List.getElem?_cons_zero]; rfl) (by kernel_rfl) (by exact fun _ _ _ h => h) (by first | assumption | exact KB.refl _) (.inl ⟨by rfl, fun W hW => ?_⟩) ?_; rotate_left
      · (go_simp; first | done | with_reducible rfl)
      try simp only [Act.put, List.setIfInBounds_toArray, List.set_cons_zero, List.set_cons_succ]
      refine btake 2 (oi := _) (v := ?_) (by simp only [List.getElem?_toArray, List.getElem?_cons_succ, List.getElem?_cons_zero]; rfl) (by kernel_rfl) (by exact fun _ _ _ h => h) (by first | assumption | exact KB.refl _) (.inl ⟨by rfl, fun W hW => ?_⟩) ?_; rotate_left
      · (go_simp; first | done | with_reducible rfl)
      try simp only [Act.put, List.setIfInBounds_toArray, List.set_cons_zero, List.set_cons_succ]
      refine btake 3 (oi := _) (v := ?_) (by simp only [List.getElem?_toArray, List.getElem?_cons_succ, List.getElem?_cons_zero]; rfl) (by kernel_rfl) (by exact fun _ _ _ h => h) (by first | assumption | exact KB.refl _) (.inl ⟨by rfl, fun W hW => ?_⟩) ?_; rotate_left
      · (go_simp; first | done | with_reducible rfl)
      try simp only [Act.put, List.setIfInBounds_toArray, List.set_cons_zero, List.set_cons_succ]
      refine btake 4 (oi := _) (v := ?_) (by simp only [List.getElem?_toArray, List.getElem?_cons_succ, List.getElem?_cons_zero]; rfl) (by kernel_rfl) (by exact fun _ _ _ h => h) (by first | assumption | exact KB.refl _) (.inl ⟨by rfl, fun W hW => ?_⟩) ?_; rotate_left
      · (go_simp; first | done | with_reducible rfl)
      try simp only [Act.put, List.setIfInBounds_toArray, List.set_cons_zero, List.set_cons_succ]
      refine btake 5 (oi := _) (v := ?_) (by simp only [List.getElem?_toArray, List.getElem?_cons_succ, List.getElem?_cons_zero]; rfl) (by kernel_rfl) (by exact fun _ _ _ h => h) (by first | assumption | exact KB.refl _) (.inl ⟨by rfl, fun W hW => ?_⟩) ?_; rotate_left
      · go_simp
        show _ = Value.int .u8 78
        rfl
      try simp only [Act.put, List.setIfInBounds_toArray, List.set_cons_zero, List.set_cons_succ]
      refine btake 6 (oi := _) (v := ?_) (by simp only [List.getElem?_toArray, List.getElem?_cons_succ, List.getElem?_cons_zero]; rfl) (by kernel_rfl) (by exact fun _ _ _ h => h) (by first | assumption | exact KB.refl _) (.inl ⟨by rfl, fun W hW => ?_⟩) ?_; rotate_left
      · (go_simp; first | done | with_reducible rfl)
      try simp only [Act.put, List.setIfInBounds_toArray, List.set_cons_zero, List.set_cons_succ]
      refine bdone (by kernel_rfl) ?_
      go_wp2_with fail
      go_roundw
      case rel => exact ⟨.inr (.inl ⟨rfl, hl⟩), hbel.drew⟩
      case measure => simp [intOf]
    · have hl : 1 < b.length := by omega
      obtain ⟨bk, o, rfl, _, hbW, hcell⟩ := hs1.at_ (k := 1) (by simpa using hl)
      have d0 := cellB (hcell 1 _ (bv_get b 1 hl))
      try simp only [Nat.add_zero] at d0
      have k0 : (b[1]?.getD 0).toNat = at_ b 1 := rfl
      rw [k0, H78.out.2 hl] at d0
      have hil : (1 : Int) < (b.length : Int) := by omega
      clear hcell k0
      go_wp2_with fail
      refine bstart (by kernel_rfl) ?_
      refine btake 0 (oi := _) (v := ?_) (by simp only [List.getElem?_toArray, List.getElem?_cons_zero]; rfl) (by kernel_rfl) (by exact fun _ _ _ h => h) (by first | assumption | exact KB.refl _) (.inl ⟨by rfl, fun W hW => ?_⟩) ?_; rotate_left
      · (go_simp; first | done | with_reducible rfl)
      try simp only [Act.put, List.setIfInBounds_toArray, List.set_cons_zero, List.set_cons_succ]
      refine btake 1 (oi := _) (v := ?_) (by simp only [List.getElem?_toArray, List.getElem?_cons_succ, List.getElem?_cons_zero]; rfl) (by kernel_rfl) (by exact fun _ _ _ h => h) (by first | assumption | exact KB.refl _) (.inl ⟨by rfl, fun W hW => ?_⟩) ?_; rotate_left
      · (go_simp; first | done | with_reducible rfl)
      try simp only [Act.put, List.setIfInBounds_toArray, List.set_cons_zero, List.set_cons_succ]
      refine btake 2 (oi := _) (v := ?_) (by simp only [List.getElem?_toArray, List.getElem?_cons_succ, List.getElem?_cons_zero]; rfl) (by kernel_rfl) (by exact fun _ _ _ h => h) (by first | assumption | exact KB.refl _) (.inl ⟨by rfl, fun W hW => ?_⟩) ?_; rotate_left
      · (go_simp; first | done | with_reducible rfl)
      try simp only [Act.put, List.setIfInBounds_toArray, List.set_cons_zero, List.set_cons_succ]
      refine btake 3 (oi := _) (v := ?_) (by simp only [List.getElem?_toArray, List.getElem?_cons_succ, List.getElem?_cons_zero]; rfl) (by kernel_rfl) (by exact fun _ _ _ h => h) (by first | assumption | exact KB.refl _) (.inl ⟨by rfl, fun W hW => ?_⟩) ?_; rotate_left
      · (go_simp; first | done | with_reducible rfl)
      try simp only [Act.put, List.setIfInBounds_toArray, List.set_cons_zero, List.set_cons_succ]
      refine btake 4 (oi := _) (v := ?_) (by simp only [List.getElem?_toArray, List.getElem?_cons_succ, List.getElem?_cons_zero]; rfl) (by kernel_rfl) (by exact fun _ _ _ h => h) (by first | assumption | exact KB.refl _) (.inl ⟨by rfl, fun W hW => ?_⟩) ?_; rotate_left
      · (go_simp; first | done | with_reducible rfl)
      try simp only [Act.put, List.setIfInBounds_toArray, List.set_cons_zero, List.set_cons_succ]
      refine btake 5 (oi := _) (v := ?_) (by simp only [List.getElem?_toArray, List.getElem?_cons_succ, List.getElem?_cons_zero]; rfl) (by kernel_rfl) (by exact fun _ _ _ h => h) (by first | assumption | exact KB.refl _) (.inl ⟨by rfl, fun W hW => ?_⟩) ?_; rotate_left
      · go_simp
        show _ = Value.int .u8 82
        rfl
      try simp only [Act.put, List.setIfInBounds_toArray, List.set_cons_zero, List.set_cons_succ]
      refine btake 6 (oi := _) (v := ?_) (by simp only [List.getElem?_toArray, List.getElem?_cons_succ, List.getElem?_cons_zero]; rfl) (by kernel_rfl) (by exact fun _ _ _ h => h) (by first | assumption | exact KB.refl _) (.inl ⟨by rfl, fun W hW => ?_⟩) ?_; rotate_left
      · (go_simp; first | done | with_reducible rfl)
      try simp only [Act.put, List.setIfInBounds_toArray, List.set_cons_zero, List.set_cons_succ]
      refine bdone (by kernel_rfl) ?_
      go_wp2_with fail
      go_roundw
      case rel => exact ⟨.inr (.inr ⟨rfl, hl⟩), hbel.drew⟩
      case measure => simp [intOf]
    · clear hl1
      obtain ⟨bk, o, rfl, _, hbW, hcell⟩ := hs1.at_ (k := 0) (by simp; omega)
      have h9i : ((b.length : Int) < 9) = False := by simp; omega
      have hs37 : Sl wr wr.heap.size (some ⟨bk, o + 3, none⟩) (bv ((b.drop 3).take 4)) := by
        have := (hs1.cut 3 c (by simpa using hcl)).tk 4
        rw [bv_drop, bv_take, if_neg (by omega), Option.map_some, addN] at this
        exact this
      have d2 := cellB (hcell 2 _ (bv_get b 2 (by omega)))
      have d7 := cellB (hcell 7 _ (bv_get b 7 (by omega)))
      have d8 := cellB (hcell 8 _ (bv_get b 8 (by omega)))
      have k2 : (b[2]?.getD 0).toNat = y2 := YY.out.1
      have k7 : (b[7]?.getD 0).toNat = y7 := YY.out.2.1
      have k8 : (b[8]?.getD 0).toNat = y8 := YY.out.2.2
      rw [k2] at d2
      rw [k7] at d7
      rw [k8] at d8
      have hc3 : ¬ c = 3 := by omega
      have hc7 : 7 ≤ c := by omega
      have HB2 := Lib.hid (fun W (hW : KB wr.heap W) => RefBig_lit W wr.heap.size (some ⟨bk, o + 3, none⟩) 4 (c - 3) ((b.drop 3).take 4) _ (hs37.kb hW) (by simp; omega) (by omega) (by omega) HG.out)
      clear hcell k2 k7 k8 hs37
      have i2 : (2 : Int) < (b.length : Int) := by omega
      have i7 : (7 : Int) < (b.length : Int) := by omega
      have i8 : (8 : Int) < (b.length : Int) := by omega
      have i37 : (7 : Int) ≤ (c : Int) := by omega
      go_wp2_with fail
      have hS0 : KB wr.heap wr.drew := KB.refl wr
      refine bstartH (wr.heap) (by kernel_rfl) ?_
      refine btake 0 (oi := _) (v := ?_) (by simp only [List.getElem?_toArray, List.getElem?_cons_zero]; rfl) (by kernel_rfl) (by exact fun _ _ _ h => h) (by first | assumption | exact KB.refl _) (.inl ⟨by rfl, fun W hW => ?_⟩) ?_; rotate_left
      · (go_simp; first | done | with_reducible rfl)
      try simp only [Act.put, List.setIfInBounds_toArray, List.set_cons_zero, List.set_cons_succ]
      refine btake 1 (oi := _) (v := ?_) (by simp only [List.getElem?_toArray, List.getElem?_cons_succ, List.getElem?_cons_zero]; rfl) (by kernel_rfl) (by exact fun _ _ _ h => h) (by first | assumption | exact KB.refl _) (.inl ⟨by rfl, fun W hW => ?_⟩) ?_; rotate_left
      · (go_simp; first | done | with_reducible rfl)
      try simp only [Act.put, List.setIfInBounds_toArray, List.set_cons_zero, List.set_cons_succ]
      refine btake 2 (oi := _) (v := ?_) (by simp only [List.getElem?_toArray, List.getElem?_cons_succ, List.getElem?_cons_zero]; rfl) (by kernel_rfl) (by exact fun _ _ _ h => h) (by first | assumption | exact KB.refl _) (.inl ⟨by rfl, fun W hW => ?_⟩) ?_; rotate_left
      · (go_simp; first | done | with_reducible rfl)
      try simp only [Act.put, List.setIfInBounds_toArray, List.set_cons_zero, List.set_cons_succ]
      refine btake 3 (oi := _) (v := ?_) (by simp only [List.getElem?_toArray, List.getElem?_cons_succ, List.getElem?_cons_zero]; rfl) (by kernel_rfl) (by exact fun _ _ _ h => h) (by first | assumption | exact KB.refl _) (.inl ⟨by rfl, fun W hW => ?_⟩) ?_; rotate_left
      · (go_simp; first | done | with_reducible rfl)
      try simp only [Act.put, List.setIfInBounds_toArray, List.set_cons_zero, List.set_cons_succ]
      refine btake 4 (oi := _) (v := ?_) (by simp only [List.getElem?_toArray, List.getElem?_cons_succ, List.getElem?_cons_zero]; rfl) (by kernel_rfl) (by exact fun _ _ _ h => h) (by first | assumption | exact KB.refl _) (.inl ⟨by rfl, fun W hW => ?_⟩) ?_; rotate_left
      · (go_simp; first | done | with_reducible rfl)
      try simp only [Act.put, List.setIfInBounds_toArray, List.set_cons_zero, List.set_cons_succ]
      refine btake 5 (oi := _) (v := ?_) (by simp only [List.getElem?_toArray, List.getElem?_cons_succ, List.getElem?_cons_zero]; rfl) (by kernel_rfl) (by exact fun _ _ _ h => h) (by first | assumption | exact KB.refl _) (.inl ⟨by rfl, fun W hW => ?_⟩) ?_; rotate_left
      · (go_simp; first | done | with_reducible rfl)
      try simp only [Act.put, List.setIfInBounds_toArray, List.set_cons_zero, List.set_cons_succ]
      -- 6: newsreel/newsreelref1.Big
      refine bquiet 6 (oi := _) ?_ (by simp only [List.getElem?_toArray, List.getElem?_cons_succ, List.getElem?_cons_zero]; rfl) (by kernel_rfl) (by exact fun _ _ _ h => h) (by first | assumption | exact KB.refl _) (by rfl) (fun W hW => by go_simp; first | done | exact ⟨rfl, rfl⟩ | rfl) (fun W hW => ?_) ?_; rotate_left
      · exact HB2.out W hW
      try simp only [Act.put, List.setIfInBounds_toArray, List.set_cons_zero, List.set_cons_succ]
      refine btake 7 (oi := _) (v := ?_) (by simp only [List.getElem?_toArray, List.getElem?_cons_succ, List.getElem?_cons_zero]; rfl) (by kernel_rfl) (by exact fun _ _ _ h => h) (by first | assumption | exact KB.refl _) (.inl ⟨by rfl, fun W hW => ?_⟩) ?_; rotate_left
      · (go_simp; first | done | with_reducible rfl)
      try simp only [Act.put, List.setIfInBounds_toArray, List.set_cons_zero, List.set_cons_succ]
      refine btake 8 (oi := _) (v := ?_) (by simp only [List.getElem?_toArray, List.getElem?_cons_succ, List.getElem?_cons_zero]; rfl) (by kernel_rfl) (by exact fun _ _ _ h => h) (by first | assumption | exact KB.refl _) (.inl ⟨by rfl, fun W hW => ?_⟩) ?_; rotate_left
      · (go_simp; first | done | with_reducible rfl)
      try simp only [Act.put, List.setIfInBounds_toArray, List.set_cons_zero, List.set_cons_succ]
      refine btake 9 (oi := _) (v := ?_) (by simp only [List.getElem?_toArray, List.getElem?_cons_succ, List.getElem?_cons_zero]; rfl) (by kernel_rfl) (by exact fun _ _ _ h => h) (by first | assumption | exact KB.refl _) (.inl ⟨by rfl, fun W hW => ?_⟩) ?_; rotate_left
      · (go_simp; first | done | with_reducible rfl)
      try simp only [Act.put, List.setIfInBounds_toArray, List.set_cons_zero, List.set_cons_succ]
      refine btake 10 (oi := _) (v := ?_) (by simp only [List.getElem?_toArray, List.getElem?_cons_succ, List.getElem?_cons_zero]; rfl) (by kernel_rfl) (by exact fun _ _ _ h => h) (by first | assumption | exact KB.refl _) (.inl ⟨by rfl, fun W hW => ?_⟩) ?_; rotate_left
      · (go_simp; first | done | with_reducible rfl)
      try simp only [Act.put, List.setIfInBounds_toArray, List.set_cons_zero, List.set_cons_succ]
      refine btake 11 (oi := _) (v := ?_) (by simp only [List.getElem?_toArray, List.getElem?_cons_succ, List.getElem?_cons_zero]; rfl) (by kernel_rfl) (by exact fun _ _ _ h => h) (by first | assumption | exact KB.refl _) (.inl ⟨by rfl, fun W hW => ?_⟩) ?_; rotate_left
      · (go_simp; first | done | with_reducible rfl)
      try simp only [Act.put, List.setIfInBounds_toArray, List.set_cons_zero, List.set_cons_succ]
      refine btake 12 (oi := _) (v := ?_) (by simp only [List.getElem?_toArray, List.getElem?_cons_succ, List.getElem?_cons_zero]; rfl) (by kernel_rfl) (by exact fun _ _ _ h => h) (by first | assumption | exact KB.refl _) (.inl ⟨by rfl, fun W hW => ?_⟩) ?_; rotate_left
      · (go_simp; first | done | with_reducible rfl)
      try simp only [Act.put, List.setIfInBounds_toArray, List.set_cons_zero, List.set_cons_succ]
      refine btake 13 (oi := _) (v := ?_) (by simp only [List.getElem?_toArray, List.getElem?_cons_succ, List.getElem?_cons_zero]; rfl) (by kernel_rfl) (by exact fun _ _ _ h => h) (by first | assumption | exact KB.refl _) (.inl ⟨by rfl, fun W hW => ?_⟩) ?_; rotate_left
      · (go_simp; first | done | with_reducible rfl)
      try simp only [Act.put, List.setIfInBounds_toArray, List.set_cons_zero, List.set_cons_succ]
      refine btake 14 (oi := _) (v := ?_) (by simp only [List.getElem?_toArray, List.getElem?_cons_succ, List.getElem?_cons_zero]; rfl) (by kernel_rfl) (by exact fun _ _ _ h => h) (by first | assumption | exact KB.refl _) (.inl ⟨by rfl, fun W hW => ?_⟩) ?_; rotate_left
      · (go_simp; first | done | with_reducible rfl)
      try simp only [Act.put, List.setIfInBounds_toArray, List.set_cons_zero, List.set_cons_succ]
      refine btake 15 (oi := _) (v := ?_) (by simp only [List.getElem?_toArray, List.getElem?_cons_succ, List.getElem?_cons_zero]; rfl) (by kernel_rfl) (by exact fun _ _ _ h => h) (by first | assumption | exact KB.refl _) (.inl ⟨by rfl, fun W hW => ?_⟩) ?_; rotate_left
      · (go_simp; first | done | with_reducible rfl)
      try simp only [Act.put, List.setIfInBounds_toArray, List.set_cons_zero, List.set_cons_succ]
      refine btake 16 (oi := _) (v := ?_) (by simp only [List.getElem?_toArray, List.getElem?_cons_succ, List.getElem?_cons_zero]; rfl) (by kernel_rfl) (by exact fun _ _ _ h => h) (by first | assumption | exact KB.refl _) (.inl ⟨by rfl, fun W hW => ?_⟩) ?_; rotate_left
      · (go_simp; first | done | with_reducible rfl)
      try simp only [Act.put, List.setIfInBounds_toArray, List.set_cons_zero, List.set_cons_succ]
      -- 17: Op.alloc 47
      refine bopH 17 (o := _) (by simp only [List.getElem?_toArray, List.getElem?_cons_succ, List.getElem?_cons_zero]; rfl) (by kernel_rfl) (by first | assumption | exact KB.refl _) (by rfl) (fun K hK => ?_)
      go_simp
      have hkb : KB wr.heap (wr.alloc (.cells #[.int .i64 0, .int .u32 0, .int .i64 0, .int .i64 0, .slice none 0 0] 47)).drew := KB.alloc wr _
      refine hK.out _ _ hkb ?_; clear hK K
      try simp only [Act.put, List.setIfInBounds_toArray, List.set_cons_zero, List.set_cons_succ]
      -- 18: Op.store 47 (Operand.tmp 9) (Operand.tmp 51)
      refine bopH 18 (o := _) (by simp only [List.getElem?_toArray, List.getElem?_cons_succ, List.getElem?_cons_zero]; rfl) (by kernel_rfl) (by first | assumption | exact KB.refl _) (by rfl) (fun K hK => ?_)
      go_simp
      have hkb : KB wr.heap (wr.alloc (.cells #[.int .i64 (y2 : Int), .int .u32 (gg : Int), .int .i64 (y7 : Int), .int .i64 (y8 : Int), .slice none 0 0] 47)).drew := KB.alloc wr _
      refine hK.out _ _ hkb ?_; clear hK K
      try simp only [Act.put, List.setIfInBounds_toArray, List.set_cons_zero, List.set_cons_succ]
      refine bdone (by kernel_rfl) ?_
      have hF := (At.new wr 47 #[.int .i64 (y2 : Int), .int .u32 (gg : Int), .int .i64 (y7 : Int), .int .i64 (y8 : Int), .slice none 0 0]).drew
      have hA2 := (hA1.alloc (.cells #[.int .i64 (y2 : Int), .int .u32 (gg : Int), .int .i64 (y7 : Int), .int .i64 (y8 : Int), .slice none 0 0] 47)).drew
      have b2 := (b1.alloc b1.size (.cells #[.int .i64 (y2 : Int), .int .u32 (gg : Int), .int .i64 (y7 : Int), .int .i64 (y8 : Int), .slice none 0 0] 47)).drew
      have hs2 : Sl (wr.alloc (.cells #[.int .i64 (y2 : Int), .int .u32 (gg : Int), .int .i64 (y7 : Int), .int .i64 (y8 : Int), .slice none 0 0] 47)).drew (wr.alloc (.cells #[.int .i64 (y2 : Int), .int .u32 (gg : Int), .int .i64 (y7 : Int), .int .i64 (y8 : Int), .slice none 0 0] 47)).drew.heap.size (some ⟨bk, o, none⟩) (bv b) := (hs1.alloc _).more (by show wr.heap.size ≤ (wr.alloc _).heap.size; simp)
      have hFw : wr.heap.size ≠ w.heap.size := by have := hA1.lt; omega
      clear d2 d7 d8 hkb hS0 i2 i7 i8 i37 HB2 h9i
      generalize (wr.alloc (.cells #[.int .i64 (y2 : Int), .int .u32 (gg : Int), .int .i64 (y7 : Int), .int .i64 (y8 : Int), .slice none 0 0] 47)).drew = w2 at *
      generalize wr.heap.size = gF at *
      clear hs1 hA1 b1
      have u0 := hF.c 0 rfl
      have u1 := hF.c 1 rfl
      have u2 := hF.c 2 rfl
      have u3 := hF.c 3 rfl
      have u4 := hF.c 4 rfl
      go_wp2_with fail
      refine (HK.out w2).mono ?_
      rintro e w3 ⟨rfl, hb3⟩
      replace hA2 := hA2.below hb3
      replace hF := hF.below hb3
      replace b2 := b2.trans (hb3.mono b2.size)
      replace hs2 := (hs2.below hb3).more hb3.size
      clear u0 u1 u2 u3 u4 hb3
      have HT := Lib.hid (RTake_tup w3 w3.heap.size (some ⟨bk, o + 9, none⟩) (b.length - 9) (c - 9) (b.drop 9) tv tk 0 (by have := hs2.cut 9 c (by simpa using hcl); rw [bv_drop, if_neg hcn, Option.map_some, addN] at this; exact this) (by simp) (by omega) (by omega) HT0.out)
      go_wp2_with fail
      refine HT.out.mono ?_
      rintro e w4 ⟨rfl, rfl⟩
      have hAz := hA2
      have bz := b2
      have a0 := hAz.c 0 rfl
      have a1 := hAz.c 1 rfl
      have a2 := hAz.c 2 rfl
      have a3 := hAz.c 3 rfl
      have a4 := hAz.c 4 rfl
      have f0 := hAz.f 0 rfl
      have f1 := hAz.f 1 rfl
      have f2 := hAz.f 2 rfl
      have f3 := hAz.f 3 rfl
      have f4 := hAz.f 4 rfl
      have hP9 := hAz.putL [.int .i64 0, .int .u32 0, .int .i64 0, .int .i64 0, .slice none 0 0] rfl
      have bP := below_putL [.int .i64 0, .int .u32 0, .int .i64 0, .int .i64 0, .slice none 0 0] 0 bz (g := w.heap.size) (Nat.le_refl _)
      simp only [putL, Nat.zero_add, Nat.reduceAdd] at hP9 bP
      go_wp2_with fail
      have z0 := hP9.c 0 rfl
      have z1 := hP9.c 1 rfl
      have z2 := hP9.c 2 rfl
      have z3 := hP9.c 3 rfl
      have z4 := hP9.c 4 rfl
      exact bodyPost_ret (v := .tuple #[.agg #[.int .i64 0, .int .u32 0, .int .i64 0, .int .i64 0, .slice none 0 0], .int .i64 0, .int .i64 0, .int .i64 23]) (by simp [results, Try.results59, go_sem, z0, z1, z2, z3, z4]) rfl ⟨rfl, bP⟩
set_option maxRecDepth 100000 in
set_option maxHeartbeats 6400000 in
theorem Rhead_big (w : World) (A : Option Addr) (n c : Nat) (b : List UInt8) (limit : Int) (hb : Sl w w.heap.size A (bv b)) (h0 : n = b.length) (hc : n ≤ c) (hm : c ≤ maxLen) (he : b.take 2 = ([78, 82] : List UInt8).take b.length) (h9 : 9 ≤ b.length) (hr : rightB b = true) (hc9 : c ≠ 9) (tv tk te : Nat) (ht : takeS (b.drop 9) = (tv, tk, te)) (hte : te = 0) (hfit : tv ≤ 65536 ∧ heldN limit < 9 + tk + tv + 4) :
    Calls Try.prog 59 #[.slice A n c, .int .i64 limit] w (HeadPost w zeroF 0 0 23) := by
  subst h0
  have hA := At.new w 47 #[.int .i64 0, .int .u32 0, .int .i64 0, .int .i64 0, .slice none 0 0]
  have b0 := balloc (Below.refl w.heap.size w) (.cells #[.int .i64 0, .int .u32 0, .int .i64 0, .int .i64 0, .slice none 0 0] 47)
  have hs := (hb.below b0).more b0.size
  obtain ⟨h78, h82⟩ := take2 he
  clear he
  have hcn : ¬ c = 9 := hc9
  have hc9b : 9 ≤ c := by omega
  have htl := takeS_lt (b.drop 9)
  have hle : (takeS (b.drop 9)).2.1 ≤ 10 := by
    by_cases h : (takeS (b.drop 9)).2.2 = 0
    · exact (takeS_ok _ h).2.1
    · rw [(takeS_bad _ h).2]; omega
  rw [ht] at htl hle
  simp only at htl hle
  obtain ⟨hh, hhe⟩ : ∃ hh, heldN limit = hh := ⟨_, rfl⟩
  have hhl : hh ≤ 65536 := by rw [← hhe]; unfold heldN; (repeat' split) <;> omega
  have HH := Lib.hid (fun W => Rheld_any W limit)
  rw [hhe] at HH
  rw [hhe] at hfit
  have HT0 := Lib.hid ht
  clear ht hhe
  have hcl : b.length ≤ c := hc
  have x2l : at_ b 2 < 256 := UInt8.toNat_lt _
  have x7l : at_ b 7 < 256 := UInt8.toNat_lt _
  have x8l : at_ b 8 < 256 := UInt8.toNat_lt _
  have hG : big ((b.drop 3).take 4) = bigF 0 ((b.drop 3).take 4) := by unfold big; rw [List.take_of_length_le (by simp; omega)]
  have hGl : bigF 0 ((b.drop 3).take 4) < 4294967296 := by
    have := bigF_lt ((b.drop 3).take 4) 0
    have hl : ((b.drop 3).take 4).length = 4 := by simp; omega
    rw [hl] at this
    omega
  obtain ⟨y2, hy2⟩ : ∃ y2, at_ b 2 = y2 := ⟨_, rfl⟩
  obtain ⟨y7, hy7⟩ : ∃ y7, at_ b 7 = y7 := ⟨_, rfl⟩
  obtain ⟨y8, hy8⟩ : ∃ y8, at_ b 8 = y8 := ⟨_, rfl⟩
  obtain ⟨gg, hgg⟩ : ∃ gg, bigF 0 ((b.drop 3).take 4) = gg := ⟨_, rfl⟩
  have hfr : hdF b = ⟨(y2 : Int), gg, (y7 : Int), (y8 : Int), []⟩ := by unfold hdF; rw [hy2, hy7, hy8, hgg]
  have hkn : Fr.right ⟨(y2 : Int), gg, (y7 : Int), (y8 : Int), []⟩ = rightB b := by unfold rightB Fr.right; rw [hy2, hy7, hy8]
  have HK := Lib.hid (fun W => Rknown_any W ⟨(y2 : Int), gg, (y7 : Int), (y8 : Int), []⟩ none 0)
  rw [hkn, hr] at HK
  rw [hgg] at hG hGl
  rw [hy2] at x2l
  rw [hy7] at x7l
  rw [hy8] at x8l
  have YY := Lib.hid (And.intro hy2 (And.intro hy7 hy8))
  have HG := Lib.hid hG
  clear hG hgg hkn hy2 hy7 hy8 hb
  have ww0 : IntKind.u32.wrap (gg : Int) = (gg : Int) := by rw [IntKind.wrap_u32]; omega
  have ww2 : IntKind.i64.wrap (y2 : Int) = (y2 : Int) := by rw [IntKind.wrap_i64]; omega
  have ww7 : IntKind.i64.wrap (y7 : Int) = (y7 : Int) := by rw [IntKind.wrap_i64]; omega
  have ww8 : IntKind.i64.wrap (y8 : Int) = (y8 : Int) := by rw [IntKind.wrap_i64]; omega
  subst hte
  have q1 : decide (65536 < (tv : Int)) = false := by rw [decide_eq_false_iff_not]; omega
  have q2 : decide ((hh : Int) < 9 + (tk : Int) + (tv : Int) + 4) = true := by rw [decide_eq_true_eq]; omega
  have wv : IntKind.i64.wrap (tv : Int) = (tv : Int) := by rw [IntKind.wrap_i64]; omega
  go_enter Try.func59, Try.ntmps59
  go_wp2_with fail
  generalize w.alloc (.cells #[.int .i64 0, .int .u32 0, .int .i64 0, .int .i64 0, .slice none 0 0] 47) = w1 at *
  have H78 := Lib.hid (And.intro h78 h82)
  clear h78 h82
  go_loopw [8] (fun x8 wr => (x8 = .int .i64 0 ∨ (x8 = .int .i64 1 ∧ 0 < b.length) ∨ (x8 = .int .i64 2 ∧ 1 < b.length)) ∧ Below w1.heap.size w1 wr) (fun x8 _ => 2 - (intOf x8).toNat)
  case atStart => exact ⟨.inl rfl, Below.refl _ _⟩
  case round =>
    obtain ⟨hx, hbel⟩ := hrel
    have hA1 := hA.below hbel
    have b1 := b0.trans (hbel.mono b0.size)
    have hs1 := (hs.below hbel).more hbel.size
    rcases hx with rfl | ⟨rfl, hl0⟩ | ⟨rfl, hl1⟩
    · have hl : 0 < b.length := by omega
      obtain ⟨bk, o, rfl, _, hbW, hcell⟩ := hs1.at_ (k := 0) (by simpa using hl)
      have d0 := cellB (hcell 0 _ (bv_get b 0 hl))
      try simp only [Nat.add_zero] at d0
      have k0 : (b[0]?.getD 0).toNat = at_ b 0 := rfl
      rw [k0, H78.out.1 hl] at d0
      have hil : (0 : Int) < (b.length : Int) := by omega
      clear hcell k0
      go_wp2_with fail
      refine bstart (by kernel_rfl) ?_
      refine btake 0 (oi := _) (v := ?_) (by simp only [List.getElem?_toArray, List.getElem?_cons_zero]; rfl) (by kernel_rfl) (by exact fun _ _ _ h => h) (by first | assumption | exact KB.refl _) (.inl ⟨by rfl, fun W hW => ?_⟩) ?_; rotate_left
      · (go_simp; first | done | with_reducible rfl)
      try simp only [Act.put, List.setIfInBounds_toArray, List.set_cons_zero, List.set_cons_succ]
      refine btake 1 (oi := _) (v := ?_) (by simp only [List.getElem?_toArray, List.getElem?_cons_succ, List.getElem?_cons_zero]; rfl) (by kernel_rfl) (by exact fun _ _ _ h => h) (by first | assumption | exact KB.refl _) (.inl ⟨by rfl, fun W hW => ?_⟩) ?_; rotate_left
      · (go_simp; first | done | with_reducible rfl)
      try simp only [Act.put, List.setIfInBounds_toArray, List.set_cons_zero, List.set_cons_succ]
      refine btake 2 (oi := _) (v := ?_) (by simp only [List.getElem?_toArray, List.getElem?_cons_succ, List.getElem?_cons_zero]; rfl) (by kernel_rfl) (by exact fun _ _ _ h => h) (by first | assumption | exact KB.refl _) (.inl ⟨by rfl, fun W hW => ?_⟩) ?_; rotate_left
      · (go_simp; first | done | with_reducible rfl)
      try simp only [Act.put, List.setIfInBounds_toArray, List.set_cons_zero, List.set_cons_succ]
      refine btake 3 (oi := _) (v := ?_) (by simp only [List.getElem?_toArray, List.getElem?_cons_succ, List.getElem?_cons_zero]; rfl) (by kernel_rfl) (by exact fun _ _ _ h => h) (by first | assumption | exact KB.refl _) (.inl ⟨by rfl, fun W hW => ?_⟩) ?_; rotate_left
      · (go_simp; first | done | with_reducible rfl)
      try simp only [Act.put, List.setIfInBounds_toArray, List.set_cons_zero, List.set_cons_succ]
      refine btake 4 (oi := _) (v := ?_) (by simp only [List.getElem?_toArray, List.getElem?_cons_succ, List.getElem?_cons_zero]; rfl) (by kernel_rfl) (by exact fun _ _ _ h => h) (by first | assumption | exact KB.refl _) (.inl ⟨by rfl, fun W hW => ?_⟩) ?_; rotate_left
      · (go_simp; first | done | with_reducible rfl)
      try simp only [Act.put, List.setIfInBounds_toArray, List.set_cons_zero, List.set_cons_succ]
      refine btake 5 (oi := _) (v := ?_) (by simp only [List.getElem?_toArray, List.getElem?_cons_succ, List.getElem?_cons_zero]; rfl) (by kernel_rfl) (by exact fun _ _ _ h => h) (by first | assumption | exact KB.refl _) (.inl ⟨by rfl, fun W hW => ?_⟩) ?_; rotate_left
      · go_simp
        show _ = Value.int .u8 78
        rfl
      try simp only [Act.put, List.setIfInBounds_toArray, List.set_cons_zero, List.set_cons_succ]
      refine btake 6 (oi := _) (v := ?_) (by simp only [List.getElem?_toArray, List.getElem?_cons_succ, List.getElem?_cons_zero]; rfl) (by kernel_rfl) (by exact fun _ _ _ h => h) (by first | assumption | exact KB.refl _) (.inl ⟨by rfl, fun W hW => ?_⟩) ?_; rotate_left
      · (go_simp; first | done | with_reducible rfl)
      try simp only [Act.put, List.setIfInBounds_toArray, List.set_cons_zero, List.set_cons_succ]
      refine bdone (by kernel_rfl) ?_
      go_wp2_with fail
      go_roundw
      case rel => exact ⟨.inr (.inl ⟨rfl, hl⟩), hbel.drew⟩
      case measure => simp [intOf]
    · have hl : 1 < b.length := by omega
      obtain ⟨bk, o, rfl, _, hbW, hcell⟩ := hs1.at_ (k := 1) (by simpa using hl)
      have d0 := cellB (hcell 1 _ (bv_get b 1 hl))
      try simp only [Nat.add_zero] at d0
      have k0 : (b[1]?.getD 0).toNat = at_ b 1 := rfl
      rw [k0, H78.out.2 hl] at d0
      have hil : (1 : Int) < (b.length : Int) := by omega
      clear hcell k0
      go_wp2_with fail
      refine bstart (by kernel_rfl) ?_
      refine btake 0 (oi := _) (v := ?_) (by simp only [List.getElem?_toArray, List.getElem?_cons_zero]; rfl) (by kernel_rfl) (by exact fun _ _ _ h => h) (by first | assumption | exact KB.refl _) (.inl ⟨by rfl, fun W hW => ?_⟩) ?_; rotate_left
      · (go_simp; first | done | with_reducible rfl)
      try simp only [Act.put, List.setIfInBounds_toArray, List.set_cons_zero, List.set_cons_succ]
      refine btake 1 (oi := _) (v := ?_) (by simp only [List.getElem?_toArray, List.getElem?_cons_succ, List.getElem?_cons_zero]; rfl) (by kernel_rfl) (by exact fun _ _ _ h => h) (by first | assumption | exact KB.refl _) (.inl ⟨by rfl, fun W hW => ?_⟩) ?_; rotate_left
      · (go_simp; first | done | with_reducible rfl)
      try simp only [Act.put, List.setIfInBounds_toArray, List.set_cons_zero, List.set_cons_succ]
      refine btake 2 (oi := _) (v := ?_) (by simp only [List.getElem?_toArray, List.getElem?_cons_succ, List.getElem?_cons_zero]; rfl) (by kernel_rfl) (by exact fun _ _ _ h => h) (by first | assumption | exact KB.refl _) (.inl ⟨by rfl, fun W hW => ?_⟩) ?_; rotate_left
      · (go_simp; first | done | with_reducible rfl)
      try simp only [Act.put, List.setIfInBounds_toArray, List.set_cons_zero, List.set_cons_succ]
      refine btake 3 (oi := _) (v := ?_) (by simp only [List.getElem?_toArray, List.getElem?_cons_succ, List.getElem?_cons_zero]; rfl) (by kernel_rfl) (by exact fun _ _ _ h => h) (by first | assumption | exact KB.refl _) (.inl ⟨by rfl, fun W hW => ?_⟩) ?_; rotate_left
      · (go_simp; first | done | with_reducible rfl)
      try simp only [Act.put, List.setIfInBounds_toArray, List.set_cons_zero, List.set_cons_succ]
      refine btake 4 (oi := _) (v := ?_) (by simp only [List.getElem?_toArray, List.getElem?_cons_succ, List.getElem?_cons_zero]; rfl) (by kernel_rfl) (by exact fun _ _ _ h => h) (by first | assumption | exact KB.refl _) (.inl ⟨by rfl, fun W hW => ?_⟩) ?_; rotate_left
      · (go_simp; first | done | with_reducible rfl)
      try simp only [Act.put, List.setIfInBounds_toArray, List.set_cons_zero, List.set_cons_succ]
      refine btake 5 (oi := _) (v := ?_) (by simp only [List.getElem?_toArray, List.getElem?_cons_succ, List.getElem?_cons_zero]; rfl) (by kernel_rfl) (by exact fun _ _ _ h => h) (by first | assumption | exact KB.refl _) (.inl ⟨by rfl, fun W hW => ?_⟩) ?_; rotate_left
      · go_simp
        show _ = Value.int .u8 82
        rfl
      try simp only [Act.put, List.setIfInBounds_toArray, List.set_cons_zero, List.set_cons_succ]
      refine btake 6 (oi := _) (v := ?_) (by simp only [List.getElem?_toArray, List.getElem?_cons_succ, List.getElem?_cons_zero]; rfl) (by kernel_rfl) (by exact fun _ _ _ h => h) (by first | assumption | exact KB.refl _) (.inl ⟨by rfl, fun W hW => ?_⟩) ?_; rotate_left
      · (go_simp; first | done | with_reducible rfl)
      try simp only [Act.put, List.setIfInBounds_toArray, List.set_cons_zero, List.set_cons_succ]
      refine bdone (by kernel_rfl) ?_
      go_wp2_with fail
      go_roundw
      case rel => exact ⟨.inr (.inr ⟨rfl, hl⟩), hbel.drew⟩
      case measure => simp [intOf]
    · clear hl1
      obtain ⟨bk, o, rfl, _, hbW, hcell⟩ := hs1.at_ (k := 0) (by simp; omega)
      have h9i : ((b.length : Int) < 9) = False := by simp; omega
      have hs37 : Sl wr wr.heap.size (some ⟨bk, o + 3, none⟩) (bv ((b.drop 3).take 4)) := by
        have := (hs1.cut 3 c (by simpa using hcl)).tk 4
        rw [bv_drop, bv_take, if_neg (by omega), Option.map_some, addN] at this
        exact this
      have d2 := cellB (hcell 2 _ (bv_get b 2 (by omega)))
      have d7 := cellB (hcell 7 _ (bv_get b 7 (by omega)))
      have d8 := cellB (hcell 8 _ (bv_get b 8 (by omega)))
      have k2 : (b[2]?.getD 0).toNat = y2 := YY.out.1
      have k7 : (b[7]?.getD 0).toNat = y7 := YY.out.2.1
      have k8 : (b[8]?.getD 0).toNat = y8 := YY.out.2.2
      rw [k2] at d2
      rw [k7] at d7
      rw [k8] at d8
      have hc3 : ¬ c = 3 := by omega
      have hc7 : 7 ≤ c := by omega
      have HB2 := Lib.hid (fun W (hW : KB wr.heap W) => RefBig_lit W wr.heap.size (some ⟨bk, o + 3, none⟩) 4 (c - 3) ((b.drop 3).take 4) _ (hs37.kb hW) (by simp; omega) (by omega) (by omega) HG.out)
      clear hcell k2 k7 k8 hs37
      have i2 : (2 : Int) < (b.length : Int) := by omega
      have i7 : (7 : Int) < (b.length : Int) := by omega
      have i8 : (8 : Int) < (b.length : Int) := by omega
      have i37 : (7 : Int) ≤ (c : Int) := by omega
      go_wp2_with fail
      have hS0 : KB wr.heap wr.drew := KB.refl wr
      refine bstartH (wr.heap) (by kernel_rfl) ?_
      refine btake 0 (oi := _) (v := ?_) (by simp only [List.getElem?_toArray, List.getElem?_cons_zero]; rfl) (by kernel_rfl) (by exact fun _ _ _ h => h) (by first | assumption | exact KB.refl _) (.inl ⟨by rfl, fun W hW => ?_⟩) ?_; rotate_left
      · (go_simp; first | done | with_reducible rfl)
      try simp only [Act.put, List.setIfInBounds_toArray, List.set_cons_zero, List.set_cons_succ]
      refine btake 1 (oi := _) (v := ?_) (by simp only [List.getElem?_toArray, List.getElem?_cons_succ, List.getElem?_cons_zero]; rfl) (by kernel_rfl) (by exact fun _ _ _ h => h) (by first | assumption | exact KB.refl _) (.inl ⟨by rfl, fun W hW => ?_⟩) ?_; rotate_left
      · (go_simp; first | done | with_reducible rfl)
      try simp only [Act.put, List.setIfInBounds_toArray, List.set_cons_zero, List.set_cons_succ]
      refine btake 2 (oi := _) (v := ?_) (by simp only [List.getElem?_toArray, List.getElem?_cons_succ, List.getElem?_cons_zero]; rfl) (by kernel_rfl) (by exact fun _ _ _ h => h) (by first | assumption | exact KB.refl _) (.inl ⟨by rfl, fun W hW => ?_⟩) ?_; rotate_left
      · (go_simp; first | done | with_reducible rfl)
      try simp only [Act.put, List.setIfInBounds_toArray, List.set_cons_zero, List.set_cons_succ]
      refine btake 3 (oi := _) (v := ?_) (by simp only [List.getElem?_toArray, List.getElem?_cons_succ, List.getElem?_cons_zero]; rfl) (by kernel_rfl) (by exact fun _ _ _ h => h) (by first | assumption | exact KB.refl _) (.inl ⟨by rfl, fun W hW => ?_⟩) ?_; rotate_left
      · (go_simp; first | done | with_reducible rfl)
      try simp only [Act.put, List.setIfInBounds_toArray, List.set_cons_zero, List.set_cons_succ]
      refine btake 4 (oi := _) (v := ?_) (by simp only [List.getElem?_toArray, List.getElem?_cons_succ, List.getElem?_cons_zero]; rfl) (by kernel_rfl) (by exact fun _ _ _ h => h) (by first | assumption | exact KB.refl _) (.inl ⟨by rfl, fun W hW => ?_⟩) ?_; rotate_left
      · (go_simp; first | done | with_reducible rfl)
      try simp only [Act.put, List.setIfInBounds_toArray, List.set_cons_zero, List.set_cons_succ]
      refine btake 5 (oi := _) (v := ?_) (by simp only [List.getElem?_toArray, List.getElem?_cons_succ, List.getElem?_cons_zero]; rfl) (by kernel_rfl) (by exact fun _ _ _ h => h) (by first | assumption | exact KB.refl _) (.inl ⟨by rfl, fun W hW => ?_⟩) ?_; rotate_left
      · (go_simp; first | done | with_reducible rfl)
      try simp only [Act.put, List.setIfInBounds_toArray, List.set_cons_zero, List.set_cons_succ]
      -- 6: newsreel/newsreelref1.Big
      refine bquiet 6 (oi := _) ?_ (by simp only [List.getElem?_toArray, List.getElem?_cons_succ, List.getElem?_cons_zero]; rfl) (by kernel_rfl) (by exact fun _ _ _ h => h) (by first | assumption | exact KB.refl _) (by rfl) (fun W hW => by go_simp; first | done | exact ⟨rfl, rfl⟩ | rfl) (fun W hW => ?_) ?_; rotate_left
      · exact HB2.out W hW
      try simp only [Act.put, List.setIfInBounds_toArray, List.set_cons_zero, List.set_cons_succ]
      refine btake 7 (oi := _) (v := ?_) (by simp only [List.getElem?_toArray, List.getElem?_cons_succ, List.getElem?_cons_zero]; rfl) (by kernel_rfl) (by exact fun _ _ _ h => h) (by first | assumption | exact KB.refl _) (.inl ⟨by rfl, fun W hW => ?_⟩) ?_; rotate_left
      · (go_simp; first | done | with_reducible rfl)
      try simp only [Act.put, List.setIfInBounds_toArray, List.set_cons_zero, List.set_cons_succ]
      refine btake 8 (oi := _) (v := ?_) (by simp only [List.getElem?_toArray, List.getElem?_cons_succ, List.getElem?_cons_zero]; rfl) (by kernel_rfl) (by exact fun _ _ _ h => h) (by first | assumption | exact KB.refl _) (.inl ⟨by rfl, fun W hW => ?_⟩) ?_; rotate_left
      · (go_simp; first | done | with_reducible rfl)
      try simp only [Act.put, List.setIfInBounds_toArray, List.set_cons_zero, List.set_cons_succ]
      refine btake 9 (oi := _) (v := ?_) (by simp only [List.getElem?_toArray, List.getElem?_cons_succ, List.getElem?_cons_zero]; rfl) (by kernel_rfl) (by exact fun _ _ _ h => h) (by first | assumption | exact KB.refl _) (.inl ⟨by rfl, fun W hW => ?_⟩) ?_; rotate_left
      · (go_simp; first | done | with_reducible rfl)
      try simp only [Act.put, List.setIfInBounds_toArray, List.set_cons_zero, List.set_cons_succ]
      refine btake 10 (oi := _) (v := ?_) (by simp only [List.getElem?_toArray, List.getElem?_cons_succ, List.getElem?_cons_zero]; rfl) (by kernel_rfl) (by exact fun _ _ _ h => h) (by first | assumption | exact KB.refl _) (.inl ⟨by rfl, fun W hW => ?_⟩) ?_; rotate_left
      · (go_simp; first | done | with_reducible rfl)
      try simp only [Act.put, List.setIfInBounds_toArray, List.set_cons_zero, List.set_cons_succ]
      refine btake 11 (oi := _) (v := ?_) (by simp only [List.getElem?_toArray, List.getElem?_cons_succ, List.getElem?_cons_zero]; rfl) (by kernel_rfl) (by exact fun _ _ _ h => h) (by first | assumption | exact KB.refl _) (.inl ⟨by rfl, fun W hW => ?_⟩) ?_; rotate_left
      · (go_simp; first | done | with_reducible rfl)
      try simp only [Act.put, List.setIfInBounds_toArray, List.set_cons_zero, List.set_cons_succ]
      refine btake 12 (oi := _) (v := ?_) (by simp only [List.getElem?_toArray, List.getElem?_cons_succ, List.getElem?_cons_zero]; rfl) (by kernel_rfl) (by exact fun _ _ _ h => h) (by first | assumption | exact KB.refl _) (.inl ⟨by rfl, fun W hW => ?_⟩) ?_; rotate_left
      · (go_simp; first | done | with_reducible rfl)
      try simp only [Act.put, List.setIfInBounds_toArray, List.set_cons_zero, List.set_cons_succ]
      refine btake 13 (oi := _) (v := ?_) (by simp only [List.getElem?_toArray, List.getElem?_cons_succ, List.getElem?_cons_zero]; rfl) (by kernel_rfl) (by exact fun _ _ _ h => h) (by first | assumption | exact KB.refl _) (.inl ⟨by rfl, fun W hW => ?_⟩) ?_; rotate_left
      · (go_simp; first | done | with_reducible rfl)
      try simp only [Act.put, List.setIfInBounds_toArray, List.set_cons_zero, List.set_cons_succ]
      refine btake 14 (oi := _) (v := ?_) (by simp only [List.getElem?_toArray, List.getElem?_cons_succ, List.getElem?_cons_zero]; rfl) (by kernel_rfl) (by exact fun _ _ _ h => h) (by first | assumption | exact KB.refl _) (.inl ⟨by rfl, fun W hW => ?_⟩) ?_; rotate_left
      · (go_simp; first | done | with_reducible rfl)
      try simp only [Act.put, List.setIfInBounds_toArray, List.set_cons_zero, List.set_cons_succ]
      refine btake 15 (oi := _) (v := ?_) (by simp only [List.getElem?_toArray, List.getElem?_cons_succ, List.getElem?_cons_zero]; rfl) (by kernel_rfl) (by exact fun _ _ _ h => h) (by first | assumption | exact KB.refl _) (.inl ⟨by rfl, fun W hW => ?_⟩) ?_; rotate_left
      · (go_simp; first | done | with_reducible rfl)
      try simp only [Act.put, List.setIfInBounds_toArray, List.set_cons_zero, List.set_cons_succ]
      refine btake 16 (oi := _) (v := ?_) (by simp only [List.getElem?_toArray, List.getElem?_cons_succ, List.getElem?_cons_zero]; rfl) (by kernel_rfl) (by exact fun _ _ _ h => h) (by first | assumption | exact KB.refl _) (.inl ⟨by rfl, fun W hW => ?_⟩) ?_; rotate_left
      · (go_simp; first | done | with_reducible rfl)
      try simp only [Act.put, List.setIfInBounds_toArray, List.set_cons_zero, List.set_cons_succ]
      -- 17: Op.alloc 47
      refine bopH 17 (o := _) (by simp only [List.getElem?_toArray, List.getElem?_cons_succ, List.getElem?_cons_zero]; rfl) (by kernel_rfl) (by first | assumption | exact KB.refl _) (by rfl) (fun K hK => ?_)
      go_simp
      have hkb : KB wr.heap (wr.alloc (.cells #[.int .i64 0, .int .u32 0, .int .i64 0, .int .i64 0, .slice none 0 0] 47)).drew := KB.alloc wr _
      refine hK.out _ _ hkb ?_; clear hK K
      try simp only [Act.put, List.setIfInBounds_toArray, List.set_cons_zero, List.set_cons_succ]
      -- 18: Op.store 47 (Operand.tmp 9) (Operand.tmp 51)
      refine bopH 18 (o := _) (by simp only [List.getElem?_toArray, List.getElem?_cons_succ, List.getElem?_cons_zero]; rfl) (by kernel_rfl) (by first | assumption | exact KB.refl _) (by rfl) (fun K hK => ?_)
      go_simp
      have hkb : KB wr.heap (wr.alloc (.cells #[.int .i64 (y2 : Int), .int .u32 (gg : Int), .int .i64 (y7 : Int), .int .i64 (y8 : Int), .slice none 0 0] 47)).drew := KB.alloc wr _
      refine hK.out _ _ hkb ?_; clear hK K
      try simp only [Act.put, List.setIfInBounds_toArray, List.set_cons_zero, List.set_cons_succ]
      refine bdone (by kernel_rfl) ?_
      have hF := (At.new wr 47 #[.int .i64 (y2 : Int), .int .u32 (gg : Int), .int .i64 (y7 : Int), .int .i64 (y8 : Int), .slice none 0 0]).drew
      have hA2 := (hA1.alloc (.cells #[.int .i64 (y2 : Int), .int .u32 (gg : Int), .int .i64 (y7 : Int), .int .i64 (y8 : Int), .slice none 0 0] 47)).drew
      have b2 := (b1.alloc b1.size (.cells #[.int .i64 (y2 : Int), .int .u32 (gg : Int), .int .i64 (y7 : Int), .int .i64 (y8 : Int), .slice none 0 0] 47)).drew
      have hs2 : Sl (wr.alloc (.cells #[.int .i64 (y2 : Int), .int .u32 (gg : Int), .int .i64 (y7 : Int), .int .i64 (y8 : Int), .slice none 0 0] 47)).drew (wr.alloc (.cells #[.int .i64 (y2 : Int), .int .u32 (gg : Int), .int .i64 (y7 : Int), .int .i64 (y8 : Int), .slice none 0 0] 47)).drew.heap.size (some ⟨bk, o, none⟩) (bv b) := (hs1.alloc _).more (by show wr.heap.size ≤ (wr.alloc _).heap.size; simp)
      have hFw : wr.heap.size ≠ w.heap.size := by have := hA1.lt; omega
      clear d2 d7 d8 hkb hS0 i2 i7 i8 i37 HB2 h9i
      generalize (wr.alloc (.cells #[.int .i64 (y2 : Int), .int .u32 (gg : Int), .int .i64 (y7 : Int), .int .i64 (y8 : Int), .slice none 0 0] 47)).drew = w2 at *
      generalize wr.heap.size = gF at *
      clear hs1 hA1 b1
      have u0 := hF.c 0 rfl
      have u1 := hF.c 1 rfl
      have u2 := hF.c 2 rfl
      have u3 := hF.c 3 rfl
      have u4 := hF.c 4 rfl
      go_wp2_with fail
      refine (HK.out w2).mono ?_
      rintro e w3 ⟨rfl, hb3⟩
      replace hA2 := hA2.below hb3
      replace hF := hF.below hb3
      replace b2 := b2.trans (hb3.mono b2.size)
      replace hs2 := (hs2.below hb3).more hb3.size
      clear u0 u1 u2 u3 u4 hb3
      have HT := Lib.hid (RTake_tup w3 w3.heap.size (some ⟨bk, o + 9, none⟩) (b.length - 9) (c - 9) (b.drop 9) tv tk 0 (by have := hs2.cut 9 c (by simpa using hcl); rw [bv_drop, if_neg hcn, Option.map_some, addN] at this; exact this) (by simp) (by omega) (by omega) HT0.out)
      go_wp2_with fail
      refine HT.out.mono ?_
      rintro e w4 ⟨rfl, rfl⟩
      go_wp2_with fail
      refine (HH.out _).mono ?_
      rintro e w5 ⟨rfl, rfl⟩
      have hAz := hA2
      have bz := b2
      have a0 := hAz.c 0 rfl
      have a1 := hAz.c 1 rfl
      have a2 := hAz.c 2 rfl
      have a3 := hAz.c 3 rfl
      have a4 := hAz.c 4 rfl
      have f0 := hAz.f 0 rfl
      have f1 := hAz.f 1 rfl
      have f2 := hAz.f 2 rfl
      have f3 := hAz.f 3 rfl
      have f4 := hAz.f 4 rfl
      have hP9 := hAz.putL [.int .i64 0, .int .u32 0, .int .i64 0, .int .i64 0, .slice none 0 0] rfl
      have bP := below_putL [.int .i64 0, .int .u32 0, .int .i64 0, .int .i64 0, .slice none 0 0] 0 bz (g := w.heap.size) (Nat.le_refl _)
      simp only [putL, Nat.zero_add, Nat.reduceAdd] at hP9 bP
      go_wp2_with fail
      have z0 := hP9.c 0 rfl
      have z1 := hP9.c 1 rfl
      have z2 := hP9.c 2 rfl
      have z3 := hP9.c 3 rfl
      have z4 := hP9.c 4 rfl
      exact bodyPost_ret (v := .tuple #[.agg #[.int .i64 0, .int .u32 0, .int .i64 0, .int .i64 0, .slice none 0 0], .int .i64 0, .int .i64 0, .int .i64 23]) (by simp [results, Try.results59, go_sem, z0, z1, z2, z3, z4]) rfl ⟨rfl, bP⟩
set_option maxRecDepth 100000 in
set_option maxHeartbeats 6400000 in
theorem Rhead_ok (w : World) (A : Option Addr) (n c : Nat) (b : List UInt8) (limit : Int) (hb : Sl w w.heap.size A (bv b)) (h0 : n = b.length) (hc : n ≤ c) (hm : c ≤ maxLen) (he : b.take 2 = ([78, 82] : List UInt8).take b.length) (h9 : 9 ≤ b.length) (hr : rightB b = true) (hc9 : c ≠ 9) (tv tk te : Nat) (ht : takeS (b.drop 9) = (tv, tk, te)) (hte : te = 0) (hfit : tv ≤ 65536 ∧ 9 + tk + tv + 4 ≤ heldN limit) :
    Calls Try.prog 59 #[.slice A n c, .int .i64 limit] w (HeadPost w (hdF b) (9 + tk) tv 0) := by
  subst h0
  have hA := At.new w 47 #[.int .i64 0, .int .u32 0, .int .i64 0, .int .i64 0, .slice none 0 0]
  have b0 := balloc (Below.refl w.heap.size w) (.cells #[.int .i64 0, .int .u32 0, .int .i64 0, .int .i64 0, .slice none 0 0] 47)
  have hs := (hb.below b0).more b0.size
  obtain ⟨h78, h82⟩ := take2 he
  clear he
  have hcn : ¬ c = 9 := hc9
  have hc9b : 9 ≤ c := by omega
  have htl := takeS_lt (b.drop 9)
  have hle : (takeS (b.drop 9)).2.1 ≤ 10 := by
    by_cases h : (takeS (b.drop 9)).2.2 = 0
    · exact (takeS_ok _ h).2.1
    · rw [(takeS_bad _ h).2]; omega
  rw [ht] at htl hle
  simp only at htl hle
  obtain ⟨hh, hhe⟩ : ∃ hh, heldN limit = hh := ⟨_, rfl⟩
  have hhl : hh ≤ 65536 := by rw [← hhe]; unfold heldN; (repeat' split) <;> omega
  have HH := Lib.hid (fun W => Rheld_any W limit)
  rw [hhe] at HH
  rw [hhe] at hfit
  have HT0 := Lib.hid ht
  clear ht hhe
  have hcl : b.length ≤ c := hc
  have x2l : at_ b 2 < 256 := UInt8.toNat_lt _
  have x7l : at_ b 7 < 256 := UInt8.toNat_lt _
  have x8l : at_ b 8 < 256 := UInt8.toNat_lt _
  have hG : big ((b.drop 3).take 4) = bigF 0 ((b.drop 3).take 4) := by unfold big; rw [List.take_of_length_le (by simp; omega)]
  have hGl : bigF 0 ((b.drop 3).take 4) < 4294967296 := by
    have := bigF_lt ((b.drop 3).take 4) 0
    have hl : ((b.drop 3).take 4).length = 4 := by simp; omega
    rw [hl] at this
    omega
  obtain ⟨y2, hy2⟩ : ∃ y2, at_ b 2 = y2 := ⟨_, rfl⟩
  obtain ⟨y7, hy7⟩ : ∃ y7, at_ b 7 = y7 := ⟨_, rfl⟩
  obtain ⟨y8, hy8⟩ : ∃ y8, at_ b 8 = y8 := ⟨_, rfl⟩
  obtain ⟨gg, hgg⟩ : ∃ gg, bigF 0 ((b.drop 3).take 4) = gg := ⟨_, rfl⟩
  have hfr : hdF b = ⟨(y2 : Int), gg, (y7 : Int), (y8 : Int), []⟩ := by unfold hdF; rw [hy2, hy7, hy8, hgg]
  have hkn : Fr.right ⟨(y2 : Int), gg, (y7 : Int), (y8 : Int), []⟩ = rightB b := by unfold rightB Fr.right; rw [hy2, hy7, hy8]
  have HK := Lib.hid (fun W => Rknown_any W ⟨(y2 : Int), gg, (y7 : Int), (y8 : Int), []⟩ none 0)
  rw [hkn, hr] at HK
  rw [hgg] at hG hGl
  rw [hy2] at x2l
  rw [hy7] at x7l
  rw [hy8] at x8l
  have YY := Lib.hid (And.intro hy2 (And.intro hy7 hy8))
  have HG := Lib.hid hG
  clear hG hgg hkn hy2 hy7 hy8 hb
  have ww0 : IntKind.u32.wrap (gg : Int) = (gg : Int) := by rw [IntKind.wrap_u32]; omega
  have ww2 : IntKind.i64.wrap (y2 : Int) = (y2 : Int) := by rw [IntKind.wrap_i64]; omega
  have ww7 : IntKind.i64.wrap (y7 : Int) = (y7 : Int) := by rw [IntKind.wrap_i64]; omega
  have ww8 : IntKind.i64.wrap (y8 : Int) = (y8 : Int) := by rw [IntKind.wrap_i64]; omega
  subst hte
  have q1 : decide (65536 < (tv : Int)) = false := by rw [decide_eq_false_iff_not]; omega
  have q2 : decide ((hh : Int) < 9 + (tk : Int) + (tv : Int) + 4) = false := by rw [decide_eq_false_iff_not]; omega
  have wv : IntKind.i64.wrap (tv : Int) = (tv : Int) := by rw [IntKind.wrap_i64]; omega
  go_enter Try.func59, Try.ntmps59
  go_wp2_with fail
  generalize w.alloc (.cells #[.int .i64 0, .int .u32 0, .int .i64 0, .int .i64 0, .slice none 0 0] 47) = w1 at *
  have H78 := Lib.hid (And.intro h78 h82)
  clear h78 h82
  go_loopw [8] (fun x8 wr => (x8 = .int .i64 0 ∨ (x8 = .int .i64 1 ∧ 0 < b.length) ∨ (x8 = .int .i64 2 ∧ 1 < b.length)) ∧ Below w1.heap.size w1 wr) (fun x8 _ => 2 - (intOf x8).toNat)
  case atStart => exact ⟨.inl rfl, Below.refl _ _⟩
  case round =>
    obtain ⟨hx, hbel⟩ := hrel
    have hA1 := hA.below hbel
    have b1 := b0.trans (hbel.mono b0.size)
    have hs1 := (hs.below hbel).more hbel.size
    rcases hx with rfl | ⟨rfl, hl0⟩ | ⟨rfl, hl1⟩
    · have hl : 0 < b.length := by omega
      obtain ⟨bk, o, rfl, _, hbW, hcell⟩ := hs1.at_ (k := 0) (by simpa using hl)
      have d0 := cellB (hcell 0 _ (bv_get b 0 hl))
      try simp only [Nat.add_zero] at d0
      have k0 : (b[0]?.getD 0).toNat = at_ b 0 := rfl
      rw [k0, H78.out.1 hl] at d0
      have hil : (0 : Int) < (b.length : Int) := by omega
      clear hcell k0
      go_wp2_with fail
      refine bstart (by kernel_rfl) ?_
      refine btake 0 (oi := _) (v := ?_) (by simp only [List.getElem?_toArray, List.getElem?_cons_zero]; rfl) (by kernel_rfl) (by exact fun _ _ _ h => h) (by first | assumption | exact KB.refl _) (.inl ⟨by rfl, fun W hW => ?_⟩) ?_; rotate_left
      · (go_simp; first | done | with_reducible rfl)
      try simp only [Act.put, List.setIfInBounds_toArray, List.set_cons_zero, List.set_cons_succ]
      refine btake 1 (oi := _) (v := ?_) (by simp only [List.getElem?_toArray, List.getElem?_cons_succ, List.getElem?_cons_zero]; rfl) (by kernel_rfl) (by exact fun _ _ _ h => h) (by first | assumption | exact KB.refl _) (.inl ⟨by rfl, fun W hW => ?_⟩) ?_; rotate_left
      · (go_simp; first | done | with_reducible rfl)
      try simp only [Act.put, List.setIfInBounds_toArray, List.set_cons_zero, List.set_cons_succ]
      refine btake 2 (oi := _) (v := ?_) (by simp only [List.getElem?_toArray, List.getElem?_cons_succ, List.getElem?_cons_zero]; rfl) (by kernel_rfl) (by exact fun _ _ _ h => h) (by first | assumption | exact KB.refl _) (.inl ⟨by rfl, fun W hW => ?_⟩) ?_; rotate_left
      · (go_simp; first | done | with_reducible rfl)
      try simp only [Act.put, List.setIfInBounds_toArray, List.set_cons_zero, List.set_cons_succ]
      refine btake 3 (oi := _) (v := ?_) (by simp only [List.getElem?_toArray, List.getElem?_cons_succ, List.getElem?_cons_zero]; rfl) (by kernel_rfl) (by exact fun _ _ _ h => h) (by first | assumption | exact KB.refl _) (.inl ⟨by rfl, fun W hW => ?_⟩) ?_; rotate_left
      · (go_simp; first | done | with_reducible rfl)
      try simp only [Act.put, List.setIfInBounds_toArray, List.set_cons_zero, List.set_cons_succ]
      refine btake 4 (oi := _) (v := ?_) (by simp only [List.getElem?_toArray, List.getElem?_cons_succ, List.getElem?_cons_zero]; rfl) (by kernel_rfl) (by exact fun _ _ _ h => h) (by first | assumption | exact KB.refl _) (.inl ⟨by rfl, fun W hW => ?_⟩) ?_; rotate_left
      · (go_simp; first | done | with_reducible rfl)
      try simp only [Act.put, List.setIfInBounds_toArray, List.set_cons_zero, List.set_cons_succ]
      refine btake 5 (oi := _) (v := ?_) (by simp only [List.getElem?_toArray, List.getElem?_cons_succ, List.getElem?_cons_zero]; rfl) (by kernel_rfl) (by exact fun _ _ _ h => h) (by first | assumption | exact KB.refl _) (.inl ⟨by rfl, fun W hW => ?_⟩) ?_; rotate_left
      · go_simp
        show _ = Value.int .u8 78
        rfl
      try simp only [Act.put, List.setIfInBounds_toArray, List.set_cons_zero, List.set_cons_succ]
      refine btake 6 (oi := _) (v := ?_) (by simp only [List.getElem?_toArray, List.getElem?_cons_succ, List.getElem?_cons_zero]; rfl) (by kernel_rfl) (by exact fun _ _ _ h => h) (by first | assumption | exact KB.refl _) (.inl ⟨by rfl, fun W hW => ?_⟩) ?_; rotate_left
      · (go_simp; first | done | with_reducible rfl)
      try simp only [Act.put, List.setIfInBounds_toArray, List.set_cons_zero, List.set_cons_succ]
      refine bdone (by kernel_rfl) ?_
      go_wp2_with fail
      go_roundw
      case rel => exact ⟨.inr (.inl ⟨rfl, hl⟩), hbel.drew⟩
      case measure => simp [intOf]
    · have hl : 1 < b.length := by omega
      obtain ⟨bk, o, rfl, _, hbW, hcell⟩ := hs1.at_ (k := 1) (by simpa using hl)
      have d0 := cellB (hcell 1 _ (bv_get b 1 hl))
      try simp only [Nat.add_zero] at d0
      have k0 : (b[1]?.getD 0).toNat = at_ b 1 := rfl
      rw [k0, H78.out.2 hl] at d0
      have hil : (1 : Int) < (b.length : Int) := by omega
      clear hcell k0
      go_wp2_with fail
      refine bstart (by kernel_rfl) ?_
      refine btake 0 (oi := _) (v := ?_) (by simp only [List.getElem?_toArray, List.getElem?_cons_zero]; rfl) (by kernel_rfl) (by exact fun _ _ _ h => h) (by first | assumption | exact KB.refl _) (.inl ⟨by rfl, fun W hW => ?_⟩) ?_; rotate_left
      · (go_simp; first | done | with_reducible rfl)
      try simp only [Act.put, List.setIfInBounds_toArray, List.set_cons_zero, List.set_cons_succ]
      refine btake 1 (oi := _) (v := ?_) (by simp only [List.getElem?_toArray, List.getElem?_cons_succ, List.getElem?_cons_zero]; rfl) (by kernel_rfl) (by exact fun _ _ _ h => h) (by first | assumption | exact KB.refl _) (.inl ⟨by rfl, fun W hW => ?_⟩) ?_; rotate_left
      · (go_simp; first | done | with_reducible rfl)
      try simp only [Act.put, List.setIfInBounds_toArray, List.set_cons_zero, List.set_cons_succ]
      refine btake 2 (oi := _) (v := ?_) (by simp only [List.getElem?_toArray, List.getElem?_cons_succ, List.getElem?_cons_zero]; rfl) (by kernel_rfl) (by exact fun _ _ _ h => h) (by first | assumption | exact KB.refl _) (.inl ⟨by rfl, fun W hW => ?_⟩) ?_; rotate_left
      · (go_simp; first | done | with_reducible rfl)
      try simp only [Act.put, List.setIfInBounds_toArray, List.set_cons_zero, List.set_cons_succ]
      refine btake 3 (oi := _) (v := ?_) (by simp only [List.getElem?_toArray, List.getElem?_cons_succ, List.getElem?_cons_zero]; rfl) (by kernel_rfl) (by exact fun _ _ _ h => h) (by first | assumption | exact KB.refl _) (.inl ⟨by rfl, fun W hW => ?_⟩) ?_; rotate_left
      · (go_simp; first | done | with_reducible rfl)
      try simp only [Act.put, List.setIfInBounds_toArray, List.set_cons_zero, List.set_cons_succ]
      refine btake 4 (oi := _) (v := ?_) (by simp only [List.getElem?_toArray, List.getElem?_cons_succ, List.getElem?_cons_zero]; rfl) (by kernel_rfl) (by exact fun _ _ _ h => h) (by first | assumption | exact KB.refl _) (.inl ⟨by rfl, fun W hW => ?_⟩) ?_; rotate_left
      · (go_simp; first | done | with_reducible rfl)
      try simp only [Act.put, List.setIfInBounds_toArray, List.set_cons_zero, List.set_cons_succ]
      refine btake 5 (oi := _) (v := ?_) (by simp only [List.getElem?_toArray, List.getElem?_cons_succ, List.getElem?_cons_zero]; rfl) (by kernel_rfl) (by exact fun _ _ _ h => h) (by first | assumption | exact KB.refl _) (.inl ⟨by rfl, fun W hW => ?_⟩) ?_; rotate_left
      · go_simp
        show _ = Value.int .u8 82
        rfl
      try simp only [Act.put, List.setIfInBounds_toArray, List.set_cons_zero, List.set_cons_succ]
      refine btake 6 (oi := _) (v := ?_) (by simp only [List.getElem?_toArray, List.getElem?_cons_succ, List.getElem?_cons_zero]; rfl) (by kernel_rfl) (by exact fun _ _ _ h => h) (by first | assumption | exact KB.refl _) (.inl ⟨by rfl, fun W hW => ?_⟩) ?_; rotate_left
      · (go_simp; first | done | with_reducible rfl)
      try simp only [Act.put, List.setIfInBounds_toArray, List.set_cons_zero, List.set_cons_succ]
      refine bdone (by kernel_rfl) ?_
      go_wp2_with fail
      go_roundw
      case rel => exact ⟨.inr (.inr ⟨rfl, hl⟩), hbel.drew⟩
      case measure => simp [intOf]
    · clear hl1
      obtain ⟨bk, o, rfl, _, hbW, hcell⟩ := hs1.at_ (k := 0) (by simp; omega)
      have h9i : ((b.length : Int) < 9) = False := by simp; omega
      have hs37 : Sl wr wr.heap.size (some ⟨bk, o + 3, none⟩) (bv ((b.drop 3).take 4)) := by
        have := (hs1.cut 3 c (by simpa using hcl)).tk 4
        rw [bv_drop, bv_take, if_neg (by omega), Option.map_some, addN] at this
        exact this
      have d2 := cellB (hcell 2 _ (bv_get b 2 (by omega)))
      have d7 := cellB (hcell 7 _ (bv_get b 7 (by omega)))
      have d8 := cellB (hcell 8 _ (bv_get b 8 (by omega)))
      have k2 : (b[2]?.getD 0).toNat = y2 := YY.out.1
      have k7 : (b[7]?.getD 0).toNat = y7 := YY.out.2.1
      have k8 : (b[8]?.getD 0).toNat = y8 := YY.out.2.2
      rw [k2] at d2
      rw [k7] at d7
      rw [k8] at d8
      have hc3 : ¬ c = 3 := by omega
      have hc7 : 7 ≤ c := by omega
      have HB2 := Lib.hid (fun W (hW : KB wr.heap W) => RefBig_lit W wr.heap.size (some ⟨bk, o + 3, none⟩) 4 (c - 3) ((b.drop 3).take 4) _ (hs37.kb hW) (by simp; omega) (by omega) (by omega) HG.out)
      clear hcell k2 k7 k8 hs37
      have i2 : (2 : Int) < (b.length : Int) := by omega
      have i7 : (7 : Int) < (b.length : Int) := by omega
      have i8 : (8 : Int) < (b.length : Int) := by omega
      have i37 : (7 : Int) ≤ (c : Int) := by omega
      go_wp2_with fail
      have hS0 : KB wr.heap wr.drew := KB.refl wr
      refine bstartH (wr.heap) (by kernel_rfl) ?_
      refine btake 0 (oi := _) (v := ?_) (by simp only [List.getElem?_toArray, List.getElem?_cons_zero]; rfl) (by kernel_rfl) (by exact fun _ _ _ h => h) (by first | assumption | exact KB.refl _) (.inl ⟨by rfl, fun W hW => ?_⟩) ?_; rotate_left
      · (go_simp; first | done | with_reducible rfl)
      try simp only [Act.put, List.setIfInBounds_toArray, List.set_cons_zero, List.set_cons_succ]
      refine btake 1 (oi := _) (v := ?_) (by simp only [List.getElem?_toArray, List.getElem?_cons_succ, List.getElem?_cons_zero]; rfl) (by kernel_rfl) (by exact fun _ _ _ h => h) (by first | assumption | exact KB.refl _) (.inl ⟨by rfl, fun W hW => ?_⟩) ?_; rotate_left
      · (go_simp; first | done | with_reducible rfl)
      try simp only [Act.put, List.setIfInBounds_toArray, List.set_cons_zero, List.set_cons_succ]
      refine btake 2 (oi := _) (v := ?_) (by simp only [List.getElem?_toArray, List.getElem?_cons_succ, List.getElem?_cons_zero]; rfl) (by kernel_rfl) (by exact fun _ _ _ h => h) (by first | assumption | exact KB.refl _) (.inl ⟨by rfl, fun W hW => ?_⟩) ?_; rotate_left
      · (go_simp; first | done | with_reducible rfl)
      try simp only [Act.put, List.setIfInBounds_toArray, List.set_cons_zero, List.set_cons_succ]
      refine btake 3 (oi := _) (v := ?_) (by simp only [List.getElem?_toArray, List.getElem?_cons_succ, List.getElem?_cons_zero]; rfl) (by kernel_rfl) (by exact fun _ _ _ h => h) (by first | assumption | exact KB.refl _) (.inl ⟨by rfl, fun W hW => ?_⟩) ?_; rotate_left
      · (go_simp; first | done | with_reducible rfl)
      try simp only [Act.put, List.setIfInBounds_toArray, List.set_cons_zero, List.set_cons_succ]
      refine btake 4 (oi := _) (v := ?_) (by simp only [List.getElem?_toArray, List.getElem?_cons_succ, List.getElem?_cons_zero]; rfl) (by kernel_rfl) (by exact fun _ _ _ h => h) (by first | assumption | exact KB.refl _) (.inl ⟨by rfl, fun W hW => ?_⟩) ?_; rotate_left
      · (go_simp; first | done | with_reducible rfl)
      try simp only [Act.put, List.setIfInBounds_toArray, List.set_cons_zero, List.set_cons_succ]
      refine btake 5 (oi := _) (v := ?_) (by simp only [List.getElem?_toArray, List.getElem?_cons_succ, List.getElem?_cons_zero]; rfl) (by kernel_rfl) (by exact fun _ _ _ h => h) (by first | assumption | exact KB.refl _) (.inl ⟨by rfl, fun W hW => ?_⟩) ?_; rotate_left
      · (go_simp; first | done | with_reducible rfl)
      try simp only [Act.put, List.setIfInBounds_toArray, List.set_cons_zero, List.set_cons_succ]
      -- 6: newsreel/newsreelref1.Big
      refine bquiet 6 (oi := _) ?_ (by simp only [List.getElem?_toArray, List.getElem?_cons_succ, List.getElem?_cons_zero]; rfl) (by kernel_rfl) (by exact fun _ _ _ h => h) (by first | assumption | exact KB.refl _) (by rfl) (fun W hW => by go_simp; first | done | exact ⟨rfl, rfl⟩ | rfl) (fun W hW => ?_) ?_; rotate_left
      · exact HB2.out W hW
      try simp only [Act.put, List.setIfInBounds_toArray, List.set_cons_zero, List.set_cons_succ]
      refine btake 7 (oi := _) (v := ?_) (by simp only [List.getElem?_toArray, List.getElem?_cons_succ, List.getElem?_cons_zero]; rfl) (by kernel_rfl) (by exact fun _ _ _ h => h) (by first | assumption | exact KB.refl _) (.inl ⟨by rfl, fun W hW => ?_⟩) ?_; rotate_left
      · (go_simp; first | done | with_reducible rfl)
      try simp only [Act.put, List.setIfInBounds_toArray, List.set_cons_zero, List.set_cons_succ]
      refine btake 8 (oi := _) (v := ?_) (by simp only [List.getElem?_toArray, List.getElem?_cons_succ, List.getElem?_cons_zero]; rfl) (by kernel_rfl) (by exact fun _ _ _ h => h) (by first | assumption | exact KB.refl _) (.inl ⟨by rfl, fun W hW => ?_⟩) ?_; rotate_left
      · (go_simp; first | done | with_reducible rfl)
      try simp only [Act.put, List.setIfInBounds_toArray, List.set_cons_zero, List.set_cons_succ]
      refine btake 9 (oi := _) (v := ?_) (by simp only [List.getElem?_toArray, List.getElem?_cons_succ, List.getElem?_cons_zero]; rfl) (by kernel_rfl) (by exact fun _ _ _ h => h) (by first | assumption | exact KB.refl _) (.inl ⟨by rfl, fun W hW => ?_⟩) ?_; rotate_left
      · (go_simp; first | done | with_reducible rfl)
      try simp only [Act.put, List.setIfInBounds_toArray, List.set_cons_zero, List.set_cons_succ]
      refine btake 10 (oi := _) (v := ?_) (by simp only [List.getElem?_toArray, List.getElem?_cons_succ, List.getElem?_cons_zero]; rfl) (by kernel_rfl) (by exact fun _ _ _ h => h) (by first | assumption | exact KB.refl _) (.inl ⟨by rfl, fun W hW => ?_⟩) ?_; rotate_left
      · (go_simp; first | done | with_reducible rfl)
      try simp only [Act.put, List.setIfInBounds_toArray, List.set_cons_zero, List.set_cons_succ]
      refine btake 11 (oi := _) (v := ?_) (by simp only [List.getElem?_toArray, List.getElem?_cons_succ, List.getElem?_cons_zero]; rfl) (by kernel_rfl) (by exact fun _ _ _ h => h) (by first | assumption | exact KB.refl _) (.inl ⟨by rfl, fun W hW => ?_⟩) ?_; rotate_left
      · (go_simp; first | done | with_reducible rfl)
      try simp only [Act.put, List.setIfInBounds_toArray, List.set_cons_zero, List.set_cons_succ]
      refine btake 12 (oi := _) (v := ?_) (by simp only [List.getElem?_toArray, List.getElem?_cons_succ, List.getElem?_cons_zero]; rfl) (by kernel_rfl) (by exact fun _ _ _ h => h) (by first | assumption | exact KB.refl _) (.inl ⟨by rfl, fun W hW => ?_⟩) ?_; rotate_left
      · (go_simp; first | done | with_reducible rfl)
      try simp only [Act.put, List.setIfInBounds_toArray, List.set_cons_zero, List.set_cons_succ]
      refine btake 13 (oi := _) (v := ?_) (by simp only [List.getElem?_toArray, List.getElem?_cons_succ, List.getElem?_cons_zero]; rfl) (by kernel_rfl) (by exact fun _ _ _ h => h) (by first | assumption | exact KB.refl _) (.inl ⟨by rfl, fun W hW => ?_⟩) ?_; rotate_left
      · (go_simp; first | done | with_reducible rfl)
      try simp only [Act.put, List.setIfInBounds_toArray, List.set_cons_zero, List.set_cons_succ]
      refine btake 14 (oi := _) (v := ?_) (by simp only [List.getElem?_toArray, List.getElem?_cons_succ, List.getElem?_cons_zero]; rfl) (by kernel_rfl) (by exact fun _ _ _ h => h) (by first | assumption | exact KB.refl _) (.inl ⟨by rfl, fun W hW => ?_⟩) ?_; rotate_left
      · (go_simp; first | done | with_reducible rfl)
      try simp only [Act.put, List.setIfInBounds_toArray, List.set_cons_zero, List.set_cons_succ]
      refine btake 15 (oi := _) (v := ?_) (by simp only [List.getElem?_toArray, List.getElem?_cons_succ, List.getElem?_cons_zero]; rfl) (by kernel_rfl) (by exact fun _ _ _ h => h) (by first | assumption | exact KB.refl _) (.inl ⟨by rfl, fun W hW => ?_⟩) ?_; rotate_left
      · (go_simp; first | done | with_reducible rfl)
      try simp only [Act.put, List.setIfInBounds_toArray, List.set_cons_zero, List.set_cons_succ]
      refine btake 16 (oi := _) (v := ?_) (by simp only [List.getElem?_toArray, List.getElem?_cons_succ, List.getElem?_cons_zero]; rfl) (by kernel_rfl) (by exact fun _ _ _ h => h) (by first | assumption | exact KB.refl _) (.inl ⟨by rfl, fun W hW => ?_⟩) ?_; rotate_left
      · (go_simp; first | done | with_reducible rfl)
      try simp only [Act.put, List.setIfInBounds_toArray, List.set_cons_zero, List.set_cons_succ]
      -- 17: Op.alloc 47
      refine bopH 17 (o := _) (by simp only [List.getElem?_toArray, List.getElem?_cons_succ, List.getElem?_cons_zero]; rfl) (by kernel_rfl) (by first | assumption | exact KB.refl _) (by rfl) (fun K hK => ?_)
      go_simp
      have hkb : KB wr.heap (wr.alloc (.cells #[.int .i64 0, .int .u32 0, .int .i64 0, .int .i64 0, .slice none 0 0] 47)).drew := KB.alloc wr _
      refine hK.out _ _ hkb ?_; clear hK K
      try simp only [Act.put, List.setIfInBounds_toArray, List.set_cons_zero, List.set_cons_succ]
      -- 18: Op.store 47 (Operand.tmp 9) (Operand.tmp 51)
      refine bopH 18 (o := _) (by simp only [List.getElem?_toArray, List.getElem?_cons_succ, List.getElem?_cons_zero]; rfl) (by kernel_rfl) (by first | assumption | exact KB.refl _) (by rfl) (fun K hK => ?_)
      go_simp
      have hkb : KB wr.heap (wr.alloc (.cells #[.int .i64 (y2 : Int), .int .u32 (gg : Int), .int .i64 (y7 : Int), .int .i64 (y8 : Int), .slice none 0 0] 47)).drew := KB.alloc wr _
      refine hK.out _ _ hkb ?_; clear hK K
      try simp only [Act.put, List.setIfInBounds_toArray, List.set_cons_zero, List.set_cons_succ]
      refine bdone (by kernel_rfl) ?_
      have hF := (At.new wr 47 #[.int .i64 (y2 : Int), .int .u32 (gg : Int), .int .i64 (y7 : Int), .int .i64 (y8 : Int), .slice none 0 0]).drew
      have hA2 := (hA1.alloc (.cells #[.int .i64 (y2 : Int), .int .u32 (gg : Int), .int .i64 (y7 : Int), .int .i64 (y8 : Int), .slice none 0 0] 47)).drew
      have b2 := (b1.alloc b1.size (.cells #[.int .i64 (y2 : Int), .int .u32 (gg : Int), .int .i64 (y7 : Int), .int .i64 (y8 : Int), .slice none 0 0] 47)).drew
      have hs2 : Sl (wr.alloc (.cells #[.int .i64 (y2 : Int), .int .u32 (gg : Int), .int .i64 (y7 : Int), .int .i64 (y8 : Int), .slice none 0 0] 47)).drew (wr.alloc (.cells #[.int .i64 (y2 : Int), .int .u32 (gg : Int), .int .i64 (y7 : Int), .int .i64 (y8 : Int), .slice none 0 0] 47)).drew.heap.size (some ⟨bk, o, none⟩) (bv b) := (hs1.alloc _).more (by show wr.heap.size ≤ (wr.alloc _).heap.size; simp)
      have hFw : wr.heap.size ≠ w.heap.size := by have := hA1.lt; omega
      clear d2 d7 d8 hkb hS0 i2 i7 i8 i37 HB2 h9i
      generalize (wr.alloc (.cells #[.int .i64 (y2 : Int), .int .u32 (gg : Int), .int .i64 (y7 : Int), .int .i64 (y8 : Int), .slice none 0 0] 47)).drew = w2 at *
      generalize wr.heap.size = gF at *
      clear hs1 hA1 b1
      have u0 := hF.c 0 rfl
      have u1 := hF.c 1 rfl
      have u2 := hF.c 2 rfl
      have u3 := hF.c 3 rfl
      have u4 := hF.c 4 rfl
      go_wp2_with fail
      refine (HK.out w2).mono ?_
      rintro e w3 ⟨rfl, hb3⟩
      replace hA2 := hA2.below hb3
      replace hF := hF.below hb3
      replace b2 := b2.trans (hb3.mono b2.size)
      replace hs2 := (hs2.below hb3).more hb3.size
      clear u0 u1 u2 u3 u4 hb3
      have HT := Lib.hid (RTake_tup w3 w3.heap.size (some ⟨bk, o + 9, none⟩) (b.length - 9) (c - 9) (b.drop 9) tv tk 0 (by have := hs2.cut 9 c (by simpa using hcl); rw [bv_drop, if_neg hcn, Option.map_some, addN] at this; exact this) (by simp) (by omega) (by omega) HT0.out)
      go_wp2_with fail
      refine HT.out.mono ?_
      rintro e w4 ⟨rfl, rfl⟩
      go_wp2_with fail
      refine (HH.out _).mono ?_
      rintro e w5 ⟨rfl, rfl⟩
      have a0 := hA2.c 0 rfl
      have a1 := hA2.c 1 rfl
      have a2 := hA2.c 2 rfl
      have a3 := hA2.c 3 rfl
      have a4 := hA2.c 4 rfl
      have f0 := hA2.f 0 rfl
      have f1 := hA2.f 1 rfl
      have f2 := hA2.f 2 rfl
      have f3 := hA2.f 3 rfl
      have f4 := hA2.f 4 rfl
      have u0 := hF.c 0 rfl
      have u1 := hF.c 1 rfl
      have u2 := hF.c 2 rfl
      have u3 := hF.c 3 rfl
      have u4 := hF.c 4 rfl
      have hP9 := hA2.putL [.int .i64 (y2 : Int), .int .u32 (gg : Int), .int .i64 (y7 : Int), .int .i64 (y8 : Int), .slice none 0 0] rfl
      have bP := below_putL [.int .i64 (y2 : Int), .int .u32 (gg : Int), .int .i64 (y7 : Int), .int .i64 (y8 : Int), .slice none 0 0] 0 b2 (g := w.heap.size) (Nat.le_refl _)
      simp only [putL, Nat.zero_add, Nat.reduceAdd] at hP9 bP
      go_wp2_with fail
      have z0 := hP9.c 0 rfl
      have z1 := hP9.c 1 rfl
      have z2 := hP9.c 2 rfl
      have z3 := hP9.c 3 rfl
      have z4 := hP9.c 4 rfl
      rw [hfr]
      exact bodyPost_ret (v := .tuple #[.agg #[.int .i64 (y2 : Int), .int .u32 (gg : Int), .int .i64 (y7 : Int), .int .i64 (y8 : Int), .slice none 0 0], .int .i64 (9 + (tk : Int)), .int .i64 (tv : Int), .int .i64 0]) (by simp [results, Try.results59, go_sem, z0, z1, z2, z3, z4]) rfl ⟨by simp [Fr.v], bP⟩
end Go.Proofs.Ytkgmbpbbgkjidaa

