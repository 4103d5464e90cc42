/- Frames: the document's head. -/
import Derived.Test.YtkgmbpbbgkjidaaFrR
namespace Go.Proofs.Ytkgmbpbbgkjidaa
open Go.RowKit Go.Proofs.Ytkgmbpbbgkjidaa.Pl Go.Proofs.Ytkgmbpbbgkjidaa.Pc

/-- the head's frame: no payload yet -/
def hdF (b : List UInt8) : Fr := ⟨(at_ b 2 : Int), bigF 0 ((b.drop 3).take 4), (at_ b 7 : Int), (at_ b 8 : Int), []⟩
def HeadPost (w : World) (fr : Fr) (p q e0 : Nat) (e : Ending) (w' : World) : Prop := e = .returned (.tuple #[fr.v none 0, .int .i64 (p : Int), .int .i64 (q : Int), .int .i64 (e0 : Int)]) ∧ Below w.heap.size w w'
set_option linter.unusedVariables false in
theorem take2 {b : List UInt8} (he : b.take 2 = ([78, 82] : List UInt8).take b.length) : (∀ h : 0 < b.length, at_ b 0 = 78) ∧ (∀ h : 1 < b.length, at_ b 1 = 82) := by
  match b, he with
  | [], _ => exact ⟨fun h => by simp at h, fun h => by simp at h⟩
  | [x], he => simp at he; subst he; exact ⟨fun _ => rfl, fun h => by simp at h⟩
  | x :: y :: t, he => simp at he; obtain ⟨rfl, rfl⟩ := he; exact ⟨fun _ => rfl, fun _ => rfl⟩
set_option linter.unusedVariables false in
theorem take2_not {b : List UInt8} (h0 : ∀ h : 0 < b.length, at_ b 0 = 78) (h1 : ∀ h : 1 < b.length, at_ b 1 = 82) : b.take 2 = ([78, 82] : List UInt8).take b.length := by
  have conv : ∀ (x : UInt8) (m : Nat), x.toNat = m → m < 256 → x = UInt8.ofNat m := fun x m h _ => by rw [← h]; simp
  match b, h0, h1 with
  | [], _, _ => rfl
  | [x], h0, _ =>
    have := conv x 78 (h0 (by simp)) (by omega)
    subst this; rfl
  | x :: y :: t, h0, h1 =>
    have e1 := conv x 78 (h0 (by simp)) (by omega)
    have e2 := conv y 82 (h1 (by simp)) (by omega)
    subst e1 e2; simp
set_option maxRecDepth 100000 in
set_option maxHeartbeats 3200000 in
theorem Rhead_nr (w : World) (A : Option Addr) (n c : Nat) (b : List UInt8) (limit : Int) (hb : Sl w w.heap.size A (bv b)) (h0 : n = b.length) (hc : n ≤ c) (_hm : c ≤ maxLen) (hne : b.take 2 ≠ ([78, 82] : List UInt8).take b.length) :
    Calls Try.prog 59 #[.slice A n c, .int .i64 limit] w (HeadPost w zeroF 0 0 21) := by
  subst h0
  have hA := At.new w 47 #[.int .i64 0, .int .u32 0, .int .i64 0, .int .i64 0, .slice none 0 0]
  have b0 := balloc (Below.refl w.heap.size w) (.cells #[.int .i64 0, .int .u32 0, .int .i64 0, .int .i64 0, .slice none 0 0] 47)
  have hs := (hb.below b0).more b0.size
  have hno : ¬ ((∀ h : 0 < b.length, at_ b 0 = 78) ∧ (∀ h : 1 < b.length, at_ b 1 = 82)) := fun h => hne (take2_not h.1 h.2)
  clear hne
  go_enter Try.func59, Try.ntmps59
  go_wp2_with fail
  generalize w.alloc (.cells #[.int .i64 0, .int .u32 0, .int .i64 0, .int .i64 0, .slice none 0 0] 47) = w1 at *
  have HNO := Lib.hid hno
  clear hno
  go_loopw [8] (fun x8 wr => (x8 = .int .i64 0 ∨ (x8 = .int .i64 1 ∧ 0 < b.length ∧ at_ b 0 = 78)) ∧ Below w1.heap.size w1 wr) (fun x8 _ => 2 - (intOf x8).toNat)
  case atStart => exact ⟨.inl rfl, Below.refl _ _⟩
  case round =>
    obtain ⟨hx, hbel⟩ := hrel
    have hA1 := hA.below hbel
    have b1 := b0.trans (hbel.mono b0.size)
    have hs1 := (hs.below hbel).more hbel.size
    rcases hx with rfl | ⟨rfl, hl0, h78⟩
    · by_cases hl : 0 < b.length
      · obtain ⟨bk, o, rfl, _, hbW, hcell⟩ := hs1.at_ (k := 0) (by simpa using hl)
        have d0 := cellB (hcell 0 _ (bv_get b 0 hl))
        simp only [Nat.add_zero] at d0
        have k0 : (b[0]?.getD 0).toNat = at_ b 0 := rfl
        rw [k0] at d0
        have hil : (0 : Int) < (b.length : Int) := by omega
        by_cases hy : at_ b 0 = 78
        · rw [hy] at d0
          clear hcell k0
          go_wp2_with fail
          refine bstart (by kernel_rfl) ?_
          refine btake 0 (oi := _) (v := ?_) (by simp only [List.getElem?_toArray, List.getElem?_cons_zero]; rfl) (by kernel_rfl) (by exact fun _ _ _ h => h) (by first | assumption | exact KB.refl _) (.inl ⟨by rfl, fun W hW => ?_⟩) ?_; rotate_left
          · (go_simp; first | done | with_reducible rfl)
          try simp only [Act.put, List.setIfInBounds_toArray, List.set_cons_zero, List.set_cons_succ]
          refine btake 1 (oi := _) (v := ?_) (by simp only [List.getElem?_toArray, List.getElem?_cons_succ, List.getElem?_cons_zero]; rfl) (by kernel_rfl) (by exact fun _ _ _ h => h) (by first | assumption | exact KB.refl _) (.inl ⟨by rfl, fun W hW => ?_⟩) ?_; rotate_left
          · (go_simp; first | done | with_reducible rfl)
          try simp only [Act.put, List.setIfInBounds_toArray, List.set_cons_zero, List.set_cons_succ]
          refine btake 2 (oi := _) (v := ?_) (by simp only [List.getElem?_toArray, List.getElem?_cons_succ, List.getElem?_cons_zero]; rfl) (by kernel_rfl) (by exact fun _ _ _ h => h) (by first | assumption | exact KB.refl _) (.inl ⟨by rfl, fun W hW => ?_⟩) ?_; rotate_left
          · (go_simp; first | done | with_reducible rfl)
          try simp only [Act.put, List.setIfInBounds_toArray, List.set_cons_zero, List.set_cons_succ]
          refine btake 3 (oi := _) (v := ?_) (by simp only [List.getElem?_toArray, List.getElem?_cons_succ, List.getElem?_cons_zero]; rfl) (by kernel_rfl) (by exact fun _ _ _ h => h) (by first | assumption | exact KB.refl _) (.inl ⟨by rfl, fun W hW => ?_⟩) ?_; rotate_left
          · (go_simp; first | done | with_reducible rfl)
          try simp only [Act.put, List.setIfInBounds_toArray, List.set_cons_zero, List.set_cons_succ]
          refine btake 4 (oi := _) (v := ?_) (by simp only [List.getElem?_toArray, List.getElem?_cons_succ, List.getElem?_cons_zero]; rfl) (by kernel_rfl) (by exact fun _ _ _ h => h) (by first | assumption | exact KB.refl _) (.inl ⟨by rfl, fun W hW => ?_⟩) ?_; rotate_left
          · (go_simp; first | done | with_reducible rfl)
          try simp only [Act.put, List.setIfInBounds_toArray, List.set_cons_zero, List.set_cons_succ]
          refine btake 5 (oi := _) (v := ?_) (by simp only [List.getElem?_toArray, List.getElem?_cons_succ, List.getElem?_cons_zero]; rfl) (by kernel_rfl) (by exact fun _ _ _ h => h) (by first | assumption | exact KB.refl _) (.inl ⟨by rfl, fun W hW => ?_⟩) ?_; rotate_left
          · go_simp
            show _ = Value.int .u8 78
            rfl
          try simp only [Act.put, List.setIfInBounds_toArray, List.set_cons_zero, List.set_cons_succ]
          refine btake 6 (oi := _) (v := ?_) (by simp only [List.getElem?_toArray, List.getElem?_cons_succ, List.getElem?_cons_zero]; rfl) (by kernel_rfl) (by exact fun _ _ _ h => h) (by first | assumption | exact KB.refl _) (.inl ⟨by rfl, fun W hW => ?_⟩) ?_; rotate_left
          · (go_simp; first | done | with_reducible rfl)
          try simp only [Act.put, List.setIfInBounds_toArray, List.set_cons_zero, List.set_cons_succ]
          refine bdone (by kernel_rfl) ?_
          go_wp2_with fail
          go_roundw
          case rel => exact ⟨.inr ⟨rfl, hl, hy⟩, hbel.drew⟩
          case measure => simp [intOf]
        · have hyb : at_ b 0 < 256 := UInt8.toNat_lt _
          generalize at_ b 0 = y at *
          have q1 : ((y : Int) == 78) = false := by simp; omega
          have q2 : ((y : Int) != 78) = true := by simp; omega
          clear hcell k0
          go_wp2_with fail
          refine bstart (by kernel_rfl) ?_
          refine btake 0 (oi := _) (v := ?_) (by simp only [List.getElem?_toArray, List.getElem?_cons_zero]; rfl) (by kernel_rfl) (by exact fun _ _ _ h => h) (by first | assumption | exact KB.refl _) (.inl ⟨by rfl, fun W hW => ?_⟩) ?_; rotate_left
          · (go_simp; first | done | with_reducible rfl)
          try simp only [Act.put, List.setIfInBounds_toArray, List.set_cons_zero, List.set_cons_succ]
          refine btake 1 (oi := _) (v := ?_) (by simp only [List.getElem?_toArray, List.getElem?_cons_succ, List.getElem?_cons_zero]; rfl) (by kernel_rfl) (by exact fun _ _ _ h => h) (by first | assumption | exact KB.refl _) (.inl ⟨by rfl, fun W hW => ?_⟩) ?_; rotate_left
          · (go_simp; first | done | with_reducible rfl)
          try simp only [Act.put, List.setIfInBounds_toArray, List.set_cons_zero, List.set_cons_succ]
          refine btake 2 (oi := _) (v := ?_) (by simp only [List.getElem?_toArray, List.getElem?_cons_succ, List.getElem?_cons_zero]; rfl) (by kernel_rfl) (by exact fun _ _ _ h => h) (by first | assumption | exact KB.refl _) (.inl ⟨by rfl, fun W hW => ?_⟩) ?_; rotate_left
          · (go_simp; first | done | with_reducible rfl)
          try simp only [Act.put, List.setIfInBounds_toArray, List.set_cons_zero, List.set_cons_succ]
          refine btake 3 (oi := _) (v := ?_) (by simp only [List.getElem?_toArray, List.getElem?_cons_succ, List.getElem?_cons_zero]; rfl) (by kernel_rfl) (by exact fun _ _ _ h => h) (by first | assumption | exact KB.refl _) (.inl ⟨by rfl, fun W hW => ?_⟩) ?_; rotate_left
          · (go_simp; first | done | with_reducible rfl)
          try simp only [Act.put, List.setIfInBounds_toArray, List.set_cons_zero, List.set_cons_succ]
          refine btake 4 (oi := _) (v := ?_) (by simp only [List.getElem?_toArray, List.getElem?_cons_succ, List.getElem?_cons_zero]; rfl) (by kernel_rfl) (by exact fun _ _ _ h => h) (by first | assumption | exact KB.refl _) (.inl ⟨by rfl, fun W hW => ?_⟩) ?_; rotate_left
          · (go_simp; first | done | with_reducible rfl)
          try simp only [Act.put, List.setIfInBounds_toArray, List.set_cons_zero, List.set_cons_succ]
          refine btake 5 (oi := _) (v := ?_) (by simp only [List.getElem?_toArray, List.getElem?_cons_succ, List.getElem?_cons_zero]; rfl) (by kernel_rfl) (by exact fun _ _ _ h => h) (by first | assumption | exact KB.refl _) (.inl ⟨by rfl, fun W hW => ?_⟩) ?_; rotate_left
          · go_simp
            show _ = Value.int .u8 78
            rfl
          try simp only [Act.put, List.setIfInBounds_toArray, List.set_cons_zero, List.set_cons_succ]
          refine btake 6 (oi := _) (v := ?_) (by simp only [List.getElem?_toArray, List.getElem?_cons_succ, List.getElem?_cons_zero]; rfl) (by kernel_rfl) (by exact fun _ _ _ h => h) (by first | assumption | exact KB.refl _) (.inl ⟨by rfl, fun W hW => ?_⟩) ?_; rotate_left
          · (go_simp; first | done | with_reducible rfl)
          try simp only [Act.put, List.setIfInBounds_toArray, List.set_cons_zero, List.set_cons_succ]
          refine bdone (by kernel_rfl) ?_
          have hA2 := hA1.drew
          have b2 := b1.drew
          have hP9 := hA1.putL [.int .i64 0, .int .u32 0, .int .i64 0, .int .i64 0, .slice none 0 0] rfl
          have bP := below_putL [.int .i64 0, .int .u32 0, .int .i64 0, .int .i64 0, .slice none 0 0] 0 b2 (g := w.heap.size) (Nat.le_refl _)
          have a0 := hA1.c 0 rfl
          have a1 := hA1.c 1 rfl
          have a2 := hA1.c 2 rfl
          have a3 := hA1.c 3 rfl
          have a4 := hA1.c 4 rfl
          have f0 := hA1.f 0 rfl
          have f1 := hA1.f 1 rfl
          have f2 := hA1.f 2 rfl
          have f3 := hA1.f 3 rfl
          have f4 := hA1.f 4 rfl
          simp only [putL, Nat.zero_add, Nat.reduceAdd] at hP9 bP
          go_wp2_with fail
          have z0 := hP9.c 0 rfl
          have z1 := hP9.c 1 rfl
          have z2 := hP9.c 2 rfl
          have z3 := hP9.c 3 rfl
          have z4 := hP9.c 4 rfl
          exact bodyPost_ret (v := .tuple #[.agg #[.int .i64 0, .int .u32 0, .int .i64 0, .int .i64 0, .slice none 0 0], .int .i64 0, .int .i64 0, .int .i64 21]) (by simp [results, Try.results59, go_sem, z0, z1, z2, z3, z4]) rfl ⟨rfl, bP⟩
      · exact absurd ⟨fun h => absurd h hl, fun h => absurd (by omega) hl⟩ HNO.out
    · by_cases hl : 1 < b.length
      · obtain ⟨bk, o, rfl, _, hbW, hcell⟩ := hs1.at_ (k := 1) (by simpa using hl)
        have d0 := cellB (hcell 1 _ (bv_get b 1 hl))
        have k0 : (b[1]?.getD 0).toNat = at_ b 1 := rfl
        rw [k0] at d0
        have hil : (1 : Int) < (b.length : Int) := by omega
        have hy : at_ b 1 ≠ 82 := fun hy => HNO.out ⟨fun _ => h78, fun _ => hy⟩
        have hyb : at_ b 1 < 256 := UInt8.toNat_lt _
        clear h78 HNO
        generalize at_ b 1 = y at *
        have q1 : ((y : Int) == 82) = false := by simp; omega
        have q2 : ((y : Int) != 82) = true := by simp; omega
        clear hcell k0
        go_wp2_with fail
        refine bstart (by kernel_rfl) ?_
        refine btake 0 (oi := _) (v := ?_) (by simp only [List.getElem?_toArray, List.getElem?_cons_zero]; rfl) (by kernel_rfl) (by exact fun _ _ _ h => h) (by first | assumption | exact KB.refl _) (.inl ⟨by rfl, fun W hW => ?_⟩) ?_; rotate_left
        · (go_simp; first | done | with_reducible rfl)
        try simp only [Act.put, List.setIfInBounds_toArray, List.set_cons_zero, List.set_cons_succ]
        refine btake 1 (oi := _) (v := ?_) (by simp only [List.getElem?_toArray, List.getElem?_cons_succ, List.getElem?_cons_zero]; rfl) (by kernel_rfl) (by exact fun _ _ _ h => h) (by first | assumption | exact KB.refl _) (.inl ⟨by rfl, fun W hW => ?_⟩) ?_; rotate_left
        · (go_simp; first | done | with_reducible rfl)
        try simp only [Act.put, List.setIfInBounds_toArray, List.set_cons_zero, List.set_cons_succ]
        refine btake 2 (oi := _) (v := ?_) (by simp only [List.getElem?_toArray, List.getElem?_cons_succ, List.getElem?_cons_zero]; rfl) (by kernel_rfl) (by exact fun _ _ _ h => h) (by first | assumption | exact KB.refl _) (.inl ⟨by rfl, fun W hW => ?_⟩) ?_; rotate_left
        · (go_simp; first | done | with_reducible rfl)
        try simp only [Act.put, List.setIfInBounds_toArray, List.set_cons_zero, List.set_cons_succ]
        refine btake 3 (oi := _) (v := ?_) (by simp only [List.getElem?_toArray, List.getElem?_cons_succ, List.getElem?_cons_zero]; rfl) (by kernel_rfl) (by exact fun _ _ _ h => h) (by first | assumption | exact KB.refl _) (.inl ⟨by rfl, fun W hW => ?_⟩) ?_; rotate_left
        · (go_simp; first | done | with_reducible rfl)
        try simp only [Act.put, List.setIfInBounds_toArray, List.set_cons_zero, List.set_cons_succ]
        refine btake 4 (oi := _) (v := ?_) (by simp only [List.getElem?_toArray, List.getElem?_cons_succ, List.getElem?_cons_zero]; rfl) (by kernel_rfl) (by exact fun _ _ _ h => h) (by first | assumption | exact KB.refl _) (.inl ⟨by rfl, fun W hW => ?_⟩) ?_; rotate_left
        · (go_simp; first | done | with_reducible rfl)
        try simp only [Act.put, List.setIfInBounds_toArray, List.set_cons_zero, List.set_cons_succ]
        refine btake 5 (oi := _) (v := ?_) (by simp only [List.getElem?_toArray, List.getElem?_cons_succ, List.getElem?_cons_zero]; rfl) (by kernel_rfl) (by exact fun _ _ _ h => h) (by first | assumption | exact KB.refl _) (.inl ⟨by rfl, fun W hW => ?_⟩) ?_; rotate_left
        · go_simp
          show _ = Value.int .u8 82
          rfl
        try simp only [Act.put, List.setIfInBounds_toArray, List.set_cons_zero, List.set_cons_succ]
        refine btake 6 (oi := _) (v := ?_) (by simp only [List.getElem?_toArray, List.getElem?_cons_succ, List.getElem?_cons_zero]; rfl) (by kernel_rfl) (by exact fun _ _ _ h => h) (by first | assumption | exact KB.refl _) (.inl ⟨by rfl, fun W hW => ?_⟩) ?_; rotate_left
        · (go_simp; first | done | with_reducible rfl)
        try simp only [Act.put, List.setIfInBounds_toArray, List.set_cons_zero, List.set_cons_succ]
        refine bdone (by kernel_rfl) ?_
        have hA2 := hA1.drew
        have b2 := b1.drew
        have hP9 := hA1.putL [.int .i64 0, .int .u32 0, .int .i64 0, .int .i64 0, .slice none 0 0] rfl
        have bP := below_putL [.int .i64 0, .int .u32 0, .int .i64 0, .int .i64 0, .slice none 0 0] 0 b2 (g := w.heap.size) (Nat.le_refl _)
        have a0 := hA1.c 0 rfl
        have a1 := hA1.c 1 rfl
        have a2 := hA1.c 2 rfl
        have a3 := hA1.c 3 rfl
        have a4 := hA1.c 4 rfl
        have f0 := hA1.f 0 rfl
        have f1 := hA1.f 1 rfl
        have f2 := hA1.f 2 rfl
        have f3 := hA1.f 3 rfl
        have f4 := hA1.f 4 rfl
        simp only [putL, Nat.zero_add, Nat.reduceAdd] at hP9 bP
        go_wp2_with fail
        have z0 := hP9.c 0 rfl
        have z1 := hP9.c 1 rfl
        have z2 := hP9.c 2 rfl
        have z3 := hP9.c 3 rfl
        have z4 := hP9.c 4 rfl
        exact bodyPost_ret (v := .tuple #[.agg #[.int .i64 0, .int .u32 0, .int .i64 0, .int .i64 0, .slice none 0 0], .int .i64 0, .int .i64 0, .int .i64 21]) (by simp [results, Try.results59, go_sem, z0, z1, z2, z3, z4]) rfl ⟨rfl, bP⟩
      · exact absurd ⟨fun _ => h78, fun h => absurd h hl⟩ HNO.out
end Go.Proofs.Ytkgmbpbbgkjidaa

