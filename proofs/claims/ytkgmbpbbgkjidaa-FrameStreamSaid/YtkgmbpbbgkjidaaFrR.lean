/- Frames: Read. -/
import Derived.Test.YtkgmbpbbgkjidaaFrC
namespace Go.Proofs.Ytkgmbpbbgkjidaa
open Go.RowKit Go.Proofs.Ytkgmbpbbgkjidaa.Pl Go.Proofs.Ytkgmbpbbgkjidaa.Pc

def zeroF : Fr := ⟨0, 0, 0, 0, []⟩
def frOf (b : List UInt8) (k v : Nat) : Fr := ⟨(at_ b 2 : Int), bigF 0 ((b.drop 3).take 4), (at_ b 7 : Int), (at_ b 8 : Int), (b.drop (9 + k)).take v⟩
def bodyF (b : List UInt8) (k v : Nat) : Fr × Nat :=
  if b.length < 9 + k + v + 4 then (zeroF, 20) else if 9 + k + v + 4 < b.length then (zeroF, 21) else if openS b = none then (zeroF, 22) else (frOf b k v, 0)
def readF (b : List UInt8) (limit : Int) : Fr × Nat := if (headS b limit).2.2 = 0 then bodyF b (headS b limit).1 (headS b limit).2.1 else (zeroF, (headS b limit).2.2)
def ReadPost (w : World) (r : Fr × Nat) (e : Ending) (w' : World) : Prop := ∃ A c, e = .returned (.tuple #[r.1.v A c, .int .i64 (r.2 : Int)]) ∧ Sl w' w'.heap.size A (bv r.1.p) ∧ r.1.p.length ≤ c ∧ c ≤ maxLen ∧ Below w.heap.size w w'
theorem readPost_zero (w w' : World) (e0 : Nat) (h : Below w.heap.size w w') : ReadPost w (zeroF, e0) (.returned (.tuple #[.agg #[.int .i64 0, .int .u32 0, .int .i64 0, .int .i64 0, .slice none 0 0], .int .i64 (e0 : Int)])) w' :=
  ⟨none, 0, rfl, .inl rfl, by simp [zeroF], by simp [maxLen], h⟩
/-- what the head says -/
theorem head_ok {b : List UInt8} {limit : Int} {k v : Nat} (h : headS b limit = (k, v, 0)) : b.take 2 = ([78, 82] : List UInt8).take b.length ∧ 9 ≤ b.length ∧ rightB b = true ∧ takeS (b.drop 9) = (v, k, 0) ∧ v ≤ 65536 ∧ 9 + k + v + 4 ≤ heldN limit ∧ 1 ≤ k ∧ k ≤ 10 := by
  unfold headS at h
  split at h
  · rename_i h1
    split at h
    · simp at h
    · rename_i h2
      split at h
      · rename_i h3
        split at h
        · rename_i h4
          split at h
          · rename_i h5
            simp only [Prod.mk.injEq] at h
            obtain ⟨rfl, rfl, _⟩ := h
            obtain ⟨g1, g2, _⟩ := takeS_ok _ h4
            exact ⟨h1, by omega, h3, by rw [← h4], h5.1, h5.2, g1, g2⟩
          · simp at h
        · rename_i h4
          simp only [Prod.mk.injEq] at h
          exact absurd h.2.2 h4
      · simp at h
  · simp at h
theorem take_take {l : List UInt8} {v k m : Nat} (h : takeS l = (v, k, 0)) (hm : k ≤ m) : takeS (l.take m) = (v, k, 0) := by
  obtain ⟨g1, g2, g3, g4, g5⟩ := takeS_ok l (by rw [h])
  rw [h] at g1 g2 g3 g4 g5
  simp only at g1 g2 g3 g4 g5
  have e : l.take m = enc v ++ (l.drop k).take (m - k) := by
    rw [g4]
    conv => lhs; rw [← List.take_append_drop k l]
    rw [List.take_append, List.length_take, Nat.min_eq_left g3, List.take_take, Nat.min_eq_right hm]
  rw [e, take_enc v g5]
  have : (enc v).length = k := by rw [g4, List.length_take]; omega
  rw [this]
theorem open_len {b x : List UInt8} (h : openS b = some x) : x = b.take (b.length - 4) ∧ 4 ≤ b.length := by
  unfold openS at h
  split at h
  · cases h
  · rename_i h4
    split at h
    · cases h; exact ⟨rfl, by omega⟩
    · cases h
theorem Cut_lit (w : World) (A : Option Addr) (n c : Nat) (b : List UInt8) (limit : Int) (r1 r2 : Nat) (hb : Sl w w.heap.size A (bv b)) (h0 : n = b.length) (hc : n ≤ c) (hm : c ≤ maxLen) (h : cutF b limit = (r1, r2)) :
    Calls Try.prog 30 #[.slice A n c, .int .i64 limit] w fun e w' => e = .returned (.tuple #[.int .i64 (r1 : Int), .int .i64 (r2 : Int)]) ∧ Below w.heap.size w w' := by
  have := Cut_any w A n c b limit hb h0 hc hm
  rw [h] at this
  exact this
set_option maxRecDepth 100000 in
set_option maxHeartbeats 1600000 in
theorem FRead_bad (w : World) (A : Option Addr) (n c : Nat) (b : List UInt8) (limit : Int) (e0 : Nat) (hb : Sl w w.heap.size A (bv b)) (h0 : n = b.length) (hc : n ≤ c) (hm : c ≤ maxLen) (h : cutF b limit = (0, e0)) (he : e0 ≠ 0) :
    Calls Try.prog 29 #[.slice A n c, .int .i64 limit] w (ReadPost w (zeroF, e0)) := by
  have hA := At.new w 47 #[.int .i64 0, .int .u32 0, .int .i64 0, .int .i64 0, .slice none 0 0]
  have b0 := balloc (Below.refl w.heap.size w) (.cells #[.int .i64 0, .int .u32 0, .int .i64 0, .int .i64 0, .slice none 0 0] 47)
  have HC := Lib.hid (fun W h1 => Cut_lit W A n c b limit 0 e0 h1 h0 hc hm h)
  have q0 : ((e0 : Int) == 0) = false := by simp; omega
  have q1 : ((e0 : Int) != 0) = true := by simp; omega
  clear h h0 he
  have hs := (hb.below b0).more b0.size
  go_enter Try.func29, Try.ntmps29
  go_wp2_with fail
  generalize w.alloc (.cells #[.int .i64 0, .int .u32 0, .int .i64 0, .int .i64 0, .slice none 0 0] 47) = w1 at *
  refine (HC.out _ hs).mono ?_
  rintro e w2 ⟨rfl, hb2⟩
  replace hA := hA.below hb2
  replace b0 := b0.trans (hb2.mono b0.size)
  have hP := hA.putL [.int .i64 0, .int .u32 0, .int .i64 0, .int .i64 0, .slice none 0 0] rfl
  have bP := below_putL [.int .i64 0, .int .u32 0, .int .i64 0, .int .i64 0, .slice none 0 0] 0 b0 (g := w.heap.size) (Nat.le_refl _)
  have f0 := hA.f 0 rfl
  have f1 := hA.f 1 rfl
  have f2 := hA.f 2 rfl
  have f3 := hA.f 3 rfl
  have f4 := hA.f 4 rfl
  have c0 := hA.c 0 rfl
  have c1 := hA.c 1 rfl
  have c2 := hA.c 2 rfl
  have c3 := hA.c 3 rfl
  have c4 := hA.c 4 rfl
  simp only [putL, Nat.zero_add, Nat.reduceAdd] at hP bP
  go_wp2_with fail
  obtain hP' := hP
  have z0 := hP.c 0 rfl
  have z1 := hP.c 1 rfl
  have z2 := hP.c 2 rfl
  have z3 := hP.c 3 rfl
  have z4 := hP.c 4 rfl
  exact bodyPost_ret (v := .tuple #[.agg #[.int .i64 0, .int .u32 0, .int .i64 0, .int .i64 0, .slice none 0 0], .int .i64 (e0 : Int)]) (by simp [results, Try.results29, go_sem, z0, z1, z2, z3, z4]) rfl (readPost_zero w _ e0 bP)
set_option maxRecDepth 100000 in
set_option maxHeartbeats 1600000 in
theorem FRead_short (w : World) (A : Option Addr) (n c : Nat) (b : List UInt8) (limit : Int) (N : Nat) (hb : Sl w w.heap.size A (bv b)) (h0 : n = b.length) (hc : n ≤ c) (hm : c ≤ maxLen) (h : cutF b limit = (N, 0)) (he : n < N) :
    Calls Try.prog 29 #[.slice A n c, .int .i64 limit] w (ReadPost w (zeroF, 20)) := by
  have hA := At.new w 47 #[.int .i64 0, .int .u32 0, .int .i64 0, .int .i64 0, .slice none 0 0]
  have b0 := balloc (Below.refl w.heap.size w) (.cells #[.int .i64 0, .int .u32 0, .int .i64 0, .int .i64 0, .slice none 0 0] 47)
  have HC := Lib.hid (fun W h1 => Cut_lit W A n c b limit N 0 h1 h0 hc hm h)
  have q0 : decide (n < N) = true := by simp; omega
  clear h h0 he
  have hs := (hb.below b0).more b0.size
  go_enter Try.func29, Try.ntmps29
  go_wp2_with fail
  generalize w.alloc (.cells #[.int .i64 0, .int .u32 0, .int .i64 0, .int .i64 0, .slice none 0 0] 47) = w1 at *
  refine (HC.out _ hs).mono ?_
  rintro e w2 ⟨rfl, hb2⟩
  replace hA := hA.below hb2
  replace b0 := b0.trans (hb2.mono b0.size)
  have hP := hA.putL [.int .i64 0, .int .u32 0, .int .i64 0, .int .i64 0, .slice none 0 0] rfl
  have bP := below_putL [.int .i64 0, .int .u32 0, .int .i64 0, .int .i64 0, .slice none 0 0] 0 b0 (g := w.heap.size) (Nat.le_refl _)
  have f0 := hA.f 0 rfl
  have f1 := hA.f 1 rfl
  have f2 := hA.f 2 rfl
  have f3 := hA.f 3 rfl
  have f4 := hA.f 4 rfl
  have c0 := hA.c 0 rfl
  have c1 := hA.c 1 rfl
  have c2 := hA.c 2 rfl
  have c3 := hA.c 3 rfl
  have c4 := hA.c 4 rfl
  simp only [putL, Nat.zero_add, Nat.reduceAdd] at hP bP
  go_wp2_with fail
  obtain hP' := hP
  have z0 := hP.c 0 rfl
  have z1 := hP.c 1 rfl
  have z2 := hP.c 2 rfl
  have z3 := hP.c 3 rfl
  have z4 := hP.c 4 rfl
  exact bodyPost_ret (v := .tuple #[.agg #[.int .i64 0, .int .u32 0, .int .i64 0, .int .i64 0, .slice none 0 0], .int .i64 (20 : Int)]) (by simp [results, Try.results29, go_sem, z0, z1, z2, z3, z4]) rfl (readPost_zero w _ 20 bP)
set_option maxRecDepth 100000 in
set_option maxHeartbeats 1600000 in
theorem FRead_long (w : World) (A : Option Addr) (n c : Nat) (b : List UInt8) (limit : Int) (N : Nat) (hb : Sl w w.heap.size A (bv b)) (h0 : n = b.length) (hc : n ≤ c) (hm : c ≤ maxLen) (h : cutF b limit = (N, 0)) (he : N < n) :
    Calls Try.prog 29 #[.slice A n c, .int .i64 limit] w (ReadPost w (zeroF, 21)) := by
  have hA := At.new w 47 #[.int .i64 0, .int .u32 0, .int .i64 0, .int .i64 0, .slice none 0 0]
  have b0 := balloc (Below.refl w.heap.size w) (.cells #[.int .i64 0, .int .u32 0, .int .i64 0, .int .i64 0, .slice none 0 0] 47)
  have HC := Lib.hid (fun W h1 => Cut_lit W A n c b limit N 0 h1 h0 hc hm h)
  have q0 : decide (n < N) = false := by simp; omega
  have q1 : decide (N < n) = true := by simp; omega
  clear h h0 he
  have hs := (hb.below b0).more b0.size
  go_enter Try.func29, Try.ntmps29
  go_wp2_with fail
  generalize w.alloc (.cells #[.int .i64 0, .int .u32 0, .int .i64 0, .int .i64 0, .slice none 0 0] 47) = w1 at *
  refine (HC.out _ hs).mono ?_
  rintro e w2 ⟨rfl, hb2⟩
  replace hA := hA.below hb2
  replace b0 := b0.trans (hb2.mono b0.size)
  have hP := hA.putL [.int .i64 0, .int .u32 0, .int .i64 0, .int .i64 0, .slice none 0 0] rfl
  have bP := below_putL [.int .i64 0, .int .u32 0, .int .i64 0, .int .i64 0, .slice none 0 0] 0 b0 (g := w.heap.size) (Nat.le_refl _)
  have f0 := hA.f 0 rfl
  have f1 := hA.f 1 rfl
  have f2 := hA.f 2 rfl
  have f3 := hA.f 3 rfl
  have f4 := hA.f 4 rfl
  have c0 := hA.c 0 rfl
  have c1 := hA.c 1 rfl
  have c2 := hA.c 2 rfl
  have c3 := hA.c 3 rfl
  have c4 := hA.c 4 rfl
  simp only [putL, Nat.zero_add, Nat.reduceAdd] at hP bP
  go_wp2_with fail
  obtain hP' := hP
  have z0 := hP.c 0 rfl
  have z1 := hP.c 1 rfl
  have z2 := hP.c 2 rfl
  have z3 := hP.c 3 rfl
  have z4 := hP.c 4 rfl
  exact bodyPost_ret (v := .tuple #[.agg #[.int .i64 0, .int .u32 0, .int .i64 0, .int .i64 0, .slice none 0 0], .int .i64 (21 : Int)]) (by simp [results, Try.results29, go_sem, z0, z1, z2, z3, z4]) rfl (readPost_zero w _ 21 bP)
set_option maxRecDepth 100000 in
set_option maxHeartbeats 1600000 in
theorem FRead_sum (w : World) (A : Option Addr) (n c : Nat) (b : List UInt8) (limit : Int) (hb : Sl w w.heap.size A (bv b)) (h0 : n = b.length) (hc : n ≤ c) (hm : c ≤ maxLen) (h : cutF b limit = (n, 0)) (hlb : b.length ≤ 140737488355328) (ho : openS b = none) :
    Calls Try.prog 29 #[.slice A n c, .int .i64 limit] w (ReadPost w (zeroF, 22)) := by
  have hA := At.new w 47 #[.int .i64 0, .int .u32 0, .int .i64 0, .int .i64 0, .slice none 0 0]
  have b0 := balloc (Below.refl w.heap.size w) (.cells #[.int .i64 0, .int .u32 0, .int .i64 0, .int .i64 0, .slice none 0 0] 47)
  have HC := Lib.hid (fun W h1 => Cut_lit W A n c b limit n 0 h1 h0 hc hm h)
  have HO := Lib.hid (fun W h1 => Open_any W A n c b h1 h0 hc hm hlb)
  rw [ho] at HO
  clear h h0
  have hs := (hb.below b0).more b0.size
  go_enter Try.func29, Try.ntmps29
  go_wp2_with fail
  generalize w.alloc (.cells #[.int .i64 0, .int .u32 0, .int .i64 0, .int .i64 0, .slice none 0 0] 47) = w1 at *
  refine (HC.out _ hs).mono ?_
  rintro e w2 ⟨rfl, hb2⟩
  replace hA := hA.below hb2
  replace b0 := b0.trans (hb2.mono b0.size)
  go_wp2_with fail
  have hs3 := hs.below' hb2
  refine (HO.out _ (hs3.more hb2.size |>.more (Nat.le_refl _) |> fun h => h)).mono ?_
  rintro e w3 ⟨rfl, hb3⟩
  replace hA := hA.below hb3
  replace b0 := b0.trans (hb3.mono b0.size)
  have hP := hA.putL [.int .i64 0, .int .u32 0, .int .i64 0, .int .i64 0, .slice none 0 0] rfl
  have bP := below_putL [.int .i64 0, .int .u32 0, .int .i64 0, .int .i64 0, .slice none 0 0] 0 b0 (g := w.heap.size) (Nat.le_refl _)
  have f0 := hA.f 0 rfl
  have f1 := hA.f 1 rfl
  have f2 := hA.f 2 rfl
  have f3 := hA.f 3 rfl
  have f4 := hA.f 4 rfl
  have c0 := hA.c 0 rfl
  have c1 := hA.c 1 rfl
  have c2 := hA.c 2 rfl
  have c3 := hA.c 3 rfl
  have c4 := hA.c 4 rfl
  simp only [putL, Nat.zero_add, Nat.reduceAdd] at hP bP
  go_wp2_with fail
  obtain hP' := hP
  have z0 := hP.c 0 rfl
  have z1 := hP.c 1 rfl
  have z2 := hP.c 2 rfl
  have z3 := hP.c 3 rfl
  have z4 := hP.c 4 rfl
  exact bodyPost_ret (v := .tuple #[.agg #[.int .i64 0, .int .u32 0, .int .i64 0, .int .i64 0, .slice none 0 0], .int .i64 (22 : Int)]) (by simp [results, Try.results29, go_sem, z0, z1, z2, z3, z4]) rfl (readPost_zero w _ 22 bP)
theorem Take_at (w : World) (A : Option Addr) (n c : Nat) (l : List UInt8) (v k : Nat) (hb : Sl w w.heap.size A (bv l)) (h0 : n = l.length) (hc : n ≤ c) (hn : c ≤ maxLen) (h : takeS l = (v, k, 0)) :
    Calls Try.prog 49 #[.slice A n c] w fun e w' => e = .returned (.tuple #[.int .u64 (v : Int), .int .i64 (k : Int), .int .i64 0]) ∧ w = w' := by
  have := Take_tup w w.heap.size A n c l v k 0 hb h0 hc hn h
  simpa using this
theorem Sl.of_nil {w : World} {B : Nat} {A : Option Addr} {l : List UInt8} (h : l.length = 0) : Sl w B A (bv l) := by
  rw [List.eq_nil_of_length_eq_zero h]; exact Sl.nil
theorem own_putL {W : World} {base g : Nat} {v : Value} {l : List UInt8} (us : List Value) (o : Nat) (h : OwnB W base v l) (hne : v.ownBlock ≠ some g) : OwnB (putL W g o us) base v l := h.keep (grown_putL us o (World.grownBy.refl W (some g)) (.inl rfl)) (.inr hne)
def frv (kd g f t : Nat) : Array Value := #[.int .i64 (kd : Int), .int .u32 (g : Int), .int .i64 (f : Int), .int .i64 (t : Int), .slice none 0 0]
set_option maxRecDepth 100000 in
set_option maxHeartbeats 3200000 in
theorem FRead_ok (w : World) (A : Option Addr) (n c : Nat) (b : List UInt8) (limit : Int) (k v : Nat) (hb : Sl w w.heap.size A (bv b)) (h0 : n = b.length) (hc : n ≤ c) (hm : c ≤ maxLen) (h : headS b limit = (k, v, 0)) (hn : n = 9 + k + v + 4) (x : List UInt8) (ho : openS b = some x) :
    Calls Try.prog 29 #[.slice A n c, .int .i64 limit] w (ReadPost w (frOf b k v, 0)) := by
  obtain ⟨g1, g2, g3, g4, g5, g6, g7, g8⟩ := head_ok h
  obtain ⟨x1, x2⟩ := open_len ho
  rw [← h0, hn, show 9 + k + v + 4 - 4 = 9 + k + v by omega] at x1
  have hxl : x.length = 9 + k + v := by rw [x1, List.length_take]; omega
  have hcut : cutF b limit = (n, 0) := by unfold cutF; rw [h, hn]; rfl
  have e2 : at_ x 2 = at_ b 2 := by rw [x1, at_take _ _ _ (by omega)]
  have e7 : at_ x 7 = at_ b 7 := by rw [x1, at_take _ _ _ (by omega)]
  have e8 : at_ x 8 = at_ b 8 := by rw [x1, at_take _ _ _ (by omega)]
  have eg : (x.drop 3).take 4 = (b.drop 3).take 4 := by rw [x1, List.drop_take, List.take_take, show min 4 (9 + k + v - 3) = 4 by omega]
  have ep : x.drop (9 + k) = (b.drop (9 + k)).take v := by rw [x1, List.drop_take, show 9 + k + v - (9 + k) = v by omega]
  have et : takeS (x.drop 9) = (v, k, 0) := by rw [x1, List.drop_take]; exact take_take g4 (by omega)
  obtain ⟨fr, hfr⟩ : ∃ fr, frOf b k v = fr := ⟨_, rfl⟩
  have hfr' : fr = ⟨(at_ x 2 : Int), bigF 0 ((x.drop 3).take 4), (at_ x 7 : Int), (at_ x 8 : Int), x.drop (9 + k)⟩ := by rw [← hfr, e2, e7, e8, eg, ep]; rfl
  rw [hfr]
  have hG : big ((x.drop 3).take 4) = bigF 0 ((x.drop 3).take 4) := by unfold big; rw [List.take_of_length_le (by simp; omega)]
  have hGl : bigF 0 ((x.drop 3).take 4) < 4294967296 := by
    have := bigF_lt ((x.drop 3).take 4) 0
    have hl : ((x.drop 3).take 4).length = 4 := by simp; omega
    rw [hl] at this
    omega
  have hA := At.new w 47 #[.int .i64 0, .int .u32 0, .int .i64 0, .int .i64 0, .slice none 0 0]
  have b0 := balloc (Below.refl w.heap.size w) (.cells #[.int .i64 0, .int .u32 0, .int .i64 0, .int .i64 0, .slice none 0 0] 47)
  have hlb : b.length ≤ 140737488355328 := by omega
  have HC := Lib.hid (fun W h1 => Cut_lit W A n c b limit n 0 h1 h0 hc hm hcut)
  have HO := Lib.hid (fun W h1 => Open_any W A n c b h1 h0 hc hm hlb)
  rw [ho] at HO
  have hs := (hb.below b0).more b0.size
  clear g1 g2 g3 g4 g6 e2 e7 e8 eg ep h0 hcut ho hfr x1 x2 hn h
  go_enter Try.func29, Try.ntmps29
  go_wp2_with fail
  generalize w.alloc (.cells #[.int .i64 0, .int .u32 0, .int .i64 0, .int .i64 0, .slice none 0 0] 47) = w1 at *
  refine (HC.out _ hs).mono ?_
  rintro e w2 ⟨rfl, hb2⟩
  replace hA := hA.below hb2
  replace b0 := b0.trans (hb2.mono b0.size)
  replace hs := (hs.below hb2).more hb2.size
  go_wp2_with fail
  refine (HO.out _ hs).mono ?_
  rintro e w3 ⟨A3, c3, rfl, hown3, hb3⟩
  replace hA := hA.below hb3
  replace b0 := b0.trans (hb3.mono b0.size)
  obtain ⟨hs3, hc3, hm3⟩ := OwnB.sl hown3
  obtain ⟨bk, o, rfl, _, hbW, hcell⟩ := hs3.at_ (k := 0) (by simp; omega)
  have hc9 : ¬ c3 = 9 := by omega
  have hc9' : 9 ≤ c3 := by omega
  have hx9 : 9 ≤ x.length := by omega
  have hs9 : Sl w3 w3.heap.size (some ⟨bk, o + 9, none⟩) (bv (x.drop 9)) := by
    have := hs3.cut 9 c3 (by simpa using hc3)
    rw [bv_drop, if_neg hc9, Option.map_some, addN] at this
    exact this
  have HT := Lib.hid (Take_at w3 (some ⟨bk, o + 9, none⟩) (9 + k + v - 9) (c3 - 9) (x.drop 9) v k hs9 (by simp; omega) (by omega) (by omega) et)
  have hs37 : Sl w3 w3.heap.size (some ⟨bk, o + 3, none⟩) (bv ((x.drop 3).take 4)) := by
    have := (hs3.cut 3 c3 (by simpa using hc3)).tk 4
    rw [bv_drop, bv_take, if_neg (by omega), Option.map_some, addN] at this
    exact this
  have d2 := cellB (hcell 2 _ (bv_get x 2 (by omega)))
  have d7 := cellB (hcell 7 _ (bv_get x 7 (by omega)))
  have d8 := cellB (hcell 8 _ (bv_get x 8 (by omega)))
  have HBg := fun W (hW : KB w3.heap W) => Big_lit W w3.heap.size (some ⟨bk, o + 3, none⟩) 4 4 ((x.drop 3).take 4) _ (hs37.kb hW) (by simp; omega) (Nat.le_refl _) (by simp [maxLen]) hG
  clear hcell et hG
  go_wp2_with fail
  refine HT.out.mono ?_
  rintro e w4 ⟨rfl, rfl⟩
  clear HT hs9
  have k2 : (x[2]?.getD 0).toNat = at_ x 2 := rfl
  have k7 : (x[7]?.getD 0).toNat = at_ x 7 := rfl
  have k8 : (x[8]?.getD 0).toNat = at_ x 8 := rfl
  rw [k2] at d2
  rw [k7] at d7
  rw [k8] at d8
  have x2l : at_ x 2 < 256 := UInt8.toNat_lt _
  have x7l : at_ x 7 < 256 := UInt8.toNat_lt _
  have x8l : at_ x 8 < 256 := UInt8.toNat_lt _
  have HFR := Lib.hid hfr'
  clear k2 k7 k8 hfr'
  generalize at_ x 2 = y2 at *
  generalize at_ x 7 = y7 at *
  generalize at_ x 8 = y8 at *
  generalize bigF 0 ((x.drop 3).take 4) = gg at *
  have ww0 : IntKind.u32.wrap (gg : Int) = (gg : Int) := by rw [IntKind.wrap_u32]; omega
  have ww2 : IntKind.i64.wrap (y2 : Int) = (y2 : Int) := by rw [IntKind.wrap_i64]; omega
  have ww7 : IntKind.i64.wrap (y7 : Int) = (y7 : Int) := by rw [IntKind.wrap_i64]; omega
  have ww8 : IntKind.i64.wrap (y8 : Int) = (y8 : Int) := by rw [IntKind.wrap_i64]; omega
  have hc7 : 7 ≤ c3 := by omega
  have HB2 := Lib.hid HBg
  clear HBg
  go_wp2_with fail
  have i2 : (2 : Int) < 9 + (k : Int) + (v : Int) := by omega
  have i7 : (7 : Int) < 9 + (k : Int) + (v : Int) := by omega
  have i8 : (8 : Int) < 9 + (k : Int) + (v : Int) := by omega
  have i37 : (7 : Int) ≤ (c3 : Int) := by omega
  have hS0 : KB w3.heap w3.drew := KB.refl w3
  refine bstartH (w3.heap) (by kernel_rfl) ?_
  refine btake 0 (oi := _) (v := ?_) (by simp only [List.getElem?_toArray, List.getElem?_cons_zero]; rfl) (by kernel_rfl) (by exact fun _ _ _ h => h) (by first | assumption | exact KB.refl _) (.inl ⟨by rfl, fun W hW => ?_⟩) ?_; rotate_left
  · (go_simp; first | done | with_reducible rfl)
  try simp only [Act.put, List.setIfInBounds_toArray, List.set_cons_zero, List.set_cons_succ]
  refine btake 1 (oi := _) (v := ?_) (by simp only [List.getElem?_toArray, List.getElem?_cons_succ, List.getElem?_cons_zero]; rfl) (by kernel_rfl) (by exact fun _ _ _ h => h) (by first | assumption | exact KB.refl _) (.inl ⟨by rfl, fun W hW => ?_⟩) ?_; rotate_left
  · (go_simp; first | done | with_reducible rfl)
  try simp only [Act.put, List.setIfInBounds_toArray, List.set_cons_zero, List.set_cons_succ]
  refine btake 2 (oi := _) (v := ?_) (by simp only [List.getElem?_toArray, List.getElem?_cons_succ, List.getElem?_cons_zero]; rfl) (by kernel_rfl) (by exact fun _ _ _ h => h) (by first | assumption | exact KB.refl _) (.inl ⟨by rfl, fun W hW => ?_⟩) ?_; rotate_left
  · (go_simp; first | done | with_reducible rfl)
  try simp only [Act.put, List.setIfInBounds_toArray, List.set_cons_zero, List.set_cons_succ]
  refine btake 3 (oi := _) (v := ?_) (by simp only [List.getElem?_toArray, List.getElem?_cons_succ, List.getElem?_cons_zero]; rfl) (by kernel_rfl) (by exact fun _ _ _ h => h) (by first | assumption | exact KB.refl _) (.inl ⟨by rfl, fun W hW => ?_⟩) ?_; rotate_left
  · (go_simp; first | done | with_reducible rfl)
  try simp only [Act.put, List.setIfInBounds_toArray, List.set_cons_zero, List.set_cons_succ]
  refine btake 4 (oi := _) (v := ?_) (by simp only [List.getElem?_toArray, List.getElem?_cons_succ, List.getElem?_cons_zero]; rfl) (by kernel_rfl) (by exact fun _ _ _ h => h) (by first | assumption | exact KB.refl _) (.inl ⟨by rfl, fun W hW => ?_⟩) ?_; rotate_left
  · (go_simp; first | done | with_reducible rfl)
  try simp only [Act.put, List.setIfInBounds_toArray, List.set_cons_zero, List.set_cons_succ]
  refine btake 5 (oi := _) (v := ?_) (by simp only [List.getElem?_toArray, List.getElem?_cons_succ, List.getElem?_cons_zero]; rfl) (by kernel_rfl) (by exact fun _ _ _ h => h) (by first | assumption | exact KB.refl _) (.inl ⟨by rfl, fun W hW => ?_⟩) ?_; rotate_left
  · (go_simp; first | done | with_reducible rfl)
  try simp only [Act.put, List.setIfInBounds_toArray, List.set_cons_zero, List.set_cons_succ]
  -- 6: newsreel/num.Big
  refine bquiet 6 (oi := _) ?_ (by simp only [List.getElem?_toArray, List.getElem?_cons_succ, List.getElem?_cons_zero]; rfl) (by kernel_rfl) (by exact fun _ _ _ h => h) (by first | assumption | exact KB.refl _) (by rfl) (fun W hW => by go_simp; first | done | exact ⟨rfl, rfl⟩ | rfl) (fun W hW => ?_) ?_; rotate_left
  · exact HB2.out W hW
  try simp only [Act.put, List.setIfInBounds_toArray, List.set_cons_zero, List.set_cons_succ]
  refine btake 7 (oi := _) (v := ?_) (by simp only [List.getElem?_toArray, List.getElem?_cons_succ, List.getElem?_cons_zero]; rfl) (by kernel_rfl) (by exact fun _ _ _ h => h) (by first | assumption | exact KB.refl _) (.inl ⟨by rfl, fun W hW => ?_⟩) ?_; rotate_left
  · (go_simp; first | done | with_reducible rfl)
  try simp only [Act.put, List.setIfInBounds_toArray, List.set_cons_zero, List.set_cons_succ]
  refine btake 8 (oi := _) (v := ?_) (by simp only [List.getElem?_toArray, List.getElem?_cons_succ, List.getElem?_cons_zero]; rfl) (by kernel_rfl) (by exact fun _ _ _ h => h) (by first | assumption | exact KB.refl _) (.inl ⟨by rfl, fun W hW => ?_⟩) ?_; rotate_left
  · (go_simp; first | done | with_reducible rfl)
  try simp only [Act.put, List.setIfInBounds_toArray, List.set_cons_zero, List.set_cons_succ]
  refine btake 9 (oi := _) (v := ?_) (by simp only [List.getElem?_toArray, List.getElem?_cons_succ, List.getElem?_cons_zero]; rfl) (by kernel_rfl) (by exact fun _ _ _ h => h) (by first | assumption | exact KB.refl _) (.inl ⟨by rfl, fun W hW => ?_⟩) ?_; rotate_left
  · (go_simp; first | done | with_reducible rfl)
  try simp only [Act.put, List.setIfInBounds_toArray, List.set_cons_zero, List.set_cons_succ]
  refine btake 10 (oi := _) (v := ?_) (by simp only [List.getElem?_toArray, List.getElem?_cons_succ, List.getElem?_cons_zero]; rfl) (by kernel_rfl) (by exact fun _ _ _ h => h) (by first | assumption | exact KB.refl _) (.inl ⟨by rfl, fun W hW => ?_⟩) ?_; rotate_left
  · (go_simp; first | done | with_reducible rfl)
  try simp only [Act.put, List.setIfInBounds_toArray, List.set_cons_zero, List.set_cons_succ]
  refine btake 11 (oi := _) (v := ?_) (by simp only [List.getElem?_toArray, List.getElem?_cons_succ, List.getElem?_cons_zero]; rfl) (by kernel_rfl) (by exact fun _ _ _ h => h) (by first | assumption | exact KB.refl _) (.inl ⟨by rfl, fun W hW => ?_⟩) ?_; rotate_left
  · (go_simp; first | done | with_reducible rfl)
  try simp only [Act.put, List.setIfInBounds_toArray, List.set_cons_zero, List.set_cons_succ]
  refine btake 12 (oi := _) (v := ?_) (by simp only [List.getElem?_toArray, List.getElem?_cons_succ, List.getElem?_cons_zero]; rfl) (by kernel_rfl) (by exact fun _ _ _ h => h) (by first | assumption | exact KB.refl _) (.inl ⟨by rfl, fun W hW => ?_⟩) ?_; rotate_left
  · (go_simp; first | done | with_reducible rfl)
  try simp only [Act.put, List.setIfInBounds_toArray, List.set_cons_zero, List.set_cons_succ]
  refine btake 13 (oi := _) (v := ?_) (by simp only [List.getElem?_toArray, List.getElem?_cons_succ, List.getElem?_cons_zero]; rfl) (by kernel_rfl) (by exact fun _ _ _ h => h) (by first | assumption | exact KB.refl _) (.inl ⟨by rfl, fun W hW => ?_⟩) ?_; rotate_left
  · (go_simp; first | done | with_reducible rfl)
  try simp only [Act.put, List.setIfInBounds_toArray, List.set_cons_zero, List.set_cons_succ]
  refine btake 14 (oi := _) (v := ?_) (by simp only [List.getElem?_toArray, List.getElem?_cons_succ, List.getElem?_cons_zero]; rfl) (by kernel_rfl) (by exact fun _ _ _ h => h) (by first | assumption | exact KB.refl _) (.inl ⟨by rfl, fun W hW => ?_⟩) ?_; rotate_left
  · (go_simp; first | done | with_reducible rfl)
  try simp only [Act.put, List.setIfInBounds_toArray, List.set_cons_zero, List.set_cons_succ]
  refine btake 15 (oi := _) (v := ?_) (by simp only [List.getElem?_toArray, List.getElem?_cons_succ, List.getElem?_cons_zero]; rfl) (by kernel_rfl) (by exact fun _ _ _ h => h) (by first | assumption | exact KB.refl _) (.inl ⟨by rfl, fun W hW => ?_⟩) ?_; rotate_left
  · (go_simp; first | done | with_reducible rfl)
  try simp only [Act.put, List.setIfInBounds_toArray, List.set_cons_zero, List.set_cons_succ]
  refine btake 16 (oi := _) (v := ?_) (by simp only [List.getElem?_toArray, List.getElem?_cons_succ, List.getElem?_cons_zero]; rfl) (by kernel_rfl) (by exact fun _ _ _ h => h) (by first | assumption | exact KB.refl _) (.inl ⟨by rfl, fun W hW => ?_⟩) ?_; rotate_left
  · (go_simp; first | done | with_reducible rfl)
  try simp only [Act.put, List.setIfInBounds_toArray, List.set_cons_zero, List.set_cons_succ]
  -- 17: Op.alloc 47
  refine bopH 17 (o := _) (by simp only [List.getElem?_toArray, List.getElem?_cons_succ, List.getElem?_cons_zero]; rfl) (by kernel_rfl) (by first | assumption | exact KB.refl _) (by rfl) (fun K hK => ?_)
  go_simp
  have hkb : KB w3.heap (w3.alloc (.cells #[.int .i64 0, .int .u32 0, .int .i64 0, .int .i64 0, .slice none 0 0] 47)).drew := KB.alloc w3 _
  refine hK.out _ _ hkb ?_; clear hK K
  try simp only [Act.put, List.setIfInBounds_toArray, List.set_cons_zero, List.set_cons_succ]
  -- 18: Op.store 47 (Operand.tmp 13) (Operand.tmp 68)
  refine bopH 18 (o := _) (by simp only [List.getElem?_toArray, List.getElem?_cons_succ, List.getElem?_cons_zero]; rfl) (by kernel_rfl) (by first | assumption | exact KB.refl _) (by rfl) (fun K hK => ?_)
  go_simp
  have hkb : KB w3.heap (w3.alloc (.cells (frv y2 gg y7 y8) 47)).drew := KB.alloc w3 _
  refine hK.out _ _ hkb ?_; clear hK K
  try simp only [Act.put, List.setIfInBounds_toArray, List.set_cons_zero, List.set_cons_succ]
  refine bdone (by kernel_rfl) ?_
  have hwg : w3.heap.size ≠ w.heap.size := by have := hA.lt; omega
  have h3w : w.heap.size ≤ w3.heap.size := Nat.le_of_lt hA.lt
  have hF := At.new w3 47 (frv y2 gg y7 y8)
  replace hA := hA.alloc (.cells (frv y2 gg y7 y8) 47)
  replace b0 := (b0.alloc b0.size (.cells (frv y2 gg y7 y8) 47)).drew
  have hs3x : Sl (w3.alloc (.cells (frv y2 gg y7 y8) 47)).drew (w3.alloc (.cells (frv y2 gg y7 y8) 47)).drew.heap.size (some ⟨bk, o, none⟩) (bv x) := (hs3.alloc _).more (by show w3.heap.size ≤ (w3.alloc _).heap.size; simp)
  replace hs3 := hs3x
  clear hs3x
  replace hF := hF.drew
  replace hA := hA.drew
  unfold frv at hF hA b0 hs3
  simp only at hF
  clear d2 d7 d8 hkb hS0 i2 i7 i8 i37 ww0 ww2 ww7 ww8 HB2 hs37 hb3 hb2 hown3
  generalize (w3.alloc (.cells #[.int .i64 (y2 : Int), .int .u32 (gg : Int), .int .i64 (y7 : Int), .int .i64 (y8 : Int), .slice none 0 0] 47)).drew = w5 at *
  obtain ⟨P, hP⟩ : ∃ P, x.drop (9 + k) = P := ⟨_, rfl⟩
  rw [hP] at HFR
  have lP : P.length = v := by rw [← hP, List.length_drop]; omega
  have HP := Lib.hid (And.intro hP lP)
  clear lP hP
  rcases Nat.eq_zero_or_pos v with hv | hv
  · subst hv
    have hsp : Sl w5 w5.heap.size (some ⟨bk, o, none⟩) (bv P) := Sl.of_nil (HP.out.2)
    go_wp2_with fail
    refine (Clone_any w5 _ (some ⟨bk, o, none⟩) 0 _ P hsp HP.out.2.symm (by have := HP.out.2; omega)).mono ?_
    rintro e w6 ⟨A6, c6, rfl, hown6, hb6⟩
    have hF5 := hF.lt
    replace hF := hF.below hb6
    replace hA := hA.below hb6
    replace b0 := b0.trans (hb6.mono b0.size)
    have hF7 := hF.set 4 (.slice A6 P.length c6) (by simp)
    have hA7 := hA.set_other (g' := w3.heap.size) 4 (.slice A6 P.length c6) hwg
    have b7 := b0.setCell (p := ⟨w3.heap.size, 4, none⟩) (by have := hF.lt; have := h3w; omega) (.slice A6 P.length c6)
    simp only [List.set_cons_succ, List.set_cons_zero] at hF7
    have q0 := hF.c 4 rfl
    have q1 := hF.f 4 rfl
    have c0 := hF7.c 0 rfl
    have c1 := hF7.c 1 rfl
    have c2 := hF7.c 2 rfl
    have c3' := hF7.c 3 rfl
    have c4 := hF7.c 4 rfl
    have a0 := hA7.c 0 rfl
    have a1 := hA7.c 1 rfl
    have a2 := hA7.c 2 rfl
    have a3 := hA7.c 3 rfl
    have a4 := hA7.c 4 rfl
    have f0 := hA7.f 0 rfl
    have f1 := hA7.f 1 rfl
    have f2 := hA7.f 2 rfl
    have f3 := hA7.f 3 rfl
    have f4 := hA7.f 4 rfl
    have hP9 := hA7.putL [.int .i64 (y2 : Int), .int .u32 (gg : Int), .int .i64 (y7 : Int), .int .i64 (y8 : Int), .slice A6 P.length c6] rfl
    have bP := below_putL [.int .i64 (y2 : Int), .int .u32 (gg : Int), .int .i64 (y7 : Int), .int .i64 (y8 : Int), .slice A6 P.length c6] 0 b7 (g := w.heap.size) (Nat.le_refl _)
    have hown7 := own_putL [.slice A6 P.length c6] 4 hown6 (own_above hown6 (g := w3.heap.size) hF5)
    have hown9 := own_putL [.int .i64 (y2 : Int), .int .u32 (gg : Int), .int .i64 (y7 : Int), .int .i64 (y8 : Int), .slice A6 P.length c6] 0 hown7 (own_above hown7 (g := w.heap.size) (by omega))
    simp only [putL, Nat.zero_add, Nat.reduceAdd] at hP9 bP hown9
    have HPP := Lib.hid hown9
    clear hown7 hown9 hsp hown6
    go_wp2_with fail
    have z0 := hP9.c 0 rfl
    have z1 := hP9.c 1 rfl
    have z2 := hP9.c 2 rfl
    have z3 := hP9.c 3 rfl
    have z4 := hP9.c 4 rfl
    have hsf := OwnB.sl HPP.out
    rw [HFR.out]
    exact bodyPost_ret (v := .tuple #[.agg #[.int .i64 (y2 : Int), .int .u32 (gg : Int), .int .i64 (y7 : Int), .int .i64 (y8 : Int), .slice A6 P.length c6], .int .i64 0]) (by simp [results, Try.results29, go_sem, z0, z1, z2, z3, z4]) rfl ⟨A6, c6, rfl, hsf.1, hsf.2.1, hsf.2.2, bP⟩
  · have hsp : Sl w5 w5.heap.size (some ⟨bk, o + (9 + k), none⟩) (bv P) := (by have := hs3.cut (9 + k) c3 (by simpa using hc3); rw [bv_drop, if_neg (by omega), Option.map_some, addN, HP.out.1] at this; exact this)
    go_wp2_with fail
    refine (Clone_any w5 _ (some ⟨bk, o + (9 + k), none⟩) v _ P hsp HP.out.2.symm (by have := HP.out.2; omega)).mono ?_
    rintro e w6 ⟨A6, c6, rfl, hown6, hb6⟩
    have hF5 := hF.lt
    replace hF := hF.below hb6
    replace hA := hA.below hb6
    replace b0 := b0.trans (hb6.mono b0.size)
    have hF7 := hF.set 4 (.slice A6 P.length c6) (by simp)
    have hA7 := hA.set_other (g' := w3.heap.size) 4 (.slice A6 P.length c6) hwg
    have b7 := b0.setCell (p := ⟨w3.heap.size, 4, none⟩) (by have := hF.lt; have := h3w; omega) (.slice A6 P.length c6)
    simp only [List.set_cons_succ, List.set_cons_zero] at hF7
    have q0 := hF.c 4 rfl
    have q1 := hF.f 4 rfl
    have c0 := hF7.c 0 rfl
    have c1 := hF7.c 1 rfl
    have c2 := hF7.c 2 rfl
    have c3' := hF7.c 3 rfl
    have c4 := hF7.c 4 rfl
    have a0 := hA7.c 0 rfl
    have a1 := hA7.c 1 rfl
    have a2 := hA7.c 2 rfl
    have a3 := hA7.c 3 rfl
    have a4 := hA7.c 4 rfl
    have f0 := hA7.f 0 rfl
    have f1 := hA7.f 1 rfl
    have f2 := hA7.f 2 rfl
    have f3 := hA7.f 3 rfl
    have f4 := hA7.f 4 rfl
    have hP9 := hA7.putL [.int .i64 (y2 : Int), .int .u32 (gg : Int), .int .i64 (y7 : Int), .int .i64 (y8 : Int), .slice A6 P.length c6] rfl
    have bP := below_putL [.int .i64 (y2 : Int), .int .u32 (gg : Int), .int .i64 (y7 : Int), .int .i64 (y8 : Int), .slice A6 P.length c6] 0 b7 (g := w.heap.size) (Nat.le_refl _)
    have hown7 := own_putL [.slice A6 P.length c6] 4 hown6 (own_above hown6 (g := w3.heap.size) hF5)
    have hown9 := own_putL [.int .i64 (y2 : Int), .int .u32 (gg : Int), .int .i64 (y7 : Int), .int .i64 (y8 : Int), .slice A6 P.length c6] 0 hown7 (own_above hown7 (g := w.heap.size) (by omega))
    simp only [putL, Nat.zero_add, Nat.reduceAdd] at hP9 bP hown9
    have HPP := Lib.hid hown9
    clear hown7 hown9 hsp hown6
    go_wp2_with fail
    have z0 := hP9.c 0 rfl
    have z1 := hP9.c 1 rfl
    have z2 := hP9.c 2 rfl
    have z3 := hP9.c 3 rfl
    have z4 := hP9.c 4 rfl
    have hsf := OwnB.sl HPP.out
    rw [HFR.out]
    exact bodyPost_ret (v := .tuple #[.agg #[.int .i64 (y2 : Int), .int .u32 (gg : Int), .int .i64 (y7 : Int), .int .i64 (y8 : Int), .slice A6 P.length c6], .int .i64 0]) (by simp [results, Try.results29, go_sem, z0, z1, z2, z3, z4]) rfl ⟨A6, c6, rfl, hsf.1, hsf.2.1, hsf.2.2, bP⟩
theorem FRead_any (w : World) (A : Option Addr) (n c : Nat) (b : List UInt8) (limit : Int) (hb : Sl w w.heap.size A (bv b)) (h0 : n = b.length) (hc : n ≤ c) (hm : c ≤ maxLen) :
    Calls Try.prog 29 #[.slice A n c, .int .i64 limit] w (ReadPost w (readF b limit)) := by
  obtain ⟨k, v, e, h⟩ : ∃ k v e, headS b limit = (k, v, e) := ⟨_, _, _, rfl⟩
  unfold readF
  rw [h]
  simp only
  by_cases he : e = 0
  · subst he
    rw [if_pos rfl]
    have hcut : cutF b limit = (9 + k + v + 4, 0) := by unfold cutF; rw [h]; rfl
    unfold bodyF
    by_cases h1 : b.length < 9 + k + v + 4
    · rw [if_pos h1]; exact FRead_short w A n c b limit _ hb h0 hc hm hcut (by omega)
    · rw [if_neg h1]
      by_cases h2 : 9 + k + v + 4 < b.length
      · rw [if_pos h2]; exact FRead_long w A n c b limit _ hb h0 hc hm hcut (by omega)
      · rw [if_neg h2]
        have hn : n = 9 + k + v + 4 := by omega
        cases ho : openS b with
        | none =>
          rw [if_pos rfl]
          obtain ⟨_, _, _, _, g5, g6, _, g8⟩ := head_ok h
          exact FRead_sum w A n c b limit hb h0 hc hm (by rw [hcut, hn]) (by omega) ho
        | some x =>
          rw [if_neg (by simp)]
          exact FRead_ok w A n c b limit k v hb h0 hc hm h hn x ho
  · rw [if_neg he]
    have hcut : cutF b limit = (0, e) := by unfold cutF; rw [h]; exact if_neg he
    exact FRead_bad w A n c b limit e hb h0 hc hm hcut he
end Go.Proofs.Ytkgmbpbbgkjidaa

