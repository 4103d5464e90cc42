/- 'LogLimit': the walk of the law. -/
import Derived.Test.YtkgmbpbbgkjidaaLt
namespace Go.Proofs.Ytkgmbpbbgkjidaa
open Go.RowKit Go.Proofs.Ytkgmbpbbgkjidaa.Pl Go.Proofs.Ytkgmbpbbgkjidaa.Pc Go.Proofs.Ytkgmbpbbgkjidaa.Lg

theorem recs_one (l : List UInt8) : recs [l] = rec1 l := by simp [recs]
theorem putR_one {l : List UInt8} (h : l.length ≤ 65536) : putR [l] = (rec1 l, 0) := by
  rw [← recs_one]
  unfold putR
  rw [if_pos (by simpa using h)]
theorem putR_two {k l : List UInt8} (h : 65536 < l.length) : putR [k, l] = ([], 23) := putR_no (i := 1) (by simp) (by simpa using h)
theorem recs_two_len {k l : List UInt8} (hk : k.length ≤ 1) (hl : l.length ≤ 66000) : (recs [k, l]).length ≤ 1000000 := by
  have h1 := rec1_len k
  have h2 := rec1_len l
  have h3 := enc_len k.length
  have h4 := enc_len l.length
  have e : recs [k, l] = rec1 k ++ rec1 l := by simp [recs]
  rw [e, List.length_append]
  omega
theorem scan_one {l : List UInt8} (h : l.length ≤ 65536) : Lg.scan (rec1 l) = ([l], (rec1 l).length) := by
  have := scan_recs_all (ls := [l]) (fun p hp => by simp at hp; subst hp; exact h)
  rwa [recs_one] at this

set_option maxRecDepth 100000 in
set_option maxHeartbeats 12800000 in
theorem LogLimit_walk (w : World) (x : Nat) (hx : x < 256) (v : Nat) (hv : v < 256) :
    Calls Try.prog 8 #[.int .u8 (x : Int), .int .u8 (v : Int)] w fun e w' => e = .returned (.bool true) ∧ Below w.heap.size w w' := by
  have kc := fun (w : World) (C : Array Value) (n c : Nat) => Lib.run_convert_bytes_const (P := Try.prog) w 25 5 C n c Try.underlying25 Try.underlying5
  have hsz : ∀ (W : World) (p : Addr) (u : Value), (W.setCell p u).heap.size = W.heap.size := fun W p u => by simp
  have kc1 := fun (W : World) (p : Addr) (u : Value) => kc (W.setCell p u) #[.int .u8 120] 1 1
  simp only [hsz, List.size_toArray, List.length_cons, List.length_nil, Nat.zero_add, Nat.reduceAdd] at kc1
  clear kc
  obtain ⟨N, hN⟩ : ∃ N : Nat, 65537 + v = N := ⟨_, rfl⟩
  have hN1 : 65537 ≤ N ∧ N < 65793 := by omega
  have hNi : (65537 : Int) + (v : Int) = (N : Int) := by omega
  have hvN : v < N := by omega
  clear hN
  go_enter Try.func8, Try.ntmps8
  go_wp2_with fail
  refine (lgKnown_any w).mono ?_
  rintro e w1 ⟨rfl, b1⟩
  go_wp2_with (at_make; go_loud (refine mkZ (n := N) rfl rfl rfl rfl ?_ ?_ (by omega) ?_; (all_goals try (first | rfl | omega)); intro w2 hown2 hg2; have hrl : (List.replicate N (0 : UInt8)).length = N := List.length_replicate; generalize List.replicate N (0 : UInt8) = Z at *; obtain ⟨hcell, hfz, hst, hgr⟩ := hown2.store v x (Nat.lt_of_lt_of_eq hvN hrl.symm) hx; generalize hZz : Z[v]?.getD 0 = z at hcell; have hbl : (Z.set v (UInt8.ofNat x)).length = N := List.length_set.trans hrl; generalize Z.set v (UInt8.ofNat x) = B at hst hbl; subst hbl))
  have sB := (OwnB.sl hst).1
  have dB := below_of_grown hgr (B := w1.heap.size) (fun g e => by cases e; exact Nat.le_refl _) hg2.size
  have d2 : Below w1.heap.size w1 w2 := below_of_grown hg2 (fun k e => by cases e) (Nat.le_refl _)
  have b3 := b1.trans ((d2.trans (dB.mono (Nat.le_refl _))).mono b1.size)
  have s120 := Sl.new (w2.setCell ⟨w1.heap.size, v, none⟩ (.int .u8 (x : Int))) 5 #[.int .u8 120] (1, 2)
  have e4 := balloc (Below.refl (w2.setCell ⟨w1.heap.size, v, none⟩ (.int .u8 (x : Int))).heap.size (w2.setCell ⟨w1.heap.size, v, none⟩ (.int .u8 (x : Int)))) (.cells #[.int .u8 120] 5 (1, 2))
  replace sB := (sB.below e4).more e4.size
  have b4 := b3.trans (e4.mono b3.size)
  rw [hsz] at s120
  have hM5 := Mat.two ((w2.setCell ⟨w1.heap.size, v, none⟩ (.int .u8 (x : Int))).alloc (.cells #[.int .u8 120] 5 (1, 2))) 25 (.slice (some ⟨w2.heap.size, 0, none⟩) 1 1) (.slice (some ⟨w1.heap.size, 0, none⟩) B.length B.length) [120] B ⟨_, 1, rfl, s120.more (by simp), by simp, by simp [maxLen]⟩ ⟨_, B.length, rfl, sB, Nat.le_refl _, by simp only [maxLen]; omega⟩
  have e5 := balloc (Below.refl _ ((w2.setCell ⟨w1.heap.size, v, none⟩ (.int .u8 (x : Int))).alloc (.cells #[.int .u8 120] 5 (1, 2)))) (.cells #[.slice (some ⟨w2.heap.size, 0, none⟩) 1 1, .slice (some ⟨w1.heap.size, 0, none⟩) B.length B.length] 25)
  replace sB := (sB.below e5).more e5.size
  have b5 := b4.trans (e5.mono b4.size)
  have hM5s : (((w2.setCell ⟨w1.heap.size, v, none⟩ (.int .u8 (x : Int))).alloc (.cells #[.int .u8 120] 5 (1, 2)))).heap.size = w2.heap.size + 1 := by simp
  rw [hM5s] at hM5
  have hp2 := putR_two (k := [120]) (l := B) (by omega)
  have hr2 := recs_two_len (k := [120]) (l := B) (by simp) (by omega)
  obtain ⟨P, hP⟩ : ∃ P, B.take 65536 = P := ⟨_, rfl⟩
  have hPl : P.length = 65536 := by rw [← hP, List.length_take]; omega
  have hp1 := putR_one (l := P) (by omega)
  have hsc := scan_one (l := P) (by omega)
  have hsz1 : sizeN (65536 : Int) = (rec1 P).length := by
    have := sizeN_rec (l := P) (by omega)
    rwa [hPl] at this
  have hsz2 : sizeN (65537 : Int) = (rec1 P).length := by
    rw [← hsz1]
    decide +kernel
  have hQl := rec1_len P
  have hQe := enc_len P.length
  obtain ⟨Q, hQ⟩ : ∃ Q, rec1 P = Q := ⟨_, rfl⟩
  have hrQ : (recs [P]).length ≤ 1000000 := by rw [recs_one]; omega
  rw [hQ] at hp1 hsc hsz1 hsz2 hQl
  have hQ3 : Q.length ≤ 300000 := by omega
  have HQ := Lib.hid (And.intro hp1 (And.intro hsc (And.intro hsz1 (And.intro hsz2 (And.intro hPl (And.intro hp2 (And.intro hr2 hrQ)))))))
  have HPP := Lib.hid hP
  clear hQ hP hp1 hsc hsz1 hsz2 hQl hQe hp2 hr2 hrQ s120 e4 e5 hst hgr dB d2 hown2 hcell hfz hZz hrl hM5s b4 b3
  go_wp2_with fail
  generalize ((w2.setCell ⟨w1.heap.size, v, none⟩ (.int .u8 (x : Int))).alloc (.cells #[.int .u8 120] 5 (1, 2))).alloc (.cells #[.slice (some ⟨w2.heap.size, 0, none⟩) 1 1, .slice (some ⟨w1.heap.size, 0, none⟩) B.length B.length] 25) = w5 at *
  generalize w2.heap.size = g2 at *
  generalize w1.heap.size = g1 at *
  refine (LPut_lit w5 _ 2 2 [[120], B] [] 0 23 hM5 rfl (by simp [maxLen]) HQ.out.2.2.2.2.2.2.1 HQ.out.2.2.2.2.2.1 rfl).mono ?_
  rintro e w6 ⟨A6, c6, rfl, s6, hc6, hm6, hb6⟩
  replace sB := (sB.below hb6).more hb6.size
  have b6 := b5.trans (hb6.mono b5.size)
  have sP := sB.tk 65536
  rw [bv_take, HPP.out] at sP
  have hcB : (65536 : Int) ≤ (B.length : Int) := by omega
  have hMP := Mat.one w6 25 (.slice (some ⟨g1, 0, none⟩) 65536 B.length) P ⟨_, B.length, by rw [HQ.out.2.2.2.2.1], sP, by rw [HQ.out.2.2.2.2.1]; omega, by simp only [maxLen]; omega⟩
  have e7 := balloc (Below.refl w6.heap.size w6) (.cells #[.slice (some ⟨g1, 0, none⟩) 65536 B.length] 25)
  replace sP := (sP.below e7).more e7.size
  have b7 := b6.trans (e7.mono b6.size)
  clear hM5 sB hb6 b5 e7 b6
  go_wp2_with fail
  generalize w6.alloc (.cells #[.slice (some ⟨g1, 0, none⟩) 65536 B.length] 25) = w7 at *
  refine (LPut_lit w7 _ 1 1 [P] Q Q.length 0 hMP rfl (by simp [maxLen]) HQ.out.2.2.2.2.2.2.2 HQ.out.1 rfl).mono ?_
  rintro e w8 ⟨A8, c8, rfl, s8, hc8, hm8, hb8⟩
  replace sP := (sP.below hb8).more hb8.size
  have b8 := b7.trans (hb8.mono b7.size)
  clear hMP hb8 b7
  go_wp2_with fail
  refine (Scan_lit w8 A8 Q.length c8 Q [P] 1 Q.length s8 rfl hc8 hm8 hQ3 HQ.out.2.1 rfl).mono ?_
  rintro e w9 ⟨A9, c9, rfl, hM9, hc9, hm9, hb9⟩
  replace sP := (sP.below hb9).more hb9.size
  have b9 := b8.trans (hb9.mono b8.size)
  obtain ⟨bm, o, A10, c10, rfl, hbm, q0, s10, hc10, hm10⟩ := hM9.at_ (k := 0) (by simp)
  simp only [List.getElem?_cons_zero, Option.getD_some, Nat.add_zero] at q0 s10 hc10
  rw [HQ.out.2.2.2.2.1] at q0
  have v1 := convB s10 65536 c10 HQ.out.2.2.2.2.1.symm
  have v2 := convB sP 65536 B.length HQ.out.2.2.2.2.1.symm
  have HZ1 := Lib.hid (fun W => LSize_any W 65536)
  have HZ2 := Lib.hid (fun W => LSize_any W 65537)
  rw [HQ.out.2.2.1] at HZ1
  rw [HQ.out.2.2.2.1] at HZ2
  clear hM9 s10 sP s8 s6 hb9 b8
  go_wp2_with fail
  refine bstart (by kernel_rfl) ?_
  refine btake 0 (oi := _) (v := ?_) (by simp only [List.getElem?_toArray, List.getElem?_cons_succ, List.getElem?_cons_zero]; rfl) (by kernel_rfl) (by exact fun _ _ _ h => h) (by first | assumption | exact KB.refl _) (.inl ⟨by rfl, fun W hW => ?_⟩) ?_; rotate_left
  · (go_simp; first | done | with_reducible rfl)
  try simp only [Act.put, List.setIfInBounds_toArray, List.set_cons_zero, List.set_cons_succ]
  refine btake 1 (oi := _) (v := ?_) (by simp only [List.getElem?_toArray, List.getElem?_cons_succ, List.getElem?_cons_zero]; rfl) (by kernel_rfl) (by exact fun _ _ _ h => h) (by first | assumption | exact KB.refl _) (.inl ⟨by rfl, fun W hW => ?_⟩) ?_; rotate_left
  · (go_simp; first | done | with_reducible rfl)
  try simp only [Act.put, List.setIfInBounds_toArray, List.set_cons_zero, List.set_cons_succ]
  refine btake 2 (oi := _) (v := ?_) (by simp only [List.getElem?_toArray, List.getElem?_cons_succ, List.getElem?_cons_zero]; rfl) (by kernel_rfl) (by exact fun _ _ _ h => h) (by first | assumption | exact KB.refl _) (.inl ⟨by rfl, fun W hW => ?_⟩) ?_; rotate_left
  · (go_simp; first | done | with_reducible rfl)
  try simp only [Act.put, List.setIfInBounds_toArray, List.set_cons_zero, List.set_cons_succ]
  refine btake 3 (oi := _) (v := ?_) (by simp only [List.getElem?_toArray, List.getElem?_cons_succ, List.getElem?_cons_zero]; rfl) (by kernel_rfl) (by exact fun _ _ _ h => h) (by first | assumption | exact KB.refl _) (.inl ⟨by rfl, fun W hW => ?_⟩) ?_; rotate_left
  · (go_simp; first | done | with_reducible rfl)
  try simp only [Act.put, List.setIfInBounds_toArray, List.set_cons_zero, List.set_cons_succ]
  refine btake 4 (oi := _) (v := ?_) (by simp only [List.getElem?_toArray, List.getElem?_cons_succ, List.getElem?_cons_zero]; rfl) (by kernel_rfl) (by exact fun _ _ _ h => h) (by first | assumption | exact KB.refl _) (.inl ⟨by rfl, fun W hW => ?_⟩) ?_; rotate_left
  · (go_simp; first | done | with_reducible rfl)
  try simp only [Act.put, List.setIfInBounds_toArray, List.set_cons_zero, List.set_cons_succ]
  refine btake 5 (oi := _) (v := ?_) (by simp only [List.getElem?_toArray, List.getElem?_cons_succ, List.getElem?_cons_zero]; rfl) (by kernel_rfl) (by exact fun _ _ _ h => h) (by first | assumption | exact KB.refl _) (.inl ⟨by rfl, fun W hW => ?_⟩) ?_; rotate_left
  · (go_simp; first | done | with_reducible rfl)
  try simp only [Act.put, List.setIfInBounds_toArray, List.set_cons_zero, List.set_cons_succ]
  refine btake 6 (oi := _) (v := ?_) (by simp only [List.getElem?_toArray, List.getElem?_cons_succ, List.getElem?_cons_zero]; rfl) (by kernel_rfl) (by exact fun _ _ _ h => h) (by first | assumption | exact KB.refl _) (.inl ⟨by rfl, fun W hW => ?_⟩) ?_; rotate_left
  · (go_simp; first | done | with_reducible rfl)
  try simp only [Act.put, List.setIfInBounds_toArray, List.set_cons_zero, List.set_cons_succ]
  refine btake 7 (oi := _) (v := ?_) (by simp only [List.getElem?_toArray, List.getElem?_cons_succ, List.getElem?_cons_zero]; rfl) (by kernel_rfl) (by exact fun _ _ _ h => h) (by first | assumption | exact KB.refl _) (.inl ⟨by rfl, fun W hW => ?_⟩) ?_; rotate_left
  · (go_simp; first | done | with_reducible rfl)
  try simp only [Act.put, List.setIfInBounds_toArray, List.set_cons_zero, List.set_cons_succ]
  refine btake 8 (oi := _) (v := ?_) (by simp only [List.getElem?_toArray, List.getElem?_cons_succ, List.getElem?_cons_zero]; rfl) (by kernel_rfl) (by exact fun _ _ _ h => h) (by first | assumption | exact KB.refl _) (.inl ⟨by rfl, fun W hW => ?_⟩) ?_; rotate_left
  · (go_simp; first | done | with_reducible rfl)
  try simp only [Act.put, List.setIfInBounds_toArray, List.set_cons_zero, List.set_cons_succ]
  refine btake 9 (oi := _) (v := ?_) (by simp only [List.getElem?_toArray, List.getElem?_cons_succ, List.getElem?_cons_zero]; rfl) (by kernel_rfl) (by exact fun _ _ _ h => h) (by first | assumption | exact KB.refl _) (.inl ⟨by rfl, fun W hW => ?_⟩) ?_; rotate_left
  · (go_simp; first | done | with_reducible rfl)
  try simp only [Act.put, List.setIfInBounds_toArray, List.set_cons_zero, List.set_cons_succ]
  refine btake 10 (oi := _) (v := ?_) (by simp only [List.getElem?_toArray, List.getElem?_cons_succ, List.getElem?_cons_zero]; rfl) (by kernel_rfl) (by exact fun _ _ _ h => h) (by first | assumption | exact KB.refl _) (.inl ⟨by rfl, fun W hW => ?_⟩) ?_; rotate_left
  · (go_simp; first | done | with_reducible rfl)
  try simp only [Act.put, List.setIfInBounds_toArray, List.set_cons_zero, List.set_cons_succ]
  refine btake 11 (oi := _) (v := ?_) (by simp only [List.getElem?_toArray, List.getElem?_cons_succ, List.getElem?_cons_zero]; rfl) (by kernel_rfl) (by exact fun _ _ _ h => h) (by first | assumption | exact KB.refl _) (.inl ⟨by rfl, fun W hW => ?_⟩) ?_; rotate_left
  · (go_simp; first | done | with_reducible rfl)
  try simp only [Act.put, List.setIfInBounds_toArray, List.set_cons_zero, List.set_cons_succ]
  refine btake 12 (oi := _) (v := ?_) (by simp only [List.getElem?_toArray, List.getElem?_cons_succ, List.getElem?_cons_zero]; rfl) (by kernel_rfl) (by exact fun _ _ _ h => h) (by first | assumption | exact KB.refl _) (.inl ⟨by rfl, fun W hW => ?_⟩) ?_; rotate_left
  · (go_simp; first | done | with_reducible rfl)
  try simp only [Act.put, List.setIfInBounds_toArray, List.set_cons_zero, List.set_cons_succ]
  refine btake 13 (oi := _) (v := ?_) (by simp only [List.getElem?_toArray, List.getElem?_cons_succ, List.getElem?_cons_zero]; rfl) (by kernel_rfl) (by exact fun _ _ _ h => h) (by first | assumption | exact KB.refl _) (.inl ⟨by rfl, fun W hW => ?_⟩) ?_; rotate_left
  · (go_simp; first | done | with_reducible rfl)
  try simp only [Act.put, List.setIfInBounds_toArray, List.set_cons_zero, List.set_cons_succ]
  -- 14: newsreel/log.Size
  refine bop 14 (o := _) (by simp only [List.getElem?_toArray, List.getElem?_cons_succ, List.getElem?_cons_zero]; rfl) (by kernel_rfl) (by first | assumption | exact KB.refl _) (by rfl) (fun K hK => ?_)
  go_simp
  refine (HZ1.out _).mono ?_
  rintro e w14 ⟨rfl, h14⟩
  have hkb := KB.of h14
  have hk14 : KB w9.heap w14 := hkb
  refine hK.out _ _ hkb ?_; clear hK K
  try simp only [Act.put, List.setIfInBounds_toArray, List.set_cons_zero, List.set_cons_succ]
  refine btake 15 (oi := _) (v := ?_) (by simp only [List.getElem?_toArray, List.getElem?_cons_succ, List.getElem?_cons_zero]; rfl) (by kernel_rfl) (by exact fun _ _ _ h => h) (by first | assumption | exact KB.refl _) (.inl ⟨by rfl, fun W hW => ?_⟩) ?_; rotate_left
  · (go_simp; first | done | with_reducible rfl)
  try simp only [Act.put, List.setIfInBounds_toArray, List.set_cons_zero, List.set_cons_succ]
  refine btake 16 (oi := _) (v := ?_) (by simp only [List.getElem?_toArray, List.getElem?_cons_succ, List.getElem?_cons_zero]; rfl) (by kernel_rfl) (by exact fun _ _ _ h => h) (by first | assumption | exact KB.refl _) (.inl ⟨by rfl, fun W hW => ?_⟩) ?_; rotate_left
  · (go_simp; first | done | with_reducible rfl)
  try simp only [Act.put, List.setIfInBounds_toArray, List.set_cons_zero, List.set_cons_succ]
  refine btake 17 (oi := _) (v := ?_) (by simp only [List.getElem?_toArray, List.getElem?_cons_succ, List.getElem?_cons_zero]; rfl) (by kernel_rfl) (by exact fun _ _ _ h => h) (by first | assumption | exact KB.refl _) (.inl ⟨by rfl, fun W hW => ?_⟩) ?_; rotate_left
  · (go_simp; first | done | with_reducible rfl)
  try simp only [Act.put, List.setIfInBounds_toArray, List.set_cons_zero, List.set_cons_succ]
  refine btake 19 (oi := _) (v := ?_) (by simp only [List.getElem?_toArray, List.getElem?_cons_succ, List.getElem?_cons_zero]; rfl) (by kernel_rfl) (by exact fun _ _ _ h => h) (by first | assumption | exact KB.refl _) (.inl ⟨by rfl, fun W hW => ?_⟩) ?_; rotate_left
  · (go_simp; first | done | with_reducible rfl)
  try simp only [Act.put, List.setIfInBounds_toArray, List.set_cons_zero, List.set_cons_succ]
  refine btake 20 (oi := _) (v := ?_) (by simp only [List.getElem?_toArray, List.getElem?_cons_succ, List.getElem?_cons_zero]; rfl) (by kernel_rfl) (by exact fun _ _ _ h => h) (by first | assumption | exact KB.refl _) (.inl ⟨by rfl, fun W hW => ?_⟩) ?_; rotate_left
  · (go_simp; first | done | with_reducible rfl)
  try simp only [Act.put, List.setIfInBounds_toArray, List.set_cons_zero, List.set_cons_succ]
  -- 18: newsreel/log.Size
  refine bop 18 (o := _) (by simp only [List.getElem?_toArray, List.getElem?_cons_succ, List.getElem?_cons_zero]; rfl) (by kernel_rfl) (by first | assumption | exact KB.refl _) (by rfl) (fun K hK => ?_)
  go_simp
  refine (HZ2.out _).mono ?_
  rintro e w18 ⟨rfl, h18⟩
  have hkb := KB.of h18
  have hk18 : KB w9.heap w18 := hk14.trans hkb
  refine hK.out _ _ hkb ?_; clear hK K
  try simp only [Act.put, List.setIfInBounds_toArray, List.set_cons_zero, List.set_cons_succ]
  refine btake 21 (oi := _) (v := ?_) (by simp only [List.getElem?_toArray, List.getElem?_cons_succ, List.getElem?_cons_zero]; rfl) (by kernel_rfl) (by exact fun _ _ _ h => h) (by first | assumption | exact KB.refl _) (.inl ⟨by rfl, fun W hW => ?_⟩) ?_; rotate_left
  · (go_simp; first | done | with_reducible rfl)
  try simp only [Act.put, List.setIfInBounds_toArray, List.set_cons_zero, List.set_cons_succ]
  refine btake 22 (oi := _) (v := ?_) (by simp only [List.getElem?_toArray, List.getElem?_cons_succ, List.getElem?_cons_zero]; rfl) (by kernel_rfl) (by exact fun _ _ _ h => h) (by first | assumption | exact KB.refl _) (.inl ⟨by rfl, fun W hW => ?_⟩) ?_; rotate_left
  · (go_simp; first | done | with_reducible rfl)
  try simp only [Act.put, List.setIfInBounds_toArray, List.set_cons_zero, List.set_cons_succ]
  refine btake 23 (oi := _) (v := ?_) (by simp only [List.getElem?_toArray, List.getElem?_cons_succ, List.getElem?_cons_zero]; rfl) (by kernel_rfl) (by exact fun _ _ _ h => h) (by first | assumption | exact KB.refl _) (.inl ⟨by rfl, fun W hW => ?_⟩) ?_; rotate_left
  · (go_simp; first | done | with_reducible rfl)
  try simp only [Act.put, List.setIfInBounds_toArray, List.set_cons_zero, List.set_cons_succ]
  refine btake 24 (oi := _) (v := ?_) (by simp only [List.getElem?_toArray, List.getElem?_cons_succ, List.getElem?_cons_zero]; rfl) (by kernel_rfl) (by exact fun _ _ _ h => h) (by first | assumption | exact KB.refl _) (.inl ⟨by rfl, fun W hW => ?_⟩) ?_; rotate_left
  · (go_simp; first | done | with_reducible rfl)
  try simp only [Act.put, List.setIfInBounds_toArray, List.set_cons_zero, List.set_cons_succ]
  refine btake 25 (oi := _) (v := ?_) (by simp only [List.getElem?_toArray, List.getElem?_cons_succ, List.getElem?_cons_zero]; rfl) (by kernel_rfl) (by exact fun _ _ _ h => h) (by first | assumption | exact KB.refl _) (.inl ⟨by rfl, fun W hW => ?_⟩) ?_; rotate_left
  · (go_simp; first | done | with_reducible rfl)
  try simp only [Act.put, List.setIfInBounds_toArray, List.set_cons_zero, List.set_cons_succ]
  refine btake 26 (oi := _) (v := ?_) (by simp only [List.getElem?_toArray, List.getElem?_cons_succ, List.getElem?_cons_zero]; rfl) (by kernel_rfl) (by exact fun _ _ _ h => h) (by first | assumption | exact KB.refl _) (.inl ⟨by rfl, fun W hW => ?_⟩) ?_; rotate_left
  · (go_simp; first | done | with_reducible rfl)
  try simp only [Act.put, List.setIfInBounds_toArray, List.set_cons_zero, List.set_cons_succ]
  refine btake 27 (oi := _) (v := ?_) (by simp only [List.getElem?_toArray, List.getElem?_cons_succ, List.getElem?_cons_zero]; rfl) (by kernel_rfl) (by exact fun _ _ _ h => h) (by first | assumption | exact KB.refl _) (.inl ⟨by rfl, fun W hW => ?_⟩) ?_; rotate_left
  · (go_simp; first | done | with_reducible rfl)
  try simp only [Act.put, List.setIfInBounds_toArray, List.set_cons_zero, List.set_cons_succ]
  refine btake 28 (oi := _) (v := ?_) (by simp only [List.getElem?_toArray, List.getElem?_cons_succ, List.getElem?_cons_zero]; rfl) (by kernel_rfl) (by exact fun _ _ _ h => h) (by first | assumption | exact KB.refl _) (.inl ⟨by rfl, fun W hW => ?_⟩) ?_; rotate_left
  · (go_simp; first | done | with_reducible rfl)
  try simp only [Act.put, List.setIfInBounds_toArray, List.set_cons_zero, List.set_cons_succ]
  refine btake 29 (oi := _) (v := ?_) (by simp only [List.getElem?_toArray, List.getElem?_cons_succ, List.getElem?_cons_zero]; rfl) (by kernel_rfl) (by exact fun _ _ _ h => h) (by first | assumption | exact KB.refl _) (.inl ⟨by rfl, fun W hW => ?_⟩) ?_; rotate_left
  · (go_simp; first | done | with_reducible rfl)
  try simp only [Act.put, List.setIfInBounds_toArray, List.set_cons_zero, List.set_cons_succ]
  refine btake 30 (oi := _) (v := ?_) (by simp only [List.getElem?_toArray, List.getElem?_cons_succ, List.getElem?_cons_zero]; rfl) (by kernel_rfl) (by exact fun _ _ _ h => h) (by first | assumption | exact KB.refl _) (.inl ⟨by rfl, fun W hW => ?_⟩) ?_; rotate_left
  · (go_simp; first | done | with_reducible rfl)
  try simp only [Act.put, List.setIfInBounds_toArray, List.set_cons_zero, List.set_cons_succ]
  refine btake 31 (oi := _) (v := ?_) (by simp only [List.getElem?_toArray, List.getElem?_cons_succ, List.getElem?_cons_zero]; rfl) (by kernel_rfl) (by exact fun _ _ _ h => h) (by first | assumption | exact KB.refl _) (.inl ⟨by rfl, fun W hW => ?_⟩) ?_; rotate_left
  · (go_simp; first | done | with_reducible rfl)
  try simp only [Act.put, List.setIfInBounds_toArray, List.set_cons_zero, List.set_cons_succ]
  refine btake 32 (oi := _) (v := ?_) (by simp only [List.getElem?_toArray, List.getElem?_cons_succ, List.getElem?_cons_zero]; rfl) (by kernel_rfl) (by exact fun _ _ _ h => h) (by first | assumption | exact KB.refl _) (.inl ⟨by rfl, fun W hW => ?_⟩) ?_; rotate_left
  · (go_simp; first | done | with_reducible rfl)
  try simp only [Act.put, List.setIfInBounds_toArray, List.set_cons_zero, List.set_cons_succ]
  refine btake 33 (oi := _) (v := ?_) (by simp only [List.getElem?_toArray, List.getElem?_cons_succ, List.getElem?_cons_zero]; rfl) (by kernel_rfl) (by exact fun _ _ _ h => h) (by first | assumption | exact KB.refl _) (.inl ⟨by rfl, fun W hW => ?_⟩) ?_; rotate_left
  · (go_simp; first | done | with_reducible rfl)
  try simp only [Act.put, List.setIfInBounds_toArray, List.set_cons_zero, List.set_cons_succ]
  refine btake 34 (oi := _) (v := ?_) (by simp only [List.getElem?_toArray, List.getElem?_cons_succ, List.getElem?_cons_zero]; rfl) (by kernel_rfl) (by exact fun _ _ _ h => h) (by first | assumption | exact KB.refl _) (.inl ⟨by rfl, fun W hW => ?_⟩) ?_; rotate_left
  · (go_simp; first | done | with_reducible rfl)
  try simp only [Act.put, List.setIfInBounds_toArray, List.set_cons_zero, List.set_cons_succ]
  refine btake 35 (oi := _) (v := ?_) (by simp only [List.getElem?_toArray, List.getElem?_cons_succ, List.getElem?_cons_zero]; rfl) (by kernel_rfl) (by exact fun _ _ _ h => h) (by first | assumption | exact KB.refl _) (.inl ⟨by rfl, fun W hW => ?_⟩) ?_; rotate_left
  · (go_simp; first | done | with_reducible rfl)
  try simp only [Act.put, List.setIfInBounds_toArray, List.set_cons_zero, List.set_cons_succ]
  refine btake 36 (oi := _) (v := ?_) (by simp only [List.getElem?_toArray, List.getElem?_cons_succ, List.getElem?_cons_zero]; rfl) (by kernel_rfl) (by exact fun _ _ _ h => h) (by first | assumption | exact KB.refl _) (.inl ⟨by rfl, fun W hW => ?_⟩) ?_; rotate_left
  · (go_simp; first | done | with_reducible rfl)
  try simp only [Act.put, List.setIfInBounds_toArray, List.set_cons_zero, List.set_cons_succ]
  refine btake 37 (oi := _) (v := ?_) (by simp only [List.getElem?_toArray, List.getElem?_cons_succ, List.getElem?_cons_zero]; rfl) (by kernel_rfl) (by exact fun _ _ _ h => h) (by first | assumption | exact KB.refl _) (.inl ⟨by rfl, fun W hW => ?_⟩) ?_; rotate_left
  · go_simp
    have q := (hk18.trans hW).cell (p := ⟨bm, o, none⟩) hbm
    rw [q0] at q
    go_simp
    first | done | with_reducible rfl
  try simp only [Act.put, List.setIfInBounds_toArray, List.set_cons_zero, List.set_cons_succ]
  refine btake 38 (oi := _) (v := ?_) (by simp only [List.getElem?_toArray, List.getElem?_cons_succ, List.getElem?_cons_zero]; rfl) (by kernel_rfl) (by exact fun _ _ _ h => h) (by first | assumption | exact KB.refl _) (.inl ⟨by rfl, fun W hW => ?_⟩) ?_; rotate_left
  · go_simp
    have q := v1 W (hk18.trans hW)
    go_simp
    first | done | with_reducible rfl
  try simp only [Act.put, List.setIfInBounds_toArray, List.set_cons_zero, List.set_cons_succ]
  refine btake 39 (oi := _) (v := ?_) (by simp only [List.getElem?_toArray, List.getElem?_cons_succ, List.getElem?_cons_zero]; rfl) (by kernel_rfl) (by exact fun _ _ _ h => h) (by first | assumption | exact KB.refl _) (.inl ⟨by rfl, fun W hW => ?_⟩) ?_; rotate_left
  · (go_simp; first | done | with_reducible rfl)
  try simp only [Act.put, List.setIfInBounds_toArray, List.set_cons_zero, List.set_cons_succ]
  refine btake 40 (oi := _) (v := ?_) (by simp only [List.getElem?_toArray, List.getElem?_cons_succ, List.getElem?_cons_zero]; rfl) (by kernel_rfl) (by exact fun _ _ _ h => h) (by first | assumption | exact KB.refl _) (.inl ⟨by rfl, fun W hW => ?_⟩) ?_; rotate_left
  · (go_simp; first | done | with_reducible rfl)
  try simp only [Act.put, List.setIfInBounds_toArray, List.set_cons_zero, List.set_cons_succ]
  refine btake 41 (oi := _) (v := ?_) (by simp only [List.getElem?_toArray, List.getElem?_cons_succ, List.getElem?_cons_zero]; rfl) (by kernel_rfl) (by exact fun _ _ _ h => h) (by first | assumption | exact KB.refl _) (.inl ⟨by rfl, fun W hW => ?_⟩) ?_; rotate_left
  · go_simp
    have q := v2 W (hk18.trans hW)
    go_simp
    first | done | with_reducible rfl
  try simp only [Act.put, List.setIfInBounds_toArray, List.set_cons_zero, List.set_cons_succ]
  refine btake 42 (oi := _) (v := ?_) (by simp only [List.getElem?_toArray, List.getElem?_cons_succ, List.getElem?_cons_zero]; rfl) (by kernel_rfl) (by exact fun _ _ _ h => h) (by first | assumption | exact KB.refl _) (.inl ⟨by rfl, fun W hW => ?_⟩) ?_; rotate_left
  · (go_simp; first | done | with_reducible rfl)
  try simp only [Act.put, List.setIfInBounds_toArray, List.set_cons_zero, List.set_cons_succ]
  refine btake 43 (oi := _) (v := ?_) (by simp only [List.getElem?_toArray, List.getElem?_cons_succ, List.getElem?_cons_zero]; rfl) (by kernel_rfl) (by exact fun _ _ _ h => h) (by first | assumption | exact KB.refl _) (.inl ⟨by rfl, fun W hW => ?_⟩) ?_; rotate_left
  · (go_simp; first | done | with_reducible rfl)
  try simp only [Act.put, List.setIfInBounds_toArray, List.set_cons_zero, List.set_cons_succ]
  refine btake 44 (oi := _) (v := ?_) (by simp only [List.getElem?_toArray, List.getElem?_cons_succ, List.getElem?_cons_zero]; rfl) (by kernel_rfl) (by exact fun _ _ _ h => h) (by first | assumption | exact KB.refl _) (.inl ⟨by rfl, fun W hW => ?_⟩) ?_; rotate_left
  · (go_simp; first | done | with_reducible rfl)
  try simp only [Act.put, List.setIfInBounds_toArray, List.set_cons_zero, List.set_cons_succ]
  refine bdone (by kernel_rfl) ?_
  go_wp2_with fail
  go_ret
  have b14 := b9.drew.trans (h14.mono b9.size)
  exact ⟨rfl, b14.trans (h18.mono b14.size)⟩
end Go.Proofs.Ytkgmbpbbgkjidaa

