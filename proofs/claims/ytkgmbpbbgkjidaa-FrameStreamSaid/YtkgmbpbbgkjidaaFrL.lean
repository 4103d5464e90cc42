/- Frames: what is read is what was put: plain. -/
import Derived.Test.YtkgmbpbbgkjidaaFrK
import Derived.Test.YtkgmbpbbgkjidaaPLog
namespace Go.Proofs.Ytkgmbpbbgkjidaa
open Go.RowKit Go.Proofs.Ytkgmbpbbgkjidaa.Pl Go.Proofs.Ytkgmbpbbgkjidaa.Pc

theorem nine_take {b : List UInt8} (h2 : b.take 2 = [78, 82]) (h9 : 9 ≤ b.length) :
    b.take 9 = [78, 82, UInt8.ofNat (at_ b 2 : Int).toNat] ++ fixF (bigF 0 ((b.drop 3).take 4)) 4 ++ [UInt8.ofNat (at_ b 7 : Int).toNat, UInt8.ofNat (at_ b 8 : Int).toNat] := by
  match b, h9 with
  | a0 :: a1 :: a2 :: a3 :: a4 :: a5 :: a6 :: a7 :: a8 :: t, _ =>
    simp only [List.take_succ_cons, List.take_zero, List.cons.injEq, and_true] at h2
    obtain ⟨rfl, rfl⟩ := h2
    have e := fixF_bigF [a3, a4, a5, a6]
    simp only [List.length_cons, List.length_nil, Nat.zero_add, Nat.reduceAdd] at e
    simp only [List.drop_succ_cons, List.drop_zero, List.take_succ_cons, List.take_zero, e]
    simp [at_]
theorem frame_canon {b x : List UInt8} {limit : Int} {k v : Nat} (h : headS b limit = (k, v, 0)) (hl : b.length = 9 + k + v + 4) (ho : openS b = some x) : putF (frOf b k v) limit = (b, 0) := by
  obtain ⟨g1, g2, g3, g4, g5, g6, g7, g8⟩ := head_ok h
  obtain ⟨x1, _⟩ := open_len ho
  have hs := Lg.open_some ho
  have hk := takeS_ok (b.drop 9) (by rw [g4])
  rw [g4] at hk
  simp only at hk
  have hpl : ((b.drop (9 + k)).take v).length = v := by rw [List.length_take, List.length_drop]; omega
  have hel : (enc v).length = k := by rw [hk.2.2.2.1, List.length_take, List.length_drop]; omega
  have hr : (frOf b k v).right = true := g3
  have hlen : (frOf b k v).len = b.length := by
    unfold Fr.len frOf
    simp only
    rw [hpl, hel, hl]
  have hb : (frOf b k v).bytes = b := by
    unfold Fr.bytes
    have : (frOf b k v).body = x := by
      unfold Fr.body
      have hp : (frOf b k v).p = (b.drop (9 + k)).take v := rfl
      rw [hp, hpl, hk.2.2.2.1]
      have hh : (frOf b k v).head = b.take 9 := by
        rw [nine_take (by rw [g1, List.take_of_length_le (by simp; omega)]) g2]
        rfl
      rw [hh, x1, hl, show 9 + k + v + 4 - 4 = 9 + (k + v) by omega, List.take_add, List.take_add, List.drop_drop, List.append_assoc]
    rw [this]
    exact hs.symm
  unfold putF
  rw [if_pos hr, hlen, if_pos (by omega), hb]
theorem read_ok {b : List UInt8} {limit : Int} {x : Fr} (h : readF b limit = (x, 0)) : ∃ k v y, headS b limit = (k, v, 0) ∧ b.length = 9 + k + v + 4 ∧ openS b = some y ∧ x = frOf b k v := by
  unfold readF at h
  by_cases he : (headS b limit).2.2 = 0
  · obtain ⟨k, v, e, hh⟩ : ∃ k v e, headS b limit = (k, v, e) := ⟨_, _, _, rfl⟩
    rw [hh] at he
    simp only at he
    subst he
    rw [hh, if_pos rfl] at h
    simp only at h
    unfold bodyF at h
    by_cases h1 : b.length < 9 + k + v + 4
    · rw [if_pos h1] at h; injection h with _ h; omega
    · rw [if_neg h1] at h
      by_cases h2 : 9 + k + v + 4 < b.length
      · rw [if_pos h2] at h; injection h with _ h; omega
      · rw [if_neg h2] at h
        cases ho : openS b with
        | none => rw [ho, if_pos rfl] at h; injection h with _ h; omega
        | some y =>
          rw [ho, if_neg (by simp)] at h
          injection h with h _
          exact ⟨k, v, y, hh, by omega, rfl, h.symm⟩
  · rw [if_neg he] at h
    injection h with _ h
    exact absurd h he
theorem read_canon {b : List UInt8} {limit : Int} {x : Fr} (h : readF b limit = (x, 0)) : putF x limit = (b, 0) ∧ cutF b limit = (b.length, 0) ∧ x.p.length ≤ 65536 ∧ x.g < 4294967296 := by
  obtain ⟨k, v, y, h1, h2, h3, rfl⟩ := read_ok h
  obtain ⟨g1, g2, g3, g4, g5, g6, g7, g8⟩ := head_ok h1
  refine ⟨frame_canon h1 h2 h3, ?_, ?_, ?_⟩
  · unfold cutF; rw [h1, h2]; rfl
  · show ((b.drop (9 + k)).take v).length ≤ 65536
    rw [List.length_take]; omega
  · show bigF 0 ((b.drop 3).take 4) < 4294967296
    have := bigF_lt ((b.drop 3).take 4) 0
    have hl : ((b.drop 3).take 4).length = 4 := by simp; omega
    rw [hl] at this
    omega
theorem read_err {b : List UInt8} {limit : Int} {x : Fr} {e0 : Nat} (h : readF b limit = (x, e0)) (he : e0 ≠ 0) : x = zeroF := by
  unfold readF at h
  by_cases h0 : (headS b limit).2.2 = 0
  · rw [if_pos h0] at h
    unfold bodyF at h
    (repeat' split at h) <;> (injection h with h1 h2) <;> first | exact h1.symm | (exact absurd h2.symm he)
  · rw [if_neg h0] at h
    injection h with h _
    exact h.symm
set_option maxRecDepth 100000 in
set_option maxHeartbeats 3200000 in
theorem reads_any (w : World) (A : Option Addr) (n c : Nat) (b : List UInt8) (limit : Int) (hb : Sl w w.heap.size A (bv b)) (h0 : n = b.length) (hc : n ≤ c) (hm : c ≤ maxLen) :
    Calls Try.prog 32 #[.slice A n c, .int .i64 limit] w fun e w' => e = .returned (.bool true) ∧ Below w.heap.size w w' := by
  obtain ⟨x, e0, hr⟩ : ∃ x e0, readF b limit = (x, e0) := ⟨_, _, rfl⟩
  obtain ⟨r1, r2, hcut⟩ : ∃ r1 r2, cutF b limit = (r1, r2) := ⟨_, _, rfl⟩
  have hcan : e0 = 0 → putF x limit = (b, 0) ∧ r1 = b.length ∧ x.p.length ≤ 65536 ∧ x.g < 4294967296 := by
    intro h
    subst h
    obtain ⟨q1, q2, q3, q4⟩ := read_canon hr
    rw [hcut] at q2
    injection q2 with q2 _
    exact ⟨q1, q2, q3, q4⟩
  obtain ⟨k, g, f, t, p⟩ := x
  have H1 := Lib.hid (fun W h => FRead_lit W A n c b limit k f t g p e0 h h0 hc hm hr)
  have H2 := Lib.hid (fun W h => RRead_lit W A n c b limit k f t g p e0 h h0 hc hm hr)
  have H3 := Lib.hid (fun W h => Cut_lit W A n c b limit r1 r2 h h0 hc hm hcut)
  have H4 := Lib.hid (fun W h => RCut_lit W A n c b limit r1 r2 h h0 hc hm hcut)
  have H0 := Lib.hid h0
  simp only at hcan
  clear hr hcut h0
  go_enter Try.func32, Try.ntmps32
  go_wp2_with fail
  refine (H1.out _ hb).mono ?_
  rintro e w1 ⟨A1, c1, rfl, s1, hc1, hm1, hb1⟩
  have bF := balloc (Below.refl w1.heap.size w1) (.cells #[.int .i64 k, .int .u32 (g : Int), .int .i64 f, .int .i64 t, .slice A1 p.length c1] 47)
  have hF := At.new w1 47 #[.int .i64 k, .int .u32 (g : Int), .int .i64 f, .int .i64 t, .slice A1 p.length c1]
  have sB := (((hb.below hb1).more hb1.size).below bF).more bF.size
  replace s1 := (s1.below bF).more bF.size
  have b1 := hb1.trans (bF.mono hb1.size)
  clear hb1 bF hb
  obtain ⟨np, hnp⟩ : ∃ np, p.length = np := ⟨_, rfl⟩
  rw [hnp] at hF s1 b1 hc1 sB hcan ⊢
  have NP := Lib.hid hnp
  clear hnp
  go_wp2_with fail
  generalize w1.alloc (.cells #[.int .i64 k, .int .u32 (g : Int), .int .i64 f, .int .i64 t, .slice A1 np c1] 47) = w2 at *
  generalize w1.heap.size = gF at *
  refine (H2.out _ sB).mono ?_
  rintro e w3 ⟨A3, c3, rfl, s3, hc3, hm3, hb3⟩
  rw [NP.out] at hc3 ⊢
  have bG := balloc (Below.refl w3.heap.size w3) (.cells #[.int .i64 k, .int .u32 (g : Int), .int .i64 f, .int .i64 t, .slice A3 np c3] 47)
  have hG := At.new w3 47 #[.int .i64 k, .int .u32 (g : Int), .int .i64 f, .int .i64 t, .slice A3 np c3]
  replace sB := (((sB.below hb3).more hb3.size).below bG).more bG.size
  replace s1 := (((s1.below hb3).more hb3.size).below bG).more bG.size
  replace s3 := (s3.below bG).more bG.size
  replace hF := (hF.below hb3).below bG
  have b3' := b1.trans (hb3.mono b1.size)
  have b3 := b3'.trans (bG.mono b3'.size)
  clear b1 hb3 bG b3'
  go_wp2_with fail
  generalize w3.alloc (.cells #[.int .i64 k, .int .u32 (g : Int), .int .i64 f, .int .i64 t, .slice A3 np c3] 47) = w4 at *
  generalize w3.heap.size = gG at *
  refine (H3.out _ sB).mono ?_
  rintro e w5 ⟨rfl, hb5⟩
  replace sB := (sB.below hb5).more hb5.size
  replace s1 := (s1.below hb5).more hb5.size
  replace s3 := (s3.below hb5).more hb5.size
  replace hF := hF.below hb5
  replace hG := hG.below hb5
  have b5 := b3.trans (hb5.mono b3.size)
  clear b3 hb5
  go_wp2_with fail
  refine (H4.out _ sB).mono ?_
  rintro e w6 ⟨rfl, hb6⟩
  replace sB := (sB.below hb6).more hb6.size
  replace s1 := (s1.below hb6).more hb6.size
  replace s3 := (s3.below hb6).more hb6.size
  replace hF := hF.below hb6
  replace hG := hG.below hb6
  have b6 := b5.trans (hb6.mono b5.size)
  clear b5 hb6
  have a0 := hF.c 0 rfl
  have a1 := hF.c 1 rfl
  have a2 := hF.c 2 rfl
  have a3 := hF.c 3 rfl
  have a4 := hF.c 4 rfl
  have d0 := hG.c 0 rfl
  have d1 := hG.c 1 rfl
  have d2 := hG.c 2 rfl
  have d3 := hG.c 3 rfl
  have d4 := hG.c 4 rfl
  go_wp2_with fail
  refine (Same_eq w6 k f t g p np np c1 c3 A1 A3 s1 s3 NP.out.symm NP.out.symm).mono ?_
  rintro e w7 ⟨rfl, hb7⟩
  replace sB := (sB.below hb7).more hb7.size
  replace s1 := (s1.below hb7).more hb7.size
  replace hF := hF.below hb7
  have b7 := b6.trans (hb7.mono b6.size)
  clear b6 hb7 a0 a1 a2 a3 a4 d0 d1 d2 d3 d4 hG s3
  by_cases he : e0 = 0
  · subst he
    obtain ⟨q1, q2, q3, q4⟩ := hcan rfl
    subst q2
    have HP := Lib.hid (FPut_lit w7 k f t g p A1 np c1 limit b 0 s1 NP.out.symm hc1 hm1 (by have := NP.out; omega) q4 q1)
    clear hcan q1
    have a0 := hF.c 0 rfl
    have a1 := hF.c 1 rfl
    have a2 := hF.c 2 rfl
    have a3 := hF.c 3 rfl
    have a4 := hF.c 4 rfl
    go_wp2_with fail
    refine HP.out.mono ?_
    rintro e w8 ⟨A8, c8, rfl, s8, hc8, hm8, hb8⟩
    have k8 := conv s8 b.length c8 rfl
    have kB := conv ((sB.below hb8).more hb8.size) n c H0.out
    rw [← H0.out] at k8 ⊢
    go_wp2_with fail
    go_ret
    exact ⟨rfl, b7.trans (hb8.mono b7.size)⟩
  · have q0 : ((e0 : Int) != 0) = true := by simp; omega
    clear hcan
    go_wp2_with fail
    go_ret
    exact ⟨rfl, b7⟩
end Go.Proofs.Ytkgmbpbbgkjidaa

