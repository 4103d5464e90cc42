/- 'HlcPeek': the walk of the law. -/
import Derived.Test.YtejligapkgnnnaaHlcK
import Derived.Test.YtejligapkgnnnaaFrame
namespace Go.Proofs.Ytejligapkgnnnaa
open Go.RowKit

theorem next_of (c : Clk) (now : Int) (s : S3) (er : Int) (h : peekS c now = (s, er)) : nextC c now = if er = 0 then { c with s := s } else c := by unfold nextC; rw [h]
set_option maxRecDepth 100000 in
set_option maxHeartbeats 6400000 in
theorem HlcPeek_walk (w : World) (k : Nat) (hk : k < 256) (A : Option Addr) (c : Nat) (l : List Nat) (hb : Sl w w.heap.size A (l.map (fun (n : Nat) => Value.int .u16 (n : Int)))) (hc : l.length ≤ c) (_ : c * 2 ≤ 140737488351232) (hu : ∀ n ∈ l, n < 65536) :
    Calls Try.prog 3 #[.int .u8 (k : Int), .slice A l.length c] w fun e w' => e = .returned (.bool true) ∧ Below w.heap.size w w' := by
  by_cases h300 : 300 < l.length
  · have hd : decide (300 < (l.length : Int)) = true := by simp; omega
    go_enter Try.func3, Try.ntmps3
    go_wp2_with fail
    refine (hlcKnown_any w).mono ?_
    rintro e w1 ⟨rfl, hb1⟩
    go_wp2_with fail
    go_ret
    exact ⟨rfl, hb1⟩
  have h300' : l.length ≤ 300 := by omega
  have k64 : (k : Int) % 64 = ((k % 64 : Nat) : Int) := by omega
  have k3 : (k : Int) % 3 = ((k % 3 : Nat) : Int) := by omega
  have k5 : (k : Int) % 5 = ((k % 5 : Nat) : Int) := by omega
  have hnew := fun W => New_ok W ((k % 64 : Nat) : Int) ((k % 3 : Nat) : Int) ((k % 5 : Nat) : Int) (by omega) (by omega) (by simp [timedB]; omega)
  have hok : Clk.ok ⟨⟨0, 0, ((k % 64 : Nat) : Int)⟩, ((k % 3 : Nat) : Int), ((k % 5 : Nat) : Int)⟩ := by simp [Clk.ok]; omega
  have ka : k % 64 < 64 := by omega
  have kb : k % 3 < 3 := by omega
  have kc : k % 5 < 5 := by omega
  generalize k % 64 = R at *
  generalize k % 3 = M at *
  generalize k % 5 = D at *
  go_enter Try.func3, Try.ntmps3
  go_wp2_with fail
  refine (hlcKnown_any w).mono ?_
  rintro e w1 ⟨rfl, hb1⟩
  go_wp2_with fail
  refine (hnew w1).mono ?_
  clear hnew
  rintro e w2 ⟨g, rfl, hg, hst2, hb2⟩
  have hb2' := bstep hb1 hb2
  have hgw : w.heap.size ≤ g := Nat.le_trans hb1.size hg
  have hz2 := hb2'.size
  clear hb2 hg
  go_wp2_with fail
  go_loopw [7] (fun x7 wr => ∃ i : Nat, i ≤ l.length ∧ x7 = .int .i64 (i : Int) ∧ Below w.heap.size w wr ∧ w2.heap.size ≤ wr.heap.size ∧ ∃ cl : Clk, StandsC wr g cl ∧ cl.ok) (fun x7 _ => l.length - (intOf x7).toNat)
  case atStart => exact ⟨0, Nat.zero_le _, rfl, hb2', Nat.le_refl _, _, hst2, hok⟩
  case round =>
    obtain ⟨i, hi, rfl, hbel, hsz, cl, hst, hclo⟩ := hrel
    by_cases hlt : i < l.length
    · obtain ⟨b, o, rfl, _, _, hce⟩ := (hb.below hbel).at_ (k := i) (by simpa using hlt)
      have hcell := hce i (.int .u16 ((l[i]?.getD 0 : Nat) : Int)) (by rw [List.getElem?_map, List.getElem?_eq_getElem hlt]; rfl)
      have hx := hu (l[i]?.getD 0) (by rw [List.getElem?_eq_getElem hlt]; exact List.getElem_mem hlt)
      generalize l[i]?.getD 0 = x at *
      have hx40 : (x : Int) % 40 = ((x % 40 : Nat) : Int) := by omega
      have hxl : x % 40 < 40 := by omega
      generalize x % 40 = y at *
      have hz : w.heap.size ≤ wr.heap.size := hbel.size
      clear hce hb2' hst2
      have hnext := next_of cl ((y : Int) - 1)
      have hpk := fun W hW => Peek_any W g cl ((y : Int) - 1) hW hclo
      have hnx := fun W hW => Next_any W g cl ((y : Int) - 1) hW hclo
      have hno := nextC_ok hclo ((y : Int) - 1)
      obtain ⟨q, hq⟩ : ∃ q, peekS cl ((y : Int) - 1) = q := ⟨_, rfl⟩
      obtain ⟨s, er⟩ := q
      have hnext := hnext s er hq
      rw [hq] at hpk hnx
      simp only at hpk hnx
      generalize nextC cl ((y : Int) - 1) = cn at *
      have H := Lib.hid (And.intro hpk (And.intro hnx (And.intro hno hnext)))
      clear hpk hnx hno hnext hq
      go_wp2_with fail
      refine (Last_any wr g cl hst).mono ?_
      rintro e w3 ⟨rfl, hb3⟩
      have hst3 := hst.below hb3
      have hbel3 := hbel.trans (hb3.mono hbel.size)
      have hz3 := hb3.size
      unfold S3.v
      go_wp2_with fail
      have vw := Stands.new w3 30 cl.s
      have hst4 := hst3.alloc (.cells #[.int .i64 cl.s.p, .int .i64 cl.s.l, .int .i64 cl.s.r] 30)
      have b4 := hbel3.alloc hbel3.size (.cells #[.int .i64 cl.s.p, .int .i64 cl.s.l, .int .i64 cl.s.r] 30)
      have hgv : w3.heap.size ≠ g := by have := hst3.1.1; omega
      have hgl : g < w3.heap.size := hst3.1.1
      have hz4 : (w3.alloc (.cells #[.int .i64 cl.s.p, .int .i64 cl.s.l, .int .i64 cl.s.r] 30)).heap.size = w3.heap.size + 1 := by simp
      generalize w3.alloc (.cells #[.int .i64 cl.s.p, .int .i64 cl.s.l, .int .i64 cl.s.r] 30) = w4 at *
      generalize w3.heap.size = gw at *
      refine (H.out.1 w4 hst4).mono ?_
      rintro e w5 ⟨rfl, hb5⟩
      have vw := vw.below hb5
      have hst5 := hst4.below hb5
      have b5 := b4.trans (hb5.mono b4.size)
      have hz5 := hb5.size
      unfold S3.v
      go_wp2_with fail
      have vx := Stands.new w5 30 s
      have hst6 := hst5.alloc (.cells #[.int .i64 s.p, .int .i64 s.l, .int .i64 s.r] 30)
      have vw := vw.alloc (.cells #[.int .i64 s.p, .int .i64 s.l, .int .i64 s.r] 30)
      have b6 := b5.alloc b5.size (.cells #[.int .i64 s.p, .int .i64 s.l, .int .i64 s.r] 30)
      have hz6 : (w5.alloc (.cells #[.int .i64 s.p, .int .i64 s.l, .int .i64 s.r] 30)).heap.size = w5.heap.size + 1 := by simp
      generalize w5.alloc (.cells #[.int .i64 s.p, .int .i64 s.l, .int .i64 s.r] 30) = w6 at *
      have hgx : w5.heap.size ≠ g := by omega
      generalize w5.heap.size = gx at *
      have e0 := cellB vw.2.1
      have e1 := cellB vw.2.2.1
      have e2 := cellB vw.2.2.2.1
      clear hst hst3 hst4 hst5 hbel3 b4 b5 hb3 hb5
      refine bstart (by kernel_rfl) ?_
      refine btake 0 (oi := _) (v := ?_) (by simp only [List.getElem?_toArray, List.getElem?_cons_succ, List.getElem?_cons_zero]; rfl) (by kernel_rfl) (by exact fun _ _ _ h => h) (by first | assumption | exact KB.refl _) (.inl ⟨by rfl, fun W hW => ?_⟩) ?_; rotate_left
      · (go_simp; first | done | with_reducible rfl)
      try simp only [Act.put, List.setIfInBounds_toArray, List.set_cons_zero, List.set_cons_succ]
      refine btake 2 (oi := _) (v := ?_) (by simp only [List.getElem?_toArray, List.getElem?_cons_succ, List.getElem?_cons_zero]; rfl) (by kernel_rfl) (by exact fun _ _ _ h => h) (by first | assumption | exact KB.refl _) (.inl ⟨by rfl, fun W hW => ?_⟩) ?_; rotate_left
      · (go_simp; first | done | with_reducible rfl)
      try simp only [Act.put, List.setIfInBounds_toArray, List.set_cons_zero, List.set_cons_succ]
      -- 1: (*newsreel/hlc.Clock).Last
      refine bop 1 (o := _) (by simp only [List.getElem?_toArray, List.getElem?_cons_succ, List.getElem?_cons_zero]; rfl) (by kernel_rfl) (by first | assumption | exact KB.refl _) (by rfl) (fun K hK => ?_)
      go_simp
      refine (Last_any w6.drew g cl (hst6.below (Below.refl _ _).drew)).mono ?_
      rintro e w7 ⟨rfl, hb7⟩
      have hb7' : Below w6.heap.size w6 w7 := (Below.refl _ w6).drew.trans hb7
      have vw := vw.below hb7'
      have e0 := cellB vw.2.1
      have e1 := cellB vw.2.2.1
      have e2 := cellB vw.2.2.2.1
      have hkb := KB.of hb7
      unfold S3.v
      refine hK.out _ _ hkb ?_; clear hK K
      try simp only [Act.put, List.setIfInBounds_toArray, List.set_cons_zero, List.set_cons_succ]
      refine btake 3 (oi := _) (v := ?_) (by simp only [List.getElem?_toArray, List.getElem?_cons_succ, List.getElem?_cons_zero]; rfl) (by kernel_rfl) (by exact fun _ _ _ h => h) (by first | assumption | exact KB.refl _) (.inl ⟨by rfl, fun W hW => ?_⟩) ?_; rotate_left
      · (go_simp; first | done | with_reducible rfl)
      try simp only [Act.put, List.setIfInBounds_toArray, List.set_cons_zero, List.set_cons_succ]
      refine bdone (by kernel_rfl) ?_
      have vx := vx.below hb7'
      have hst7 := hst6.below hb7'
      have b7 := b6.trans (hb7'.mono b6.size)
      have hz7 := hb7'.size
      clear e0 e1 e2 hst6 b6 hb7 hkb
      go_wp2_with fail
      refine (H.out.2.1 w7 hst7).mono ?_
      rintro e w8 ⟨rfl, hst8, hg8⟩
      have vw := vw.grown hg8 (by omega)
      have vx := vx.grown hg8 (by omega)
      have b8 := below_grown b7 hg8 hgw b7.size
      have hz8 := hg8.size
      unfold S3.v
      go_wp2_with fail
      have vy := Stands.new w8 30 s
      have hst9 := hst8.alloc (.cells #[.int .i64 s.p, .int .i64 s.l, .int .i64 s.r] 30)
      have vw := vw.alloc (.cells #[.int .i64 s.p, .int .i64 s.l, .int .i64 s.r] 30)
      have vx := vx.alloc (.cells #[.int .i64 s.p, .int .i64 s.l, .int .i64 s.r] 30)
      have b9 := b8.alloc b8.size (.cells #[.int .i64 s.p, .int .i64 s.l, .int .i64 s.r] 30)
      have hz9 : (w8.alloc (.cells #[.int .i64 s.p, .int .i64 s.l, .int .i64 s.r] 30)).heap.size = w8.heap.size + 1 := by simp
      generalize w8.alloc (.cells #[.int .i64 s.p, .int .i64 s.l, .int .i64 s.r] 30) = w9 at *
      generalize w8.heap.size = gy at *
      have e0 := cellB vw.2.1
      have e1 := cellB vw.2.2.1
      have e2 := cellB vw.2.2.2.1
      have e3 := cellB vx.2.1
      have e4 := cellB vx.2.2.1
      have e5 := cellB vx.2.2.2.1
      have e6 := cellB vy.2.1
      have e7 := cellB vy.2.2.1
      have e8 := cellB vy.2.2.2.1
      clear hst7 hst8 b7 b8 hg8 hb7'
      have hcn := H.out.2.2.2
      have hcno := H.out.2.2.1
      clear hnext
      by_cases he : er = 0
      · subst he
        rw [if_pos rfl] at hcn
        subst hcn
        refine bstart (by kernel_rfl) ?_
        refine btake 0 (oi := _) (v := ?_) (by simp only [List.getElem?_toArray, List.getElem?_cons_succ, List.getElem?_cons_zero]; rfl) (by kernel_rfl) (by exact fun _ _ _ h => h) (by first | assumption | exact KB.refl _) (.inl ⟨by rfl, fun W hW => ?_⟩) ?_; rotate_left
        · (go_simp; first | done | with_reducible rfl)
        try simp only [Act.put, List.setIfInBounds_toArray, List.set_cons_zero, List.set_cons_succ]
        refine btake 1 (oi := _) (v := ?_) (by simp only [List.getElem?_toArray, List.getElem?_cons_succ, List.getElem?_cons_zero]; rfl) (by kernel_rfl) (by exact fun _ _ _ h => h) (by first | assumption | exact KB.refl _) (.inl ⟨by rfl, fun W hW => ?_⟩) ?_; rotate_left
        · (go_simp; first | done | with_reducible rfl)
        try simp only [Act.put, List.setIfInBounds_toArray, List.set_cons_zero, List.set_cons_succ]
        refine btake 2 (oi := _) (v := ?_) (by simp only [List.getElem?_toArray, List.getElem?_cons_succ, List.getElem?_cons_zero]; rfl) (by kernel_rfl) (by exact fun _ _ _ h => h) (by first | assumption | exact KB.refl _) (.inl ⟨by rfl, fun W hW => ?_⟩) ?_; rotate_left
        · (go_simp; first | done | with_reducible rfl)
        try simp only [Act.put, List.setIfInBounds_toArray, List.set_cons_zero, List.set_cons_succ]
        refine btake 3 (oi := _) (v := ?_) (by simp only [List.getElem?_toArray, List.getElem?_cons_succ, List.getElem?_cons_zero]; rfl) (by kernel_rfl) (by exact fun _ _ _ h => h) (by first | assumption | exact KB.refl _) (.inl ⟨by rfl, fun W hW => ?_⟩) ?_; rotate_left
        · (go_simp; first | done | with_reducible rfl)
        try simp only [Act.put, List.setIfInBounds_toArray, List.set_cons_zero, List.set_cons_succ]
        refine btake 4 (oi := _) (v := ?_) (by simp only [List.getElem?_toArray, List.getElem?_cons_succ, List.getElem?_cons_zero]; rfl) (by kernel_rfl) (by exact fun _ _ _ h => h) (by first | assumption | exact KB.refl _) (.inl ⟨by rfl, fun W hW => ?_⟩) ?_; rotate_left
        · (go_simp; first | done | with_reducible rfl)
        try simp only [Act.put, List.setIfInBounds_toArray, List.set_cons_zero, List.set_cons_succ]
        refine btake 5 (oi := _) (v := ?_) (by simp only [List.getElem?_toArray, List.getElem?_cons_succ, List.getElem?_cons_zero]; rfl) (by kernel_rfl) (by exact fun _ _ _ h => h) (by first | assumption | exact KB.refl _) (.inl ⟨by rfl, fun W hW => ?_⟩) ?_; rotate_left
        · (go_simp; first | done | with_reducible rfl)
        try simp only [Act.put, List.setIfInBounds_toArray, List.set_cons_zero, List.set_cons_succ]
        refine btake 6 (oi := _) (v := ?_) (by simp only [List.getElem?_toArray, List.getElem?_cons_succ, List.getElem?_cons_zero]; rfl) (by kernel_rfl) (by exact fun _ _ _ h => h) (by first | assumption | exact KB.refl _) (.inl ⟨by rfl, fun W hW => ?_⟩) ?_; rotate_left
        · (go_simp; first | done | with_reducible rfl)
        try simp only [Act.put, List.setIfInBounds_toArray, List.set_cons_zero, List.set_cons_succ]
        refine btake 7 (oi := _) (v := ?_) (by simp only [List.getElem?_toArray, List.getElem?_cons_succ, List.getElem?_cons_zero]; rfl) (by kernel_rfl) (by exact fun _ _ _ h => h) (by first | assumption | exact KB.refl _) (.inl ⟨by rfl, fun W hW => ?_⟩) ?_; rotate_left
        · (go_simp; first | done | with_reducible rfl)
        try simp only [Act.put, List.setIfInBounds_toArray, List.set_cons_zero, List.set_cons_succ]
        refine btake 8 (oi := _) (v := ?_) (by simp only [List.getElem?_toArray, List.getElem?_cons_succ, List.getElem?_cons_zero]; rfl) (by kernel_rfl) (by exact fun _ _ _ h => h) (by first | assumption | exact KB.refl _) (.inl ⟨by rfl, fun W hW => ?_⟩) ?_; rotate_left
        · (go_simp; first | done | with_reducible rfl)
        try simp only [Act.put, List.setIfInBounds_toArray, List.set_cons_zero, List.set_cons_succ]
        refine btake 9 (oi := _) (v := ?_) (by simp only [List.getElem?_toArray, List.getElem?_cons_succ, List.getElem?_cons_zero]; rfl) (by kernel_rfl) (by exact fun _ _ _ h => h) (by first | assumption | exact KB.refl _) (.inl ⟨by rfl, fun W hW => ?_⟩) ?_; rotate_left
        · (go_simp; first | done | with_reducible rfl)
        try simp only [Act.put, List.setIfInBounds_toArray, List.set_cons_zero, List.set_cons_succ]
        refine btake 10 (oi := _) (v := ?_) (by simp only [List.getElem?_toArray, List.getElem?_cons_succ, List.getElem?_cons_zero]; rfl) (by kernel_rfl) (by exact fun _ _ _ h => h) (by first | assumption | exact KB.refl _) (.inl ⟨by rfl, fun W hW => ?_⟩) ?_; rotate_left
        · (go_simp; first | done | with_reducible rfl)
        try simp only [Act.put, List.setIfInBounds_toArray, List.set_cons_zero, List.set_cons_succ]
        refine btake 11 (oi := _) (v := ?_) (by simp only [List.getElem?_toArray, List.getElem?_cons_succ, List.getElem?_cons_zero]; rfl) (by kernel_rfl) (by exact fun _ _ _ h => h) (by first | assumption | exact KB.refl _) (.inl ⟨by rfl, fun W hW => ?_⟩) ?_; rotate_left
        · (go_simp; first | done | with_reducible rfl)
        try simp only [Act.put, List.setIfInBounds_toArray, List.set_cons_zero, List.set_cons_succ]
        refine btake 12 (oi := _) (v := ?_) (by simp only [List.getElem?_toArray, List.getElem?_cons_succ, List.getElem?_cons_zero]; rfl) (by kernel_rfl) (by exact fun _ _ _ h => h) (by first | assumption | exact KB.refl _) (.inl ⟨by rfl, fun W hW => ?_⟩) ?_; rotate_left
        · (go_simp; first | done | with_reducible rfl)
        try simp only [Act.put, List.setIfInBounds_toArray, List.set_cons_zero, List.set_cons_succ]
        refine btake 14 (oi := _) (v := ?_) (by simp only [List.getElem?_toArray, List.getElem?_cons_succ, List.getElem?_cons_zero]; rfl) (by kernel_rfl) (by exact fun _ _ _ h => h) (by first | assumption | exact KB.refl _) (.inl ⟨by rfl, fun W hW => ?_⟩) ?_; rotate_left
        · (go_simp; first | done | with_reducible rfl)
        try simp only [Act.put, List.setIfInBounds_toArray, List.set_cons_zero, List.set_cons_succ]
        -- 13: (*newsreel/hlc.Clock).Last
        refine bop 13 (o := _) (by simp only [List.getElem?_toArray, List.getElem?_cons_succ, List.getElem?_cons_zero]; rfl) (by kernel_rfl) (by first | assumption | exact KB.refl _) (by rfl) (fun K hK => ?_)
        go_simp
        refine (Last_any w9.drew g _ (hst9.below (Below.refl _ _).drew)).mono ?_
        rintro e w10 ⟨rfl, hb10⟩
        have hb10' : Below w9.heap.size w9 w10 := (Below.refl _ w9).drew.trans hb10
        have vx := vx.below hb10'
        have e3 := cellB vx.2.1
        have e4 := cellB vx.2.2.1
        have e5 := cellB vx.2.2.2.1
        have hkb := KB.of hb10
        unfold S3.v
        refine hK.out _ _ hkb ?_; clear hK K
        try simp only [Act.put, List.setIfInBounds_toArray, List.set_cons_zero, List.set_cons_succ]
        refine btake 15 (oi := _) (v := ?_) (by simp only [List.getElem?_toArray, List.getElem?_cons_succ, List.getElem?_cons_zero]; rfl) (by kernel_rfl) (by exact fun _ _ _ h => h) (by first | assumption | exact KB.refl _) (.inl ⟨by rfl, fun W hW => ?_⟩) ?_; rotate_left
        · (go_simp; first | done | with_reducible rfl)
        try simp only [Act.put, List.setIfInBounds_toArray, List.set_cons_zero, List.set_cons_succ]
        refine btake 16 (oi := _) (v := ?_) (by simp only [List.getElem?_toArray, List.getElem?_cons_succ, List.getElem?_cons_zero]; rfl) (by kernel_rfl) (by exact fun _ _ _ h => h) (by first | assumption | exact KB.refl _) (.inl ⟨by rfl, fun W hW => ?_⟩) ?_; rotate_left
        · (go_simp; first | done | with_reducible rfl)
        try simp only [Act.put, List.setIfInBounds_toArray, List.set_cons_zero, List.set_cons_succ]
        refine btake 17 (oi := _) (v := ?_) (by simp only [List.getElem?_toArray, List.getElem?_cons_succ, List.getElem?_cons_zero]; rfl) (by kernel_rfl) (by exact fun _ _ _ h => h) (by first | assumption | exact KB.refl _) (.inl ⟨by rfl, fun W hW => ?_⟩) ?_; rotate_left
        · (go_simp; first | done | with_reducible rfl)
        try simp only [Act.put, List.setIfInBounds_toArray, List.set_cons_zero, List.set_cons_succ]
        refine btake 18 (oi := _) (v := ?_) (by simp only [List.getElem?_toArray, List.getElem?_cons_succ, List.getElem?_cons_zero]; rfl) (by kernel_rfl) (by exact fun _ _ _ h => h) (by first | assumption | exact KB.refl _) (.inl ⟨by rfl, fun W hW => ?_⟩) ?_; rotate_left
        · (go_simp; first | done | with_reducible rfl)
        try simp only [Act.put, List.setIfInBounds_toArray, List.set_cons_zero, List.set_cons_succ]
        refine btake 19 (oi := _) (v := ?_) (by simp only [List.getElem?_toArray, List.getElem?_cons_succ, List.getElem?_cons_zero]; rfl) (by kernel_rfl) (by exact fun _ _ _ h => h) (by first | assumption | exact KB.refl _) (.inl ⟨by rfl, fun W hW => ?_⟩) ?_; rotate_left
        · (go_simp; first | done | with_reducible rfl)
        try simp only [Act.put, List.setIfInBounds_toArray, List.set_cons_zero, List.set_cons_succ]
        refine btake 20 (oi := _) (v := ?_) (by simp only [List.getElem?_toArray, List.getElem?_cons_succ, List.getElem?_cons_zero]; rfl) (by kernel_rfl) (by exact fun _ _ _ h => h) (by first | assumption | exact KB.refl _) (.inl ⟨by rfl, fun W hW => ?_⟩) ?_; rotate_left
        · (go_simp; first | done | with_reducible rfl)
        try simp only [Act.put, List.setIfInBounds_toArray, List.set_cons_zero, List.set_cons_succ]
        refine btake 21 (oi := _) (v := ?_) (by simp only [List.getElem?_toArray, List.getElem?_cons_succ, List.getElem?_cons_zero]; rfl) (by kernel_rfl) (by exact fun _ _ _ h => h) (by first | assumption | exact KB.refl _) (.inl ⟨by rfl, fun W hW => ?_⟩) ?_; rotate_left
        · (go_simp; first | done | with_reducible rfl)
        try simp only [Act.put, List.setIfInBounds_toArray, List.set_cons_zero, List.set_cons_succ]
        refine btake 22 (oi := _) (v := undef) (by simp only [List.getElem?_toArray, List.getElem?_cons_succ, List.getElem?_cons_zero]; rfl) (by kernel_rfl) (by exact fun _ _ _ h => h) (by first | assumption | exact KB.refl _) (.inr ⟨by rfl, rfl⟩) ?_
        try simp only [Act.put, List.setIfInBounds_toArray, List.set_cons_zero, List.set_cons_succ]
        refine btake 23 (oi := _) (v := undef) (by simp only [List.getElem?_toArray, List.getElem?_cons_succ, List.getElem?_cons_zero]; rfl) (by kernel_rfl) (by exact fun _ _ _ h => h) (by first | assumption | exact KB.refl _) (.inr ⟨by rfl, rfl⟩) ?_
        try simp only [Act.put, List.setIfInBounds_toArray, List.set_cons_zero, List.set_cons_succ]
        refine btake 24 (oi := _) (v := undef) (by simp only [List.getElem?_toArray, List.getElem?_cons_succ, List.getElem?_cons_zero]; rfl) (by kernel_rfl) (by exact fun _ _ _ h => h) (by first | assumption | exact KB.refl _) (.inr ⟨by rfl, rfl⟩) ?_
        try simp only [Act.put, List.setIfInBounds_toArray, List.set_cons_zero, List.set_cons_succ]
        refine btake 25 (oi := _) (v := undef) (by simp only [List.getElem?_toArray, List.getElem?_cons_succ, List.getElem?_cons_zero]; rfl) (by kernel_rfl) (by exact fun _ _ _ h => h) (by first | assumption | exact KB.refl _) (.inr ⟨by rfl, rfl⟩) ?_
        try simp only [Act.put, List.setIfInBounds_toArray, List.set_cons_zero, List.set_cons_succ]
        refine btake 26 (oi := _) (v := ?_) (by simp only [List.getElem?_toArray, List.getElem?_cons_succ, List.getElem?_cons_zero]; rfl) (by kernel_rfl) (by exact fun _ _ _ h => h) (by first | assumption | exact KB.refl _) (.inl ⟨by rfl, fun W hW => ?_⟩) ?_; rotate_left
        · (go_simp; first | done | with_reducible rfl)
        try simp only [Act.put, List.setIfInBounds_toArray, List.set_cons_zero, List.set_cons_succ]
        refine btake 27 (oi := _) (v := ?_) (by simp only [List.getElem?_toArray, List.getElem?_cons_succ, List.getElem?_cons_zero]; rfl) (by kernel_rfl) (by exact fun _ _ _ h => h) (by first | assumption | exact KB.refl _) (.inl ⟨by rfl, fun W hW => ?_⟩) ?_; rotate_left
        · (go_simp; first | done | with_reducible rfl)
        try simp only [Act.put, List.setIfInBounds_toArray, List.set_cons_zero, List.set_cons_succ]
        refine bdone (by kernel_rfl) ?_
        have hstf := hst9.below hb10'
        have bf := b9.trans (hb10'.mono b9.size)
        have hzf := hb10'.size
        go_wp2_with fail
        go_roundw
        case rel => exact ⟨i + 1, hlt, by go_num, bf, by omega, _, hstf, hcno⟩
        case measure => simp [intOf]; omega
      · rw [if_neg he] at hcn
        subst hcn
        have he0 : (er == 0) = false := by simpa using he
        have he1 : (er != 0) = true := by simpa using he
        refine bstart (by kernel_rfl) ?_
        refine btake 0 (oi := _) (v := ?_) (by simp only [List.getElem?_toArray, List.getElem?_cons_succ, List.getElem?_cons_zero]; rfl) (by kernel_rfl) (by exact fun _ _ _ h => h) (by first | assumption | exact KB.refl _) (.inl ⟨by rfl, fun W hW => ?_⟩) ?_; rotate_left
        · (go_simp; first | done | with_reducible rfl)
        try simp only [Act.put, List.setIfInBounds_toArray, List.set_cons_zero, List.set_cons_succ]
        refine btake 1 (oi := _) (v := ?_) (by simp only [List.getElem?_toArray, List.getElem?_cons_succ, List.getElem?_cons_zero]; rfl) (by kernel_rfl) (by exact fun _ _ _ h => h) (by first | assumption | exact KB.refl _) (.inl ⟨by rfl, fun W hW => ?_⟩) ?_; rotate_left
        · (go_simp; first | done | with_reducible rfl)
        try simp only [Act.put, List.setIfInBounds_toArray, List.set_cons_zero, List.set_cons_succ]
        refine btake 2 (oi := _) (v := ?_) (by simp only [List.getElem?_toArray, List.getElem?_cons_succ, List.getElem?_cons_zero]; rfl) (by kernel_rfl) (by exact fun _ _ _ h => h) (by first | assumption | exact KB.refl _) (.inl ⟨by rfl, fun W hW => ?_⟩) ?_; rotate_left
        · (go_simp; first | done | with_reducible rfl)
        try simp only [Act.put, List.setIfInBounds_toArray, List.set_cons_zero, List.set_cons_succ]
        refine btake 3 (oi := _) (v := ?_) (by simp only [List.getElem?_toArray, List.getElem?_cons_succ, List.getElem?_cons_zero]; rfl) (by kernel_rfl) (by exact fun _ _ _ h => h) (by first | assumption | exact KB.refl _) (.inl ⟨by rfl, fun W hW => ?_⟩) ?_; rotate_left
        · (go_simp; first | done | with_reducible rfl)
        try simp only [Act.put, List.setIfInBounds_toArray, List.set_cons_zero, List.set_cons_succ]
        refine btake 4 (oi := _) (v := ?_) (by simp only [List.getElem?_toArray, List.getElem?_cons_succ, List.getElem?_cons_zero]; rfl) (by kernel_rfl) (by exact fun _ _ _ h => h) (by first | assumption | exact KB.refl _) (.inl ⟨by rfl, fun W hW => ?_⟩) ?_; rotate_left
        · (go_simp; first | done | with_reducible rfl)
        try simp only [Act.put, List.setIfInBounds_toArray, List.set_cons_zero, List.set_cons_succ]
        refine btake 5 (oi := _) (v := ?_) (by simp only [List.getElem?_toArray, List.getElem?_cons_succ, List.getElem?_cons_zero]; rfl) (by kernel_rfl) (by exact fun _ _ _ h => h) (by first | assumption | exact KB.refl _) (.inl ⟨by rfl, fun W hW => ?_⟩) ?_; rotate_left
        · (go_simp; first | done | with_reducible rfl)
        try simp only [Act.put, List.setIfInBounds_toArray, List.set_cons_zero, List.set_cons_succ]
        refine btake 6 (oi := _) (v := ?_) (by simp only [List.getElem?_toArray, List.getElem?_cons_succ, List.getElem?_cons_zero]; rfl) (by kernel_rfl) (by exact fun _ _ _ h => h) (by first | assumption | exact KB.refl _) (.inl ⟨by rfl, fun W hW => ?_⟩) ?_; rotate_left
        · (go_simp; first | done | with_reducible rfl)
        try simp only [Act.put, List.setIfInBounds_toArray, List.set_cons_zero, List.set_cons_succ]
        refine btake 7 (oi := _) (v := ?_) (by simp only [List.getElem?_toArray, List.getElem?_cons_succ, List.getElem?_cons_zero]; rfl) (by kernel_rfl) (by exact fun _ _ _ h => h) (by first | assumption | exact KB.refl _) (.inl ⟨by rfl, fun W hW => ?_⟩) ?_; rotate_left
        · (go_simp; first | done | with_reducible rfl)
        try simp only [Act.put, List.setIfInBounds_toArray, List.set_cons_zero, List.set_cons_succ]
        refine btake 8 (oi := _) (v := ?_) (by simp only [List.getElem?_toArray, List.getElem?_cons_succ, List.getElem?_cons_zero]; rfl) (by kernel_rfl) (by exact fun _ _ _ h => h) (by first | assumption | exact KB.refl _) (.inl ⟨by rfl, fun W hW => ?_⟩) ?_; rotate_left
        · (go_simp; first | done | with_reducible rfl)
        try simp only [Act.put, List.setIfInBounds_toArray, List.set_cons_zero, List.set_cons_succ]
        refine btake 9 (oi := _) (v := ?_) (by simp only [List.getElem?_toArray, List.getElem?_cons_succ, List.getElem?_cons_zero]; rfl) (by kernel_rfl) (by exact fun _ _ _ h => h) (by first | assumption | exact KB.refl _) (.inl ⟨by rfl, fun W hW => ?_⟩) ?_; rotate_left
        · (go_simp; first | done | with_reducible rfl)
        try simp only [Act.put, List.setIfInBounds_toArray, List.set_cons_zero, List.set_cons_succ]
        refine btake 10 (oi := _) (v := ?_) (by simp only [List.getElem?_toArray, List.getElem?_cons_succ, List.getElem?_cons_zero]; rfl) (by kernel_rfl) (by exact fun _ _ _ h => h) (by first | assumption | exact KB.refl _) (.inl ⟨by rfl, fun W hW => ?_⟩) ?_; rotate_left
        · (go_simp; first | done | with_reducible rfl)
        try simp only [Act.put, List.setIfInBounds_toArray, List.set_cons_zero, List.set_cons_succ]
        refine btake 11 (oi := _) (v := ?_) (by simp only [List.getElem?_toArray, List.getElem?_cons_succ, List.getElem?_cons_zero]; rfl) (by kernel_rfl) (by exact fun _ _ _ h => h) (by first | assumption | exact KB.refl _) (.inl ⟨by rfl, fun W hW => ?_⟩) ?_; rotate_left
        · (go_simp; first | done | with_reducible rfl)
        try simp only [Act.put, List.setIfInBounds_toArray, List.set_cons_zero, List.set_cons_succ]
        refine btake 12 (oi := _) (v := undef) (by simp only [List.getElem?_toArray, List.getElem?_cons_succ, List.getElem?_cons_zero]; rfl) (by kernel_rfl) (by exact fun _ _ _ h => h) (by first | assumption | exact KB.refl _) (.inr ⟨by rfl, rfl⟩) ?_
        try simp only [Act.put, List.setIfInBounds_toArray, List.set_cons_zero, List.set_cons_succ]
        refine btake 13 (oi := _) (v := undef) (by simp only [List.getElem?_toArray, List.getElem?_cons_succ, List.getElem?_cons_zero]; rfl) (by kernel_rfl) (by exact fun _ _ _ h => h) (by first | assumption | exact KB.refl _) (.inr ⟨by rfl, rfl⟩) ?_
        try simp only [Act.put, List.setIfInBounds_toArray, List.set_cons_zero, List.set_cons_succ]
        refine btake 14 (oi := _) (v := undef) (by simp only [List.getElem?_toArray, List.getElem?_cons_succ, List.getElem?_cons_zero]; rfl) (by kernel_rfl) (by exact fun _ _ _ h => h) (by first | assumption | exact KB.refl _) (.inr ⟨by rfl, rfl⟩) ?_
        try simp only [Act.put, List.setIfInBounds_toArray, List.set_cons_zero, List.set_cons_succ]
        refine btake 15 (oi := _) (v := undef) (by simp only [List.getElem?_toArray, List.getElem?_cons_succ, List.getElem?_cons_zero]; rfl) (by kernel_rfl) (by exact fun _ _ _ h => h) (by first | assumption | exact KB.refl _) (.inr ⟨by rfl, rfl⟩) ?_
        try simp only [Act.put, List.setIfInBounds_toArray, List.set_cons_zero, List.set_cons_succ]
        refine btake 16 (oi := _) (v := ?_) (by simp only [List.getElem?_toArray, List.getElem?_cons_succ, List.getElem?_cons_zero]; rfl) (by kernel_rfl) (by exact fun _ _ _ h => h) (by first | assumption | exact KB.refl _) (.inl ⟨by rfl, fun W hW => ?_⟩) ?_; rotate_left
        · (go_simp; first | done | with_reducible rfl)
        try simp only [Act.put, List.setIfInBounds_toArray, List.set_cons_zero, List.set_cons_succ]
        refine btake 17 (oi := _) (v := ?_) (by simp only [List.getElem?_toArray, List.getElem?_cons_succ, List.getElem?_cons_zero]; rfl) (by kernel_rfl) (by exact fun _ _ _ h => h) (by first | assumption | exact KB.refl _) (.inl ⟨by rfl, fun W hW => ?_⟩) ?_; rotate_left
        · (go_simp; first | done | with_reducible rfl)
        try simp only [Act.put, List.setIfInBounds_toArray, List.set_cons_zero, List.set_cons_succ]
        refine btake 18 (oi := _) (v := ?_) (by simp only [List.getElem?_toArray, List.getElem?_cons_succ, List.getElem?_cons_zero]; rfl) (by kernel_rfl) (by exact fun _ _ _ h => h) (by first | assumption | exact KB.refl _) (.inl ⟨by rfl, fun W hW => ?_⟩) ?_; rotate_left
        · (go_simp; first | done | with_reducible rfl)
        try simp only [Act.put, List.setIfInBounds_toArray, List.set_cons_zero, List.set_cons_succ]
        refine btake 19 (oi := _) (v := ?_) (by simp only [List.getElem?_toArray, List.getElem?_cons_succ, List.getElem?_cons_zero]; rfl) (by kernel_rfl) (by exact fun _ _ _ h => h) (by first | assumption | exact KB.refl _) (.inl ⟨by rfl, fun W hW => ?_⟩) ?_; rotate_left
        · (go_simp; first | done | with_reducible rfl)
        try simp only [Act.put, List.setIfInBounds_toArray, List.set_cons_zero, List.set_cons_succ]
        refine btake 20 (oi := _) (v := ?_) (by simp only [List.getElem?_toArray, List.getElem?_cons_succ, List.getElem?_cons_zero]; rfl) (by kernel_rfl) (by exact fun _ _ _ h => h) (by first | assumption | exact KB.refl _) (.inl ⟨by rfl, fun W hW => ?_⟩) ?_; rotate_left
        · (go_simp; first | done | with_reducible rfl)
        try simp only [Act.put, List.setIfInBounds_toArray, List.set_cons_zero, List.set_cons_succ]
        refine btake 21 (oi := _) (v := ?_) (by simp only [List.getElem?_toArray, List.getElem?_cons_succ, List.getElem?_cons_zero]; rfl) (by kernel_rfl) (by exact fun _ _ _ h => h) (by first | assumption | exact KB.refl _) (.inl ⟨by rfl, fun W hW => ?_⟩) ?_; rotate_left
        · (go_simp; first | done | with_reducible rfl)
        try simp only [Act.put, List.setIfInBounds_toArray, List.set_cons_zero, List.set_cons_succ]
        refine btake 22 (oi := _) (v := ?_) (by simp only [List.getElem?_toArray, List.getElem?_cons_succ, List.getElem?_cons_zero]; rfl) (by kernel_rfl) (by exact fun _ _ _ h => h) (by first | assumption | exact KB.refl _) (.inl ⟨by rfl, fun W hW => ?_⟩) ?_; rotate_left
        · (go_simp; first | done | with_reducible rfl)
        try simp only [Act.put, List.setIfInBounds_toArray, List.set_cons_zero, List.set_cons_succ]
        refine btake 24 (oi := _) (v := ?_) (by simp only [List.getElem?_toArray, List.getElem?_cons_succ, List.getElem?_cons_zero]; rfl) (by kernel_rfl) (by exact fun _ _ _ h => h) (by first | assumption | exact KB.refl _) (.inl ⟨by rfl, fun W hW => ?_⟩) ?_; rotate_left
        · (go_simp; first | done | with_reducible rfl)
        try simp only [Act.put, List.setIfInBounds_toArray, List.set_cons_zero, List.set_cons_succ]
        -- 23: (*newsreel/hlc.Clock).Last
        refine bop 23 (o := _) (by simp only [List.getElem?_toArray, List.getElem?_cons_succ, List.getElem?_cons_zero]; rfl) (by kernel_rfl) (by first | assumption | exact KB.refl _) (by rfl) (fun K hK => ?_)
        go_simp
        refine (Last_any w9.drew g _ (hst9.below (Below.refl _ _).drew)).mono ?_
        rintro e w10 ⟨rfl, hb10⟩
        have hb10' : Below w9.heap.size w9 w10 := (Below.refl _ w9).drew.trans hb10
        have vw := vw.below hb10'
        have e0 := cellB vw.2.1
        have e1 := cellB vw.2.2.1
        have e2 := cellB vw.2.2.2.1
        have hkb := KB.of hb10
        unfold S3.v
        refine hK.out _ _ hkb ?_; clear hK K
        try simp only [Act.put, List.setIfInBounds_toArray, List.set_cons_zero, List.set_cons_succ]
        refine btake 25 (oi := _) (v := ?_) (by simp only [List.getElem?_toArray, List.getElem?_cons_succ, List.getElem?_cons_zero]; rfl) (by kernel_rfl) (by exact fun _ _ _ h => h) (by first | assumption | exact KB.refl _) (.inl ⟨by rfl, fun W hW => ?_⟩) ?_; rotate_left
        · (go_simp; first | done | with_reducible rfl)
        try simp only [Act.put, List.setIfInBounds_toArray, List.set_cons_zero, List.set_cons_succ]
        refine btake 26 (oi := _) (v := ?_) (by simp only [List.getElem?_toArray, List.getElem?_cons_succ, List.getElem?_cons_zero]; rfl) (by kernel_rfl) (by exact fun _ _ _ h => h) (by first | assumption | exact KB.refl _) (.inl ⟨by rfl, fun W hW => ?_⟩) ?_; rotate_left
        · (go_simp; first | done | with_reducible rfl)
        try simp only [Act.put, List.setIfInBounds_toArray, List.set_cons_zero, List.set_cons_succ]
        refine btake 27 (oi := _) (v := ?_) (by simp only [List.getElem?_toArray, List.getElem?_cons_succ, List.getElem?_cons_zero]; rfl) (by kernel_rfl) (by exact fun _ _ _ h => h) (by first | assumption | exact KB.refl _) (.inl ⟨by rfl, fun W hW => ?_⟩) ?_; rotate_left
        · (go_simp; first | done | with_reducible rfl)
        try simp only [Act.put, List.setIfInBounds_toArray, List.set_cons_zero, List.set_cons_succ]
        refine bdone (by kernel_rfl) ?_
        have hstf := hst9.below hb10'
        have bf := b9.trans (hb10'.mono b9.size)
        have hzf := hb10'.size
        go_wp2_with fail
        go_roundw
        case rel => exact ⟨i + 1, hlt, by go_num, bf, by omega, _, hstf, hcno⟩
        case measure => simp [intOf]; omega
    · go_wp2_with fail
      go_ret
      exact ⟨rfl, hbel⟩
end Go.Proofs.Ytejligapkgnnnaa

