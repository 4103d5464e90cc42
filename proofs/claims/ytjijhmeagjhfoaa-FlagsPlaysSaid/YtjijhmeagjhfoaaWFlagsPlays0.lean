/- 'FlagsPlays': the walk of the law, stamps as they come. -/
import Derived.Test.YtjijhmeagjhfoaaFlU
namespace Go.Proofs.Ytjijhmeagjhfoaa
open Go.RowKit
set_option maxRecDepth 20000

set_option maxRecDepth 100000 in
set_option maxHeartbeats 16000000 in
theorem FlagsPlays0_walk (w : World) (A0 : Option Addr) (c0 : Nat) (l : List FA) (s0 : Sl w w.heap.size A0 (fa l)) (hok : ∀ a ∈ l, a.ok) :
    Calls Try.prog 4 #[.slice A0 l.length c0, .bool false] w fun e w' => e = .returned (.bool true) ∧ Below w.heap.size w w' := by
  obtain ⟨n, hn⟩ : ∃ n, l.length = n := ⟨_, rfl⟩
  rw [hn]
  have HN := Lib.hid (And.intro hn (And.intro s0 hok))
  clear hn s0 hok
  by_cases hbig : n > 200
  · have h0' : (200 : Int) < (n : Int) := by omega
    go_enter Try.func4, Try.ntmps4
    go_wp2_with fail
    refine (known_any _).mono ?_
    rintro e w1 ⟨rfl, hb⟩
    have HB1 := Lib.hid hb
    clear hb
    go_wp2
    go_ret
    exact ⟨rfl, HB1.out⟩
  · have h0 : n ≤ 200 := by omega
    have h0' : ¬ (200 : Int) < (n : Int) := by omega
    clear hbig
    go_enter Try.func4, Try.ntmps4
    go_wp2_with fail
    refine (known_any w).mono ?_
    rintro e w1 ⟨rfl, hb1⟩
    go_wp2_with fail
    refine (New_any w1).mono ?_
    rintro e w2 ⟨rfl, hf2, hb2⟩
    go_wp2_with fail
    refine (New_any w2).mono ?_
    rintro e w3 ⟨rfl, hf3, hb3⟩
    have x4 := DS.new w3
    have b4 : Below w3.heap.size w3 (w3.alloc (.cells #[.slice none 0 0] 44)) := (Below.refl _ _).alloc (Nat.le_refl _) _
    have x5 := DS.new (w3.alloc (.cells #[.slice none 0 0] 44))
    have b5 : Below w3.heap.size w3 ((w3.alloc (.cells #[.slice none 0 0] 44)).alloc (.cells #[.slice none 0 0] 44)) := b4.alloc (by simp) _
    have b6 : Below (w3.alloc (.cells #[.slice none 0 0] 44)).heap.size (w3.alloc (.cells #[.slice none 0 0] 44)) ((w3.alloc (.cells #[.slice none 0 0] 44)).alloc (.cells #[.slice none 0 0] 44)) := (Below.refl _ _).alloc (Nat.le_refl _) _
    have x4' := x4.below b6
    rw [World.size_alloc] at x5
    have e1 := hb1.size
    have e2 := hb2.size
    have e3 := hb3.size
    have e5 := hf2.blt
    have e6 := hf3.blt
    have e7 := hf2.1.1
    have e8 := hf3.1.1
    have HA := Lib.hid (show AS w (w1.heap.size + 1) w1.heap.size w3.heap.size (fun k => k = w3.heap.size) (w2.heap.size + 1) w2.heap.size (w3.heap.size + 1) (fun k => k = w3.heap.size + 1) [] [] [] [] ((w3.alloc (.cells #[.slice none 0 0] 44)).alloc (.cells #[.slice none 0 0] 44)) from
      ⟨⟨(hf2.below hb3).below b5, x4', by omega, by omega, e1, fun k hk => by omega⟩, ⟨hf3.below b5, x5, by omega, by omega, by omega, fun k hk => by omega⟩,
       fun k h1 h2 => by rcases h1 with h1 | h1 | h1 <;> rcases h2 with h2 | h2 | h2 <;> omega, (hb1.trans ((hb2.trans (hb3.mono hb2.size)).mono e1)).trans (b5.mono (by omega))⟩)
    clear hb1 hb2 hf2 hb3 hf3 x4 x4' x5 b4 b5 b6 e1 e2 e3 e5 e6 e7 e8
    go_wp2_with fail
    go_loopw [5, 6, 7, 8, 9] (fun t5 t6 t7 t8 t9 wr => ∃ (i m b d m2 b2 d2 : Nat) (F F2 : Nat → Prop) (R R2 : List FE), t9 = .int .i64 (i : Int) ∧ i ≤ n ∧ t5 = .pointer (some ⟨m, 0, none⟩) ∧ t6 = .pointer (some ⟨m2, 0, none⟩) ∧ t7 = .pointer (some ⟨d, 0, none⟩) ∧ t8 = .pointer (some ⟨d2, 0, none⟩) ∧ AS w m b d F m2 b2 d2 F2 R R R2 R2 wr ∧ In8 R ∧ In8 R2) (fun _ _ _ _ t9 _ => n - (intOf t9).toNat)
    case atStart => exact ⟨0, _, _, _, _, _, _, _, _, [], [], rfl, Nat.zero_le _, rfl, rfl, rfl, rfl, HA.out, (fun p hp => by simp at hp), (fun p hp => by simp at hp)⟩
    case round =>
      obtain ⟨i, m, b, d, m2, b2, d2, F, F2, R, R2, rfl, hi, rfl, rfl, rfl, rfl, hA, hR, hR2⟩ := hrel
      have GA := Lib.hid (And.intro hA (And.intro hR hR2))
      clear hA hR hR2 HA
      by_cases hlt : i < n
      · obtain ⟨a, ha⟩ : ∃ a, l[i]? = some a := ⟨_, List.getElem?_eq_getElem (by have := HN.out.1; omega)⟩
        obtain ⟨g, o, rfl, hg1, hg2, hc⟩ := actAt HN.out.2.1 ha
        have hao := HN.out.2.2 a (List.mem_of_getElem? ha)
        obtain ⟨wh, xx, ⟨sp, sl, sr⟩, on⟩ := a
        have q0 := (GA.out.1.bw.cell (p := ⟨g, o + i * 6 + 0, none⟩) hg1).trans (hc 0 _ rfl)
        have q2 := (GA.out.1.bw.cell (p := ⟨g, o + i * 6 + 2, none⟩) hg1).trans (hc 2 _ rfl)
        have q3 := (GA.out.1.bw.cell (p := ⟨g, o + i * 6 + 3, none⟩) hg1).trans (hc 3 _ rfl)
        have q4 := (GA.out.1.bw.cell (p := ⟨g, o + i * 6 + 4, none⟩) hg1).trans (hc 4 _ rfl)
        simp only [Nat.add_zero] at q0
        have HC := Lib.hid (And.intro (hc 1 _ rfl) (And.intro (hc 5 _ rfl) (And.intro hao (And.intro hg1 hg2))))
        have hx0 : (0 : Int) ≤ (i : Int) := by omega
        have hx1 : (i : Int) < (n : Int) := by omega
        clear hc ha hao
        simp only at q0 q2 q3 q4 HC
        have hgw : g < wr.heap.size := Nat.lt_of_lt_of_le hg1 GA.out.1.bw.size
        have hwh : wh < 256 := HC.out.2.2.1.1
        have hrem : (wh : Int) % 8 = ((wh % 8 : Nat) : Int) := by omega
        have hv8 : wh % 8 < 8 := by omega
        generalize wh % 8 = v8 at *
        have k0 := i64_and3 sp
        have k1 := i64_and1' sl
        have k2 := i64_and1' sr
        generalize sp = p at *
        generalize sl = ll at *
        generalize sr = r at *
        have n5 := At.new wr 30 #[.int .i64 p, .int .i64 ll, .int .i64 r]
        have hb5 : Below wr.heap.size wr (wr.alloc (.cells #[.int .i64 p, .int .i64 ll, .int .i64 r] 30)) := (Below.refl _ _).alloc (Nat.le_refl _) _
        have G5 := Lib.hid (And.intro (GA.out.1.below hb5) n5)
        have HL := Lib.hid (And.intro (GA.out.2.1.len GA.out.1.p1.fs.2.2.1) (GA.out.2.2.len GA.out.1.p2.fs.2.2.1))
        have HG := Lib.hid (And.intro GA.out.2.1 GA.out.2.2)
        have hgr1 : GoodR R := ⟨GA.out.1.p1.fs.2.2.1, GA.out.1.p1.fs.2.2.2⟩
        have HGR := Lib.hid hgr1
        have HFL := Lib.hid (show ∀ k, F k → k < wr.heap.size from GA.out.1.p1.ds.lt)
        clear n5 hb5 GA hgr1
        by_cases h5 : v8 = 5
        · subst h5
          go_wp2_with fail
          generalize wr.alloc (.cells #[.int .i64 p, .int .i64 ll, .int .i64 r] 30) = wc at *
          generalize wr.heap.size = gs at *
          clear q0 q2 q3 q4 k0 k1 k2
          refine (Join_any wc m b m2 b2 R R2 G5.out.1.p1.fs G5.out.1.p2.fs G5.out.1.ne (by have := HL.out; omega)).mono ?_
          rintro e w5 ⟨rfl, hf, hg⟩
          have G6 := Lib.hid (G5.out.1.fput hf hg)
          clear hf hg
          go_wp2_with fail
          refine (DJoin_any w5 d d2 F F2 R R2 G6.out.p1.ds G6.out.p2.ds (fun k hk hk' => G6.out.dj k (.inr (.inr hk')) (.inr (.inr hk))) (by have := HL.out; omega)).mono ?_
          rintro e w6 ⟨rfl, F', hd, hF', hg⟩
          have G7 := Lib.hid (G6.out.dput hd hF' hg)
          clear hd hF' hg
          have T0 := Lib.hid (And.intro (G7.out) (And.intro (HG.out.2.join HG.out.1) (HG.out.2)))
          go_wp2_with fail
          refine (alike_any _ _ _ _ _ _ T0.out.1.p1.fs T0.out.1.p1.ds (by have := T0.out.2.1.len T0.out.1.p1.fs.2.2.1; omega)).mono ?_
          rintro e wx1 ⟨rfl, hb⟩
          have T1 := Lib.hid (T0.out.1.below hb)
          clear hb
          go_wp2_with fail
          refine (alike_any _ _ _ _ _ _ T1.out.p2.fs T1.out.p2.ds (by have := T0.out.2.2.len T0.out.1.p2.fs.2.2.1; omega)).mono ?_
          rintro e wx2 ⟨rfl, hb⟩
          have T2 := Lib.hid (T1.out.below hb)
          clear hb
          go_wp2_with fail
          refine (Same_any _ _ _ _ _ _ _ T2.out.p1.fs T2.out.p2.fs).mono ?_
          obtain ⟨q, hq⟩ : ∃ q, decide (joinR R R2 = R2) = q := ⟨_, rfl⟩
          have hq2 : decide (R2 = joinR R R2) = q := by rw [← hq, decide_eq_decide]; exact ⟨Eq.symm, Eq.symm⟩
          have HQ := Lib.hid (And.intro hq hq2)
          rw [hq]
          clear hq hq2
          rintro e wx3 ⟨rfl, hb⟩
          have T3 := Lib.hid (T2.out.below hb)
          clear hb
          go_wp2_with fail
          refine (SameF_any _ _ _ _ _ _ _ T3.out.p1.ds T3.out.p2.ds (by have := T0.out.2.1.len T0.out.1.p1.fs.2.2.1; omega)).mono ?_
          rw [HQ.out.1]
          rintro e wx4 ⟨rfl, hb⟩
          have T4 := Lib.hid (T3.out.below hb)
          clear hb
          go_wp2_with fail
          refine (Same_any _ _ _ _ _ _ _ T4.out.p2.fs T4.out.p1.fs).mono ?_
          rw [HQ.out.2]
          rintro e wx5 ⟨rfl, hb⟩
          have T5 := Lib.hid (T4.out.below hb)
          clear hb
          go_wp2_with fail
          refine (Same_any _ _ _ _ _ _ _ T5.out.p1.fs T5.out.p2.fs).mono ?_
          rw [HQ.out.1]
          rintro e wx6 ⟨rfl, hb⟩
          have T6 := Lib.hid (T5.out.below hb)
          clear hb
          go_wp2_with fail
          go_roundw
          case rel => exact ⟨i + 1, _, _, _, _, _, _, _, _, _, _, by go_num, hlt, rfl, rfl, rfl, rfl, T6.out, T0.out.2.1, T0.out.2.2⟩
          case measure => simp [intOf]; omega
        · by_cases h6 : v8 = 6
          · subst h6
            go_wp2_with fail
            generalize wr.alloc (.cells #[.int .i64 p, .int .i64 ll, .int .i64 r] 30) = wc at *
            generalize wr.heap.size = gs at *
            clear q0 q2 q3 q4 k0 k1 k2
            refine (Copy_any wc m b R G5.out.1.p1.fs).mono ?_
            rintro e w5 ⟨rfl, hf, hb⟩
            have G6 := Lib.hid (G5.out.1.newf hb hf (by omega) (Nat.le_refl _))
            clear hf hb
            go_wp2_with fail
            have bx : Below w5.heap.size w5 (w5.alloc (.cells #[.slice none 0 0] 44)) := (Below.refl _ _).alloc (Nat.le_refl _) _
            have G7 := Lib.hid (G6.out.newd bx (DS.new w5) (Nat.le_refl _)).swap
            clear bx
            refine (DJoin_any _ _ d _ F [] R G7.out.p1.ds G7.out.p2.ds (fun k hk hk' => G7.out.dj k (.inr (.inr hk')) (.inr (.inr hk))) (by have := HL.out; simp only [List.length_nil]; omega)).mono ?_
            rw [join_empty HGR.out]
            rintro e w6 ⟨rfl, F', hd, hF', hg⟩
            have G8 := Lib.hid (G7.out.dput hd hF' hg).swap
            clear hd hF' hg
            obtain ⟨Rc, hRc⟩ : ∃ Rc, Rc = R := ⟨_, rfl⟩
            have T0 := Lib.hid (And.intro (show AS w m b d F _ _ _ _ R R Rc Rc w6 by rw [hRc]; exact G8.out) (And.intro (HG.out.1) (show In8 Rc by rw [hRc]; exact HG.out.1)))
            clear hRc
            go_wp2_with fail
            refine (alike_any _ _ _ _ _ _ T0.out.1.p1.fs T0.out.1.p1.ds (by have := T0.out.2.1.len T0.out.1.p1.fs.2.2.1; omega)).mono ?_
            rintro e wx1 ⟨rfl, hb⟩
            have T1 := Lib.hid (T0.out.1.below hb)
            clear hb
            go_wp2_with fail
            refine (alike_any _ _ _ _ _ _ T1.out.p2.fs T1.out.p2.ds (by have := T0.out.2.2.len T0.out.1.p2.fs.2.2.1; omega)).mono ?_
            rintro e wx2 ⟨rfl, hb⟩
            have T2 := Lib.hid (T1.out.below hb)
            clear hb
            go_wp2_with fail
            refine (Same_any _ _ _ _ _ _ _ T2.out.p1.fs T2.out.p2.fs).mono ?_
            obtain ⟨q, hq⟩ : ∃ q, decide (R = Rc) = q := ⟨_, rfl⟩
            have hq2 : decide (Rc = R) = q := by rw [← hq, decide_eq_decide]; exact ⟨Eq.symm, Eq.symm⟩
            have HQ := Lib.hid (And.intro hq hq2)
            rw [hq]
            clear hq hq2
            rintro e wx3 ⟨rfl, hb⟩
            have T3 := Lib.hid (T2.out.below hb)
            clear hb
            go_wp2_with fail
            refine (SameF_any _ _ _ _ _ _ _ T3.out.p1.ds T3.out.p2.ds (by have := T0.out.2.1.len T0.out.1.p1.fs.2.2.1; omega)).mono ?_
            rw [HQ.out.1]
            rintro e wx4 ⟨rfl, hb⟩
            have T4 := Lib.hid (T3.out.below hb)
            clear hb
            go_wp2_with fail
            refine (Same_any _ _ _ _ _ _ _ T4.out.p2.fs T4.out.p1.fs).mono ?_
            rw [HQ.out.2]
            rintro e wx5 ⟨rfl, hb⟩
            have T5 := Lib.hid (T4.out.below hb)
            clear hb
            go_wp2_with fail
            refine (Same_any _ _ _ _ _ _ _ T5.out.p1.fs T5.out.p2.fs).mono ?_
            rw [HQ.out.1]
            rintro e wx6 ⟨rfl, hb⟩
            have T6 := Lib.hid (T5.out.below hb)
            clear hb
            go_wp2_with fail
            go_roundw
            case rel => exact ⟨i + 1, _, _, _, _, _, _, _, _, _, _, by go_num, hlt, rfl, rfl, rfl, rfl, T6.out, T0.out.2.1, T0.out.2.2⟩
            case measure => simp [intOf]; omega
          · by_cases h7 : v8 = 7
            · subst h7
              have T0 := Lib.hid (And.intro G5.out.1.swap (And.intro HG.out.2 HG.out.1))
              go_wp2_with fail
              refine (alike_any _ _ _ _ _ _ T0.out.1.p1.fs T0.out.1.p1.ds (by have := T0.out.2.1.len T0.out.1.p1.fs.2.2.1; omega)).mono ?_
              rintro e wx1 ⟨rfl, hb⟩
              have T1 := Lib.hid (T0.out.1.below hb)
              clear hb
              go_wp2_with fail
              refine (alike_any _ _ _ _ _ _ T1.out.p2.fs T1.out.p2.ds (by have := T0.out.2.2.len T0.out.1.p2.fs.2.2.1; omega)).mono ?_
              rintro e wx2 ⟨rfl, hb⟩
              have T2 := Lib.hid (T1.out.below hb)
              clear hb
              go_wp2_with fail
              refine (Same_any _ _ _ _ _ _ _ T2.out.p1.fs T2.out.p2.fs).mono ?_
              obtain ⟨q, hq⟩ : ∃ q, decide (R2 = R) = q := ⟨_, rfl⟩
              have hq2 : decide (R = R2) = q := by rw [← hq, decide_eq_decide]; exact ⟨Eq.symm, Eq.symm⟩
              have HQ := Lib.hid (And.intro hq hq2)
              rw [hq]
              clear hq hq2
              rintro e wx3 ⟨rfl, hb⟩
              have T3 := Lib.hid (T2.out.below hb)
              clear hb
              go_wp2_with fail
              refine (SameF_any _ _ _ _ _ _ _ T3.out.p1.ds T3.out.p2.ds (by have := T0.out.2.1.len T0.out.1.p1.fs.2.2.1; omega)).mono ?_
              rw [HQ.out.1]
              rintro e wx4 ⟨rfl, hb⟩
              have T4 := Lib.hid (T3.out.below hb)
              clear hb
              go_wp2_with fail
              refine (Same_any _ _ _ _ _ _ _ T4.out.p2.fs T4.out.p1.fs).mono ?_
              rw [HQ.out.2]
              rintro e wx5 ⟨rfl, hb⟩
              have T5 := Lib.hid (T4.out.below hb)
              clear hb
              go_wp2_with fail
              refine (Same_any _ _ _ _ _ _ _ T5.out.p1.fs T5.out.p2.fs).mono ?_
              rw [HQ.out.1]
              rintro e wx6 ⟨rfl, hb⟩
              have T6 := Lib.hid (T5.out.below hb)
              clear hb
              go_wp2_with fail
              go_roundw
              case rel => exact ⟨i + 1, _, _, _, _, _, _, _, _, _, _, by go_num, hlt, rfl, rfl, rfl, rfl, T6.out, T0.out.2.1, T0.out.2.2⟩
              case measure => simp [intOf]; omega
            · have g5 : (((v8 : Nat) : Int) == 5) = false := by rw [beq_eq_false_iff_ne]; omega
              have g6 : (((v8 : Nat) : Int) == 6) = false := by rw [beq_eq_false_iff_ne]; omega
              have g7 : (((v8 : Nat) : Int) == 7) = false := by rw [beq_eq_false_iff_ne]; omega
              go_wp2_with fail
              generalize wr.alloc (.cells #[.int .i64 p, .int .i64 ll, .int .i64 r] 30) = wc at *
              generalize wr.heap.size = gs at *
              clear q0 q2 q3 q4 k0 k1 k2
              obtain ⟨t, ht⟩ : ∃ t, ((⟨p, ll, r⟩ : S3).right && told (look R (idOf xx)) ⟨⟨p, ll, r⟩, on⟩) = t := ⟨_, rfl⟩
              obtain ⟨e0, he0⟩ : ∃ e0 : Int, (if (⟨p, ll, r⟩ : S3).right then (0 : Int) else 21) = e0 := ⟨_, rfl⟩
              have HTE := Lib.hid (And.intro ht he0)
              clear ht he0
              have hs1 : PSt w gs p ll r wc.drew := ⟨⟨G5.out.1.bw.size, fun k hk => G5.out.1.bw.block k hk⟩, G5.out.2⟩
              have f0 : ∀ W, PSt w gs p ll r W → W.cell? ⟨g, o + i * 6 + 1, none⟩ = some (.int .u8 (xx : Int)) := fun W h => (h.1.cell (p := ⟨g, o + i * 6 + 1, none⟩) hg1).trans HC.out.1
              have f1 : ∀ W, PSt w gs p ll r W → W.cell? ⟨g, o + i * 6 + 5, none⟩ = some (.bool on) := fun W h => (h.1.cell (p := ⟨g, o + i * 6 + 5, none⟩) hg1).trans HC.out.2.1
              have f2 : ∀ W, PSt w gs p ll r W → W.cell? ⟨gs, 0, none⟩ = some (.int .i64 p) := fun W h => h.2.c 0 rfl
              have f3 : ∀ W, PSt w gs p ll r W → W.cell? ⟨gs, 1, none⟩ = some (.int .i64 ll) := fun W h => h.2.c 1 rfl
              have f4 : ∀ W, PSt w gs p ll r W → W.cell? ⟨gs, 2, none⟩ = some (.int .i64 r) := fun W h => h.2.c 2 rfl
              have HGS := Lib.hid (show ¬ F gs from fun hk => by have := HFL.out gs hk; omega)
              have hxx : xx < 256 := HC.out.2.2.1.2
              have HS1 := Lib.hid hs1
              have hS0 := hs1
              refine bstartS (PSt w gs p ll r) (by kernel_rfl) ?_
              refine btakeS 0 (oi := _) (v := ?_) (by simp only [List.getElem?_toArray, List.getElem?_cons_zero]; rfl) (by kernel_rfl) (by exact fun _ _ _ h => h) (by first | assumption | exact KB.refl _) (.inl ⟨by rfl, fun W hW => ?_⟩) ?_; rotate_left
              · (go_simp; first | done | with_reducible rfl)
              try simp only [Act.put, List.setIfInBounds_toArray, List.set_cons_zero, List.set_cons_succ]
              refine btakeS 1 (oi := _) (v := ?_) (by simp only [List.getElem?_toArray, List.getElem?_cons_succ, List.getElem?_cons_zero]; rfl) (by kernel_rfl) (by exact fun _ _ _ h => h) (by first | assumption | exact KB.refl _) (.inl ⟨by rfl, fun W hW => ?_⟩) ?_; rotate_left
              · (go_simp; first | done | with_reducible rfl)
              try simp only [Act.put, List.setIfInBounds_toArray, List.set_cons_zero, List.set_cons_succ]
              refine btakeS 2 (oi := _) (v := ?_) (by simp only [List.getElem?_toArray, List.getElem?_cons_succ, List.getElem?_cons_zero]; rfl) (by kernel_rfl) (by exact fun _ _ _ h => h) (by first | assumption | exact KB.refl _) (.inl ⟨by rfl, fun W hW => ?_⟩) ?_; rotate_left
              · (go_simp; first | done | with_reducible rfl)
              try simp only [Act.put, List.setIfInBounds_toArray, List.set_cons_zero, List.set_cons_succ]
              refine btakeS 3 (oi := _) (v := ?_) (by simp only [List.getElem?_toArray, List.getElem?_cons_succ, List.getElem?_cons_zero]; rfl) (by kernel_rfl) (by exact fun _ _ _ h => h) (by first | assumption | exact KB.refl _) (.inl ⟨by rfl, fun W hW => ?_⟩) ?_; rotate_left
              · (go_simp; first | done | with_reducible rfl)
              try simp only [Act.put, List.setIfInBounds_toArray, List.set_cons_zero, List.set_cons_succ]
              refine btakeS 4 (oi := _) (v := ?_) (by simp only [List.getElem?_toArray, List.getElem?_cons_succ, List.getElem?_cons_zero]; rfl) (by kernel_rfl) (by exact fun _ _ _ h => h) (by first | assumption | exact KB.refl _) (.inl ⟨by rfl, fun W hW => ?_⟩) ?_; rotate_left
              · (go_simp; first | done | with_reducible rfl)
              try simp only [Act.put, List.setIfInBounds_toArray, List.set_cons_zero, List.set_cons_succ]
              refine btakeS 5 (oi := _) (v := ?_) (by simp only [List.getElem?_toArray, List.getElem?_cons_succ, List.getElem?_cons_zero]; rfl) (by kernel_rfl) (by exact fun _ _ _ h => h) (by first | assumption | exact KB.refl _) (.inl ⟨by rfl, fun W hW => ?_⟩) ?_; rotate_left
              · (go_simp; first | done | with_reducible rfl)
              try simp only [Act.put, List.setIfInBounds_toArray, List.set_cons_zero, List.set_cons_succ]
              refine btakeS 7 (oi := _) (v := ?_) (by simp only [List.getElem?_toArray, List.getElem?_cons_succ, List.getElem?_cons_zero]; rfl) (by kernel_rfl) (by exact fun _ _ _ h => h) (by first | assumption | exact KB.refl _) (.inl ⟨by rfl, fun W hW => ?_⟩) ?_; rotate_left
              · (go_simp; first | done | with_reducible rfl)
              try simp only [Act.put, List.setIfInBounds_toArray, List.set_cons_zero, List.set_cons_succ]
              refine btakeS 8 (oi := _) (v := ?_) (by simp only [List.getElem?_toArray, List.getElem?_cons_succ, List.getElem?_cons_zero]; rfl) (by kernel_rfl) (by exact fun _ _ _ h => h) (by first | assumption | exact KB.refl _) (.inl ⟨by rfl, fun W hW => ?_⟩) ?_; rotate_left
              · (go_simp; first | done | with_reducible rfl)
              try simp only [Act.put, List.setIfInBounds_toArray, List.set_cons_zero, List.set_cons_succ]
              refine btakeS 9 (oi := _) (v := ?_) (by simp only [List.getElem?_toArray, List.getElem?_cons_succ, List.getElem?_cons_zero]; rfl) (by kernel_rfl) (by exact fun _ _ _ h => h) (by first | assumption | exact KB.refl _) (.inl ⟨by rfl, fun W hW => ?_⟩) ?_; rotate_left
              · (go_simp; first | done | with_reducible rfl)
              try simp only [Act.put, List.setIfInBounds_toArray, List.set_cons_zero, List.set_cons_succ]
              refine btakeS 10 (oi := _) (v := ?_) (by simp only [List.getElem?_toArray, List.getElem?_cons_succ, List.getElem?_cons_zero]; rfl) (by kernel_rfl) (by exact fun _ _ _ h => h) (by first | assumption | exact KB.refl _) (.inl ⟨by rfl, fun W hW => ?_⟩) ?_; rotate_left
              · (go_simp; first | done | with_reducible rfl)
              try simp only [Act.put, List.setIfInBounds_toArray, List.set_cons_zero, List.set_cons_succ]
              refine btakeS 11 (oi := _) (v := ?_) (by simp only [List.getElem?_toArray, List.getElem?_cons_succ, List.getElem?_cons_zero]; rfl) (by kernel_rfl) (by exact fun _ _ _ h => h) (by first | assumption | exact KB.refl _) (.inl ⟨by rfl, fun W hW => ?_⟩) ?_; rotate_left
              · (go_simp; first | done | with_reducible rfl)
              try simp only [Act.put, List.setIfInBounds_toArray, List.set_cons_zero, List.set_cons_succ]
              refine btakeS 12 (oi := _) (v := ?_) (by simp only [List.getElem?_toArray, List.getElem?_cons_succ, List.getElem?_cons_zero]; rfl) (by kernel_rfl) (by exact fun _ _ _ h => h) (by first | assumption | exact KB.refl _) (.inl ⟨by rfl, fun W hW => ?_⟩) ?_; rotate_left
              · (go_simp; first | done | with_reducible rfl)
              try simp only [Act.put, List.setIfInBounds_toArray, List.set_cons_zero, List.set_cons_succ]
              -- 6: newsreel/newsreellaw17.id
              refine bopS 6 (o := _) (by simp only [List.getElem?_toArray, List.getElem?_cons_succ, List.getElem?_cons_zero]; rfl) (by kernel_rfl) (by rfl) (fun K hK => ?_)
              go_simp
              refine (id_any wc.drew xx hxx).mono ?_
              rintro e w5 ⟨rfl, hb5⟩
              have hkb : PSt w gs p ll r w5 := HS1.out.below hb5
              have G6 := Lib.hid (And.intro ((G5.out.1.below (Below.refl wc.heap.size wc).drew).below hb5) hkb)
              clear hb5
              refine hK.out _ _ hkb ?_; clear hK K
              try simp only [Act.put, List.setIfInBounds_toArray, List.set_cons_zero, List.set_cons_succ]
              -- 13: (*newsreel/flags.Map).Put
              refine bopS 13 (o := _) (by simp only [List.getElem?_toArray, List.getElem?_cons_succ, List.getElem?_cons_zero]; rfl) (by kernel_rfl) (by rfl) (fun K hK => ?_)
              go_simp
              refine (Put_at w5 m b R G6.out.1.p1.fs (idOf xx) ⟨p, ll, r⟩ on (by have := HL.out; omega) HTE.out.1 HTE.out.2 rfl).mono ?_
              rintro e w6 ⟨rfl, hf, hg⟩
              have G7 := Lib.hid (G6.out.1.fput hf hg)
              have hkb : PSt w gs p ll r w6 := ⟨⟨G7.out.bw.size, fun k hk => G7.out.bw.block k hk⟩, G6.out.2.2.grown hg (fun e => G6.out.2.2.ne_fs G6.out.1.p1.fs (Option.some.inj e).symm)⟩
              have HS7 := Lib.hid hkb
              clear hf hg
              refine hK.out _ _ hkb ?_; clear hK K
              try simp only [Act.put, List.setIfInBounds_toArray, List.set_cons_zero, List.set_cons_succ]
              refine btakeS 14 (oi := _) (v := ?_) (by simp only [List.getElem?_toArray, List.getElem?_cons_succ, List.getElem?_cons_zero]; rfl) (by kernel_rfl) (by exact fun _ _ _ h => h) (by first | assumption | exact KB.refl _) (.inl ⟨by rfl, fun W hW => ?_⟩) ?_; rotate_left
              · (go_simp; first | done | with_reducible rfl)
              try simp only [Act.put, List.setIfInBounds_toArray, List.set_cons_zero, List.set_cons_succ]
              refine btakeS 15 (oi := _) (v := ?_) (by simp only [List.getElem?_toArray, List.getElem?_cons_succ, List.getElem?_cons_zero]; rfl) (by kernel_rfl) (by exact fun _ _ _ h => h) (by first | assumption | exact KB.refl _) (.inl ⟨by rfl, fun W hW => ?_⟩) ?_; rotate_left
              · (go_simp; first | done | with_reducible rfl)
              try simp only [Act.put, List.setIfInBounds_toArray, List.set_cons_zero, List.set_cons_succ]
              refine btakeS 16 (oi := _) (v := ?_) (by simp only [List.getElem?_toArray, List.getElem?_cons_succ, List.getElem?_cons_zero]; rfl) (by kernel_rfl) (by exact fun _ _ _ h => h) (by first | assumption | exact KB.refl _) (.inl ⟨by rfl, fun W hW => ?_⟩) ?_; rotate_left
              · (go_simp; first | done | with_reducible rfl)
              try simp only [Act.put, List.setIfInBounds_toArray, List.set_cons_zero, List.set_cons_succ]
              refine btakeS 17 (oi := _) (v := ?_) (by simp only [List.getElem?_toArray, List.getElem?_cons_succ, List.getElem?_cons_zero]; rfl) (by kernel_rfl) (by exact fun _ _ _ h => h) (by first | assumption | exact KB.refl _) (.inl ⟨by rfl, fun W hW => ?_⟩) ?_; rotate_left
              · (go_simp; first | done | with_reducible rfl)
              try simp only [Act.put, List.setIfInBounds_toArray, List.set_cons_zero, List.set_cons_succ]
              refine btakeS 18 (oi := _) (v := ?_) (by simp only [List.getElem?_toArray, List.getElem?_cons_succ, List.getElem?_cons_zero]; rfl) (by kernel_rfl) (by exact fun _ _ _ h => h) (by first | assumption | exact KB.refl _) (.inl ⟨by rfl, fun W hW => ?_⟩) ?_; rotate_left
              · (go_simp; first | done | with_reducible rfl)
              try simp only [Act.put, List.setIfInBounds_toArray, List.set_cons_zero, List.set_cons_succ]
              refine bdoneS (by kernel_rfl) ?_
              clear hkb hS0 hs1
              go_wp2_with fail
              have hs1 : PSt w gs p ll r w6.drew := HS7.out
              have HS8 := Lib.hid hs1
              have hS0 := hs1
              refine bstartS (PSt w gs p ll r) (by kernel_rfl) ?_
              refine btakeS 0 (oi := _) (v := ?_) (by simp only [List.getElem?_toArray, List.getElem?_cons_zero]; rfl) (by kernel_rfl) (by exact fun _ _ _ h => h) (by first | assumption | exact KB.refl _) (.inl ⟨by rfl, fun W hW => ?_⟩) ?_; rotate_left
              · (go_simp; first | done | with_reducible rfl)
              try simp only [Act.put, List.setIfInBounds_toArray, List.set_cons_zero, List.set_cons_succ]
              refine btakeS 1 (oi := _) (v := ?_) (by simp only [List.getElem?_toArray, List.getElem?_cons_succ, List.getElem?_cons_zero]; rfl) (by kernel_rfl) (by exact fun _ _ _ h => h) (by first | assumption | exact KB.refl _) (.inl ⟨by rfl, fun W hW => ?_⟩) ?_; rotate_left
              · (go_simp; first | done | with_reducible rfl)
              try simp only [Act.put, List.setIfInBounds_toArray, List.set_cons_zero, List.set_cons_succ]
              refine btakeS 2 (oi := _) (v := ?_) (by simp only [List.getElem?_toArray, List.getElem?_cons_succ, List.getElem?_cons_zero]; rfl) (by kernel_rfl) (by exact fun _ _ _ h => h) (by first | assumption | exact KB.refl _) (.inl ⟨by rfl, fun W hW => ?_⟩) ?_; rotate_left
              · (go_simp; first | done | with_reducible rfl)
              try simp only [Act.put, List.setIfInBounds_toArray, List.set_cons_zero, List.set_cons_succ]
              refine btakeS 3 (oi := _) (v := ?_) (by simp only [List.getElem?_toArray, List.getElem?_cons_succ, List.getElem?_cons_zero]; rfl) (by kernel_rfl) (by exact fun _ _ _ h => h) (by first | assumption | exact KB.refl _) (.inl ⟨by rfl, fun W hW => ?_⟩) ?_; rotate_left
              · (go_simp; first | done | with_reducible rfl)
              try simp only [Act.put, List.setIfInBounds_toArray, List.set_cons_zero, List.set_cons_succ]
              refine btakeS 4 (oi := _) (v := ?_) (by simp only [List.getElem?_toArray, List.getElem?_cons_succ, List.getElem?_cons_zero]; rfl) (by kernel_rfl) (by exact fun _ _ _ h => h) (by first | assumption | exact KB.refl _) (.inl ⟨by rfl, fun W hW => ?_⟩) ?_; rotate_left
              · (go_simp; first | done | with_reducible rfl)
              try simp only [Act.put, List.setIfInBounds_toArray, List.set_cons_zero, List.set_cons_succ]
              refine btakeS 5 (oi := _) (v := ?_) (by simp only [List.getElem?_toArray, List.getElem?_cons_succ, List.getElem?_cons_zero]; rfl) (by kernel_rfl) (by exact fun _ _ _ h => h) (by first | assumption | exact KB.refl _) (.inl ⟨by rfl, fun W hW => ?_⟩) ?_; rotate_left
              · (go_simp; first | done | with_reducible rfl)
              try simp only [Act.put, List.setIfInBounds_toArray, List.set_cons_zero, List.set_cons_succ]
              refine btakeS 7 (oi := _) (v := ?_) (by simp only [List.getElem?_toArray, List.getElem?_cons_succ, List.getElem?_cons_zero]; rfl) (by kernel_rfl) (by exact fun _ _ _ h => h) (by first | assumption | exact KB.refl _) (.inl ⟨by rfl, fun W hW => ?_⟩) ?_; rotate_left
              · (go_simp; first | done | with_reducible rfl)
              try simp only [Act.put, List.setIfInBounds_toArray, List.set_cons_zero, List.set_cons_succ]
              refine btakeS 8 (oi := _) (v := ?_) (by simp only [List.getElem?_toArray, List.getElem?_cons_succ, List.getElem?_cons_zero]; rfl) (by kernel_rfl) (by exact fun _ _ _ h => h) (by first | assumption | exact KB.refl _) (.inl ⟨by rfl, fun W hW => ?_⟩) ?_; rotate_left
              · (go_simp; first | done | with_reducible rfl)
              try simp only [Act.put, List.setIfInBounds_toArray, List.set_cons_zero, List.set_cons_succ]
              refine btakeS 9 (oi := _) (v := ?_) (by simp only [List.getElem?_toArray, List.getElem?_cons_succ, List.getElem?_cons_zero]; rfl) (by kernel_rfl) (by exact fun _ _ _ h => h) (by first | assumption | exact KB.refl _) (.inl ⟨by rfl, fun W hW => ?_⟩) ?_; rotate_left
              · (go_simp; first | done | with_reducible rfl)
              try simp only [Act.put, List.setIfInBounds_toArray, List.set_cons_zero, List.set_cons_succ]
              refine btakeS 10 (oi := _) (v := ?_) (by simp only [List.getElem?_toArray, List.getElem?_cons_succ, List.getElem?_cons_zero]; rfl) (by kernel_rfl) (by exact fun _ _ _ h => h) (by first | assumption | exact KB.refl _) (.inl ⟨by rfl, fun W hW => ?_⟩) ?_; rotate_left
              · (go_simp; first | done | with_reducible rfl)
              try simp only [Act.put, List.setIfInBounds_toArray, List.set_cons_zero, List.set_cons_succ]
              refine btakeS 11 (oi := _) (v := ?_) (by simp only [List.getElem?_toArray, List.getElem?_cons_succ, List.getElem?_cons_zero]; rfl) (by kernel_rfl) (by exact fun _ _ _ h => h) (by first | assumption | exact KB.refl _) (.inl ⟨by rfl, fun W hW => ?_⟩) ?_; rotate_left
              · (go_simp; first | done | with_reducible rfl)
              try simp only [Act.put, List.setIfInBounds_toArray, List.set_cons_zero, List.set_cons_succ]
              refine btakeS 12 (oi := _) (v := ?_) (by simp only [List.getElem?_toArray, List.getElem?_cons_succ, List.getElem?_cons_zero]; rfl) (by kernel_rfl) (by exact fun _ _ _ h => h) (by first | assumption | exact KB.refl _) (.inl ⟨by rfl, fun W hW => ?_⟩) ?_; rotate_left
              · (go_simp; first | done | with_reducible rfl)
              try simp only [Act.put, List.setIfInBounds_toArray, List.set_cons_zero, List.set_cons_succ]
              -- 6: newsreel/newsreellaw17.id
              refine bopS 6 (o := _) (by simp only [List.getElem?_toArray, List.getElem?_cons_succ, List.getElem?_cons_zero]; rfl) (by kernel_rfl) (by rfl) (fun K hK => ?_)
              go_simp
              refine (id_any w6.drew xx hxx).mono ?_
              rintro e w7 ⟨rfl, hb7⟩
              have hkb : PSt w gs p ll r w7 := HS8.out.below hb7
              have G8 := Lib.hid (And.intro ((G7.out.below (Below.refl w6.heap.size w6).drew).below hb7) hkb)
              clear hb7
              refine hK.out _ _ hkb ?_; clear hK K
              try simp only [Act.put, List.setIfInBounds_toArray, List.set_cons_zero, List.set_cons_succ]
              -- 13: (*newsreel/newsreelref16.Flags).Put
              refine bopS 13 (o := _) (by simp only [List.getElem?_toArray, List.getElem?_cons_succ, List.getElem?_cons_zero]; rfl) (by kernel_rfl) (by rfl) (fun K hK => ?_)
              go_simp
              refine (DPut_at w7 d F R G8.out.1.p1.ds (idOf xx) ⟨p, ll, r⟩ on (by have := HL.out; omega) HTE.out.1 HTE.out.2).mono ?_
              rintro e w8 ⟨rfl, F', hd, hF', hg⟩
              have G9 := Lib.hid (G8.out.1.dput hd hF' hg)
              have hkb : PSt w gs p ll r w8 := ⟨⟨G9.out.bw.size, fun k hk => G9.out.bw.block k hk⟩, G8.out.2.2.grew hg HGS.out⟩
              clear hd hF' hg
              refine hK.out _ _ hkb ?_; clear hK K
              try simp only [Act.put, List.setIfInBounds_toArray, List.set_cons_zero, List.set_cons_succ]
              refine btakeS 14 (oi := _) (v := ?_) (by simp only [List.getElem?_toArray, List.getElem?_cons_succ, List.getElem?_cons_zero]; rfl) (by kernel_rfl) (by exact fun _ _ _ h => h) (by first | assumption | exact KB.refl _) (.inl ⟨by rfl, fun W hW => ?_⟩) ?_; rotate_left
              · (go_simp; first | done | with_reducible rfl)
              try simp only [Act.put, List.setIfInBounds_toArray, List.set_cons_zero, List.set_cons_succ]
              refine btakeS 15 (oi := _) (v := ?_) (by simp only [List.getElem?_toArray, List.getElem?_cons_succ, List.getElem?_cons_zero]; rfl) (by kernel_rfl) (by exact fun _ _ _ h => h) (by first | assumption | exact KB.refl _) (.inl ⟨by rfl, fun W hW => ?_⟩) ?_; rotate_left
              · (go_simp; first | done | with_reducible rfl)
              try simp only [Act.put, List.setIfInBounds_toArray, List.set_cons_zero, List.set_cons_succ]
              refine btakeS 16 (oi := _) (v := ?_) (by simp only [List.getElem?_toArray, List.getElem?_cons_succ, List.getElem?_cons_zero]; rfl) (by kernel_rfl) (by exact fun _ _ _ h => h) (by first | assumption | exact KB.refl _) (.inl ⟨by rfl, fun W hW => ?_⟩) ?_; rotate_left
              · (go_simp; first | done | with_reducible rfl)
              try simp only [Act.put, List.setIfInBounds_toArray, List.set_cons_zero, List.set_cons_succ]
              refine btakeS 17 (oi := _) (v := ?_) (by simp only [List.getElem?_toArray, List.getElem?_cons_succ, List.getElem?_cons_zero]; rfl) (by kernel_rfl) (by exact fun _ _ _ h => h) (by first | assumption | exact KB.refl _) (.inl ⟨by rfl, fun W hW => ?_⟩) ?_; rotate_left
              · (go_simp; first | done | with_reducible rfl)
              try simp only [Act.put, List.setIfInBounds_toArray, List.set_cons_zero, List.set_cons_succ]
              refine btakeS 18 (oi := _) (v := ?_) (by simp only [List.getElem?_toArray, List.getElem?_cons_succ, List.getElem?_cons_zero]; rfl) (by kernel_rfl) (by exact fun _ _ _ h => h) (by first | assumption | exact KB.refl _) (.inl ⟨by rfl, fun W hW => ?_⟩) ?_; rotate_left
              · (go_simp; first | done | with_reducible rfl)
              try simp only [Act.put, List.setIfInBounds_toArray, List.set_cons_zero, List.set_cons_succ]
              refine bdoneS (by kernel_rfl) ?_
              clear hkb hS0 hs1 f0 f1 f2 f3 f4
              have T0 := Lib.hid (And.intro (G9.out) (And.intro (HG.out.1.putIf xx ⟨⟨p, ll, r⟩, on⟩) (HG.out.2)))
              go_wp2_with fail
              refine (alike_any _ _ _ _ _ _ T0.out.1.p1.fs T0.out.1.p1.ds (by have := T0.out.2.1.len T0.out.1.p1.fs.2.2.1; omega)).mono ?_
              rintro e wx1 ⟨rfl, hb⟩
              have T1 := Lib.hid (T0.out.1.below hb)
              clear hb
              go_wp2_with fail
              refine (alike_any _ _ _ _ _ _ T1.out.p2.fs T1.out.p2.ds (by have := T0.out.2.2.len T0.out.1.p2.fs.2.2.1; omega)).mono ?_
              rintro e wx2 ⟨rfl, hb⟩
              have T2 := Lib.hid (T1.out.below hb)
              clear hb
              go_wp2_with fail
              refine (Same_any _ _ _ _ _ _ _ T2.out.p1.fs T2.out.p2.fs).mono ?_
              obtain ⟨q, hq⟩ : ∃ q, decide (putIf R (idOf xx) ⟨⟨p, ll, r⟩, on⟩ = R2) = q := ⟨_, rfl⟩
              have hq2 : decide (R2 = putIf R (idOf xx) ⟨⟨p, ll, r⟩, on⟩) = q := by rw [← hq, decide_eq_decide]; exact ⟨Eq.symm, Eq.symm⟩
              have HQ := Lib.hid (And.intro hq hq2)
              rw [hq]
              clear hq hq2
              rintro e wx3 ⟨rfl, hb⟩
              have T3 := Lib.hid (T2.out.below hb)
              clear hb
              go_wp2_with fail
              refine (SameF_any _ _ _ _ _ _ _ T3.out.p1.ds T3.out.p2.ds (by have := T0.out.2.1.len T0.out.1.p1.fs.2.2.1; omega)).mono ?_
              rw [HQ.out.1]
              rintro e wx4 ⟨rfl, hb⟩
              have T4 := Lib.hid (T3.out.below hb)
              clear hb
              go_wp2_with fail
              refine (Same_any _ _ _ _ _ _ _ T4.out.p2.fs T4.out.p1.fs).mono ?_
              rw [HQ.out.2]
              rintro e wx5 ⟨rfl, hb⟩
              have T5 := Lib.hid (T4.out.below hb)
              clear hb
              go_wp2_with fail
              refine (Same_any _ _ _ _ _ _ _ T5.out.p1.fs T5.out.p2.fs).mono ?_
              rw [HQ.out.1]
              rintro e wx6 ⟨rfl, hb⟩
              have T6 := Lib.hid (T5.out.below hb)
              clear hb
              go_wp2_with fail
              go_roundw
              case rel => exact ⟨i + 1, _, _, _, _, _, _, _, _, _, _, by go_num, hlt, rfl, rfl, rfl, rfl, T6.out, T0.out.2.1, T0.out.2.2⟩
              case measure => simp [intOf]; omega
      · obtain rfl : i = n := by omega
        go_wp2_with fail
        go_ret
        exact ⟨rfl, GA.out.1.bw⟩
end Go.Proofs.Ytjijhmeagjhfoaa

