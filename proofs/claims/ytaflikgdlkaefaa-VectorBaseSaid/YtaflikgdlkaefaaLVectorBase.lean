/- Vectors: where a replica's dots begin and end. -/
import Derived.Test.YtaflikgdlkaefaaM05
import Derived.Test.YtaflikgdlkaefaaM13
import Derived.Test.YtaflikgdlkaefaaM14
import Derived.Test.YtaflikgdlkaefaaM16
import Derived.Test.YtaflikgdlkaefaaM18
import Derived.Test.YtaflikgdlkaefaaM19
open List (getElem?_toArray getElem?_cons_succ getElem?_cons_zero)
namespace Go.Proofs.Ytaflikgdlkaefaa.Ve
open Go.Proofs.Ytaflikgdlkaefaa.Sp Go.Proofs.Ytaflikgdlkaefaa.Dt

theorem ends_has : ∀ {l : List Rg} {lo : Int}, okR lo l = true → ∀ (k : Nat) (q : Rg), l[k]? = some q → lo ≤ q.a ∧ q.ok = true ∧ has l q.a = true ∧ has l q.b = true ∧ has l (q.a - 1) = false
  | [], _, _, _, _, hq => by simp at hq
  | x :: t, lo, h, 0, q, hq => by
    obtain rfl : x = q := by simpa using hq
    obtain ⟨h1, h2, h3⟩ := okR_cons.1 h
    have h2' := ok_iff.1 h2
    refine ⟨h1, h2, by rw [has_cons, in_iff.2 ⟨by omega, by omega⟩]; rfl, by rw [has_cons, in_iff.2 ⟨by omega, by omega⟩]; rfl, ?_⟩
    rw [has_cons, Bool.or_eq_false_iff]
    refine ⟨by rw [Bool.eq_false_iff, ne_eq, in_iff]; omega, ?_⟩
    rw [Bool.eq_false_iff]
    intro hh
    have := has_lo h3 _ hh
    omega
  | x :: t, lo, h, k + 1, q, hq => by
    obtain ⟨h1, h2, h3⟩ := okR_cons.1 h
    have h2' := ok_iff.1 h2
    have hq' : t[k]? = some q := by simpa using hq
    obtain ⟨g1, g2, g3, g4, g5⟩ := ends_has h3 k q hq'
    refine ⟨by omega, g2, by rw [has_cons, g3, Bool.or_true], by rw [has_cons, g4, Bool.or_true], ?_⟩
    rw [has_cons, g5, Bool.or_false, Bool.eq_false_iff, ne_eq, in_iff]
    omega
theorem baseR_has (n : Nat) (m : Int) : has (baseR n) m = decide (1 ≤ m ∧ m ≤ (n : Int)) := by
  unfold baseR
  split
  · rw [has_cons, has_nil, Bool.or_false, Rg.in_]
    simp
  · rw [has_nil]
    symm
    rw [decide_eq_false_iff_not]
    omega
theorem has_append (l m : List Rg) (n : Int) : has (l ++ m) n = (has l n || has m n) := by simp [has]
/-- the base, and what stands behind it -/
theorem base_facts {V : VL} (h : rightV V = true) (r : Int) :
    0 ≤ baseV V r ∧ baseV V r ≤ mx ∧ hasV V ⟨r, baseV V r + 1⟩ = false ∧ (0 < baseV V r → hasV V ⟨r, baseV V r⟩ = true ∧ hasV V ⟨r, 1⟩ = true) ∧ right (extraV V r) = true ∧
    ∀ (k : Nat) (q : Rg), (extraV V r)[k]? = some q → baseV V r + 2 ≤ q.a ∧ q.ok = true ∧ hasV V ⟨r, q.a⟩ = true ∧ hasV V ⟨r, q.b⟩ = true ∧ hasV V ⟨r, q.a - 1⟩ = false := by
  have hb : baseV V r = firstS (partV V r) := by rw [baseV, if_pos h]
  have he : extraV V r = extraS (partV V r) := by rw [extraV, if_pos h]
  obtain ⟨f0, f1, f2, f3⟩ := first_extra (part_right h r)
  have hin : partV V r ≠ [] → 0 ≤ r ∧ r < 64 := fun hn => Classical.byContradiction fun hc => hn (part_out h hc)
  have hh : ∀ n, has (partV V r) n = (decide (1 ≤ n ∧ n ≤ firstS (partV V r)) || has (extraS (partV V r)) n) := fun n => by
    conv => lhs; rw [f3]
    rw [has_append, baseR_has, Int.toNat_of_nonneg f0]
  have hne : ∀ n, has (partV V r) n = true → partV V r ≠ [] := fun n hn e => by rw [e, has_nil] at hn; cases hn
  have key : ∀ n, 1 ≤ n → n ≤ mx → has (partV V r) n = true → hasV V ⟨r, n⟩ = true := fun n h1 h2 hn => by
    have hr := hin (hne n hn)
    unfold mx at h2
    rw [hasV_right h, hn, Bool.and_true]
    exact decide_eq_true ⟨hr.1, hr.2, h1, h2⟩
  have keyF : ∀ n, has (partV V r) n = false → hasV V ⟨r, n⟩ = false := fun n hn => by rw [hasV_right h]; dsimp only; rw [hn, Bool.and_false]
  rw [hb, he]
  refine ⟨f0, f1, keyF _ ?_, fun hp => ⟨key _ (by omega) f1 ?_, key _ (by omega) (by unfold mx; omega) ?_⟩, okR_mono (by omega) f2, fun k q hq => ?_⟩
  · rw [hh, Bool.or_eq_false_iff]
    refine ⟨by rw [decide_eq_false_iff_not]; omega, ?_⟩
    rw [Bool.eq_false_iff]
    intro hx
    have := has_lo f2 _ hx
    omega
  · rw [hh, decide_eq_true (by omega)]; rfl
  · rw [hh, decide_eq_true (by omega)]; rfl
  · obtain ⟨g1, g2, g3, g4, g5⟩ := ends_has f2 k q hq
    have g2' := ok_iff.1 g2
    refine ⟨g1, g2, key _ (by omega) (by omega) (by rw [hh, g3, Bool.or_true]), key _ (by omega) (by omega) (by rw [hh, g4, Bool.or_true]), keyF _ ?_⟩
    rw [hh, g5, Bool.or_false, decide_eq_false_iff_not]
    omega
end Go.Proofs.Ytaflikgdlkaefaa.Ve
/- Right vectors that are held: base and extra. -/
namespace Go.Proofs.Ytaflikgdlkaefaa
open Go.RowKit Go.Proofs.Ytaflikgdlkaefaa.Sp Go.Proofs.Ytaflikgdlkaefaa.Ve
set_option maxRecDepth 20000

theorem extra_len {m : Nat} {V : VL} (h : Lim m V) (r : Int) : (extraV V r).length ≤ m := by
  have h1 := h.part r
  unfold extraV
  split
  · unfold extraS
    split
    · rw [List.length_drop]; omega
    · exact h1
  · simp
section
variable {m : Nat} {w : World} {A : Option Addr} {n c : Nat} {V : VL}
theorem VH.base (h : VH m w A n c V) (hm : m ≤ 10000) (r : Int) (hr : i64in r) :
    Calls Try.prog 15 #[.agg #[.slice A n c], .int .i64 r] w fun e w' => e = .returned (.int .i64 (baseV V r)) ∧ Below w.heap.size w w' := by
  obtain ⟨R, h, h1, h2, _⟩ := h
  exact Base_any w A n c R V h (by omega) (h2.mono (by omega)) r hr
theorem VH.extra (h : VH m w A n c V) (hm : m ≤ 10000) (r : Int) (hr : i64in r) :
    Calls Try.prog 16 #[.agg #[.slice A n c], .int .i64 r] w (RAns w (extraV V r)) := by
  obtain ⟨R, h, h1, h2, _⟩ := h
  exact Extra_any w A n c R V h (by omega) (h2.mono (by omega)) r hr
end
end Go.Proofs.Ytaflikgdlkaefaa
/- The walk of VectorBase. -/
namespace Go.Proofs.Ytaflikgdlkaefaa
open Go.RowKit Go.Maps Go.Proofs.Ytaflikgdlkaefaa.Pl Go.Proofs.Ytaflikgdlkaefaa.Sp Go.Proofs.Ytaflikgdlkaefaa.Ve
set_option maxRecDepth 20000

set_option maxRecDepth 100000 in
set_option maxHeartbeats 12800000 in
theorem VectorBase_walk (w : World) (A : Option Addr) (c : Nat) (x : List Nat) (hx : Sl w w.heap.size A (wv x)) (hxl : ∀ m ∈ x, m < 65536) (p : Int) (hp : -9223372036854775808 ≤ p ∧ p ≤ 9223372036854775807) (d : Nat) (hd : d < 256) :
    Calls Try.prog 4 #[.slice A x.length c, .int .i64 p, .int .u8 (d : Int)] w fun e w' => e = .returned (.bool true) ∧ Below w.heap.size w w' := by
  have HK := Lib.hid (vknown_any w)
  obtain ⟨n, hn⟩ : ∃ n, x.length = n := ⟨_, rfl⟩
  rw [hn]
  have HX := Lib.hid (And.intro hx (And.intro hxl hn))
  clear hx hxl hn
  go_enter Try.func4, Try.ntmps4
  go_wp2_with fail
  refine HK.out.mono ?_
  rintro e w1 ⟨rfl, h1⟩
  by_cases q1 : 60 < n
  · have hd1 : decide ((60 : Int) < (n : Int)) = true := by rw [decide_eq_true_eq]; omega
    go_wp2_with fail
    go_ret
    exact ⟨rfl, h1⟩
  have hd1 : decide ((60 : Int) < (n : Int)) = false := by rw [decide_eq_false_iff_not]; omega
  have HA := Lib.hid ((SVec_own w1 A n c x ((HX.out.1.below h1).more h1.size) HX.out.2.2.symm (by omega) HX.out.2.1).mono fun _ _ h => h.ans)
  have H1 := Lib.hid h1
  clear h1 HK
  go_wp2_with fail
  refine HA.out.mono ?_
  rintro e w2 ⟨A2, n2, c2, R2, rfl, hv2, h2⟩
  have hb2 := H1.out.trans (h2.mono H1.out.size)
  have hr2 : rightV (vecX x) = true := ofV_right _
  have hl2 : Lim 120 (vecX x) := ofV_lim.mono (by have := xds_len x; have := HX.out.2.2; omega)
  generalize vecX x = V at *
  have hvh := VH.of hv2 hl2 hr2
  have e2 : (d : Int) % 4 = (d : Int) % 4 := rfl
  have g1 : IntKind.u8.wrap ((d : Int) % 4) = (d : Int) % 4 := by rw [IntKind.wrap_u8]; omega
  have g2 : IntKind.i64.wrap ((d : Int) % 4) = (d : Int) % 4 := by rw [IntKind.wrap_i64]; omega
  have HV := Lib.hid (And.intro hvh (And.intro hl2 (And.intro hr2 hb2)))
  clear hv2 h2 hb2 HA H1 HX hr2 hl2 hvh e2
  go_wp2_with fail
  have hbx := balloc (balloc (Below.refl w2.heap.size w2) (.cells #[.slice A2 n2 c2] 27)) (.cells #[.int .i64 p, .int .i64 ((d : Int) % 4), .int .i64 21, .int .i64 63] 3)
  have a7 := (At.new w2 27 #[.slice A2 n2 c2]).alloc (.cells #[.int .i64 p, .int .i64 ((d : Int) % 4), .int .i64 21, .int .i64 63] 3)
  have a8 := At.new (w2.alloc (.cells #[.slice A2 n2 c2] 27)) 3 #[.int .i64 p, .int .i64 ((d : Int) % 4), .int .i64 21, .int .i64 63]
  have hs8 : (w2.alloc (.cells #[.slice A2 n2 c2] 27)).heap.size = w2.heap.size + 1 := by simp
  rw [hs8] at a8
  have hrs : ∀ k : Nat, k < 4 → ∃ r, i64in r ∧ [Value.int .i64 p, .int .i64 ((d : Int) % 4), .int .i64 21, .int .i64 63][k]? = some (.int .i64 r) := fun k hk => by
    match k, hk with
    | 0, _ => exact ⟨p, hp, rfl⟩
    | 1, _ => exact ⟨(d : Int) % 4, by unfold i64in; omega, rfl⟩
    | 2, _ => exact ⟨21, by unfold i64in; omega, rfl⟩
    | 3, _ => exact ⟨63, by unfold i64in; omega, rfl⟩
  have HW := Lib.hid (And.intro (HV.out.1.below hbx) (And.intro a7 (And.intro a8 (And.intro HV.out.2.1 (And.intro HV.out.2.2.1 (HV.out.2.2.2.trans (hbx.mono HV.out.2.2.2.size)))))))
  generalize (w2.alloc (.cells #[.slice A2 n2 c2] 27)).alloc (.cells #[.int .i64 p, .int .i64 ((d : Int) % 4), .int .i64 21, .int .i64 63] 3) = W at *
  clear hbx a7 a8 hs8 HV g1 g2
  generalize w2.heap.size = g7 at *
  go_loopw [26] (fun x3 wr => ∃ (k : Nat), k ≤ 4 ∧ x3 = .int .i64 (k : Int) ∧ Below W.heap.size W wr) (fun x3 _ => 4 - (intOf x3).toNat)
  case atStart => exact ⟨0, by omega, rfl, Below.refl _ _⟩
  case round =>
    obtain ⟨k, hk, rfl, hbel⟩ := hrel
    by_cases hlt : k < 4
    · obtain ⟨r, hri, hrk⟩ := hrs k hlt
      have c8 := (HW.out.2.2.1.below hbel).c k hrk
      have hd1 : decide ((k : Int) < 4) = true := by rw [decide_eq_true_eq]; omega
      have hn0 : (0 : Int) ≤ (k : Int) := by omega
      have hn1 : (k : Int) < 4 := by omega
      have hbf := base_facts HW.out.2.2.2.2.1 r
      have hel := extra_len HW.out.2.2.2.1 r
      obtain ⟨f, hf⟩ : ∃ f, baseV V r = f := ⟨_, rfl⟩
      obtain ⟨l, hl⟩ : ∃ l, extraV V r = l := ⟨_, rfl⟩
      rw [hf, hl] at hbf
      rw [hl] at hel
      obtain ⟨N, hN⟩ : ∃ N, l.length = N := ⟨_, rfl⟩
      rw [hN] at hel
      have f0 := hbf.1
      have f1 := hbf.2.1
      unfold mx at f1
      have HF := Lib.hid hbf
      have HL := Lib.hid (And.intro hf (And.intro hl hN))
      have HVW := Lib.hid (fun W' (hW : Below wr.heap.size wr W') => have hz := hbel.trans (hW.mono hbel.size); And.intro (HW.out.1.below hz) (And.intro (HW.out.2.1.below hz) hz))
      have e7 := (HW.out.2.1.below hbel).e 0 rfl
      clear hbf hf hl hN hrk
      go_wp2_with fail
      have hb0 : Below wr.heap.size wr wr.drew := (Below.refl _ wr).drew
      refine bstartH (wr.heap) (by kernel_rfl) ?_
      refine btake 0 (oi := _) (v := ?_) (by simp only [List.getElem?_toArray, List.getElem?_cons_zero]; rfl) (by kernel_rfl) (by exact fun _ _ _ h => h) (by first | assumption | exact KB.refl _) (.inl ⟨by rfl, fun W hW => ?_⟩) ?_; rotate_left
      · (go_simp; first | done | with_reducible rfl)
      try simp only [Act.put, List.setIfInBounds_toArray, List.set_cons_zero, List.set_cons_succ]
      refine btake 1 (oi := _) (v := ?_) (by simp only [getElem?_toArray, getElem?_cons_succ, getElem?_cons_zero]; rfl) (by kernel_rfl) (by exact fun _ _ _ h => h) (by first | assumption | exact KB.refl _) (.inl ⟨by rfl, fun W hW => ?_⟩) ?_; rotate_left
      · (go_simp; first | done | with_reducible rfl)
      try simp only [Act.put, List.setIfInBounds_toArray, List.set_cons_zero, List.set_cons_succ]
      refine btake 3 (oi := _) (v := ?_) (by simp only [getElem?_toArray, getElem?_cons_succ, getElem?_cons_zero]; rfl) (by kernel_rfl) (by exact fun _ _ _ h => h) (by first | assumption | exact KB.refl _) (.inl ⟨by rfl, fun W hW => ?_⟩) ?_; rotate_left
      · (go_simp; first | done | with_reducible rfl)
      try simp only [Act.put, List.setIfInBounds_toArray, List.set_cons_zero, List.set_cons_succ]
      refine btake 4 (oi := _) (v := ?_) (by simp only [getElem?_toArray, getElem?_cons_succ, getElem?_cons_zero]; rfl) (by kernel_rfl) (by exact fun _ _ _ h => h) (by first | assumption | exact KB.refl _) (.inl ⟨by rfl, fun W hW => ?_⟩) ?_; rotate_left
      · (go_simp; first | done | with_reducible rfl)
      try simp only [Act.put, List.setIfInBounds_toArray, List.set_cons_zero, List.set_cons_succ]
      -- 2: newsreel/vector.Base
      refine bopH 2 (o := _) (by simp only [getElem?_toArray, getElem?_cons_succ, getElem?_cons_zero]; rfl) (by kernel_rfl) (by first | assumption | exact KB.refl _) (by rfl) (fun K hK => ?_)
      go_simp
      refine ((HVW.out _ hb0).1.base (by omega) r hri).mono ?_
      rintro e u2 ⟨rfl, h2⟩
      rw [HL.out.1]
      have B2 := Lib.hid (hb0.trans (h2.mono hb0.size))
      have hkb : KB wr.heap u2 := KB.of B2.out
      clear h2
      refine hK.out _ _ hkb ?_; clear hK K
      try simp only [Act.put, List.setIfInBounds_toArray, List.set_cons_zero, List.set_cons_succ]
      -- 5: newsreel/vector.Extra
      refine bopH 5 (o := _) (by simp only [getElem?_toArray, getElem?_cons_succ, getElem?_cons_zero]; rfl) (by kernel_rfl) (by first | assumption | exact KB.refl _) (by rfl) (fun K hK => ?_)
      go_simp
      refine ((HVW.out _ B2.out).1.extra (by omega) r hri).mono ?_
      rintro e u5 ⟨A5, c5, rfl, hsl, hlc, hcm, h5⟩
      rw [HL.out.2.1] at hsl hlc ⊢
      rw [HL.out.2.2] at hlc ⊢
      have B5 := Lib.hid (B2.out.trans (h5.mono B2.out.size))
      have hkb : KB wr.heap u5 := KB.of B5.out
      have S5 := Lib.hid (And.intro hsl (And.intro hlc hcm))
      clear h5 hsl hlc hcm
      refine hK.out _ _ hkb ?_; clear hK K
      try simp only [Act.put, List.setIfInBounds_toArray, List.set_cons_zero, List.set_cons_succ]
      refine btake 6 (oi := _) (v := ?_) (by simp only [getElem?_toArray, getElem?_cons_succ, getElem?_cons_zero]; rfl) (by kernel_rfl) (by exact fun _ _ _ h => h) (by first | assumption | exact KB.refl _) (.inl ⟨by rfl, fun W hW => ?_⟩) ?_; rotate_left
      · (go_simp; first | done | with_reducible rfl)
      try simp only [Act.put, List.setIfInBounds_toArray, List.set_cons_zero, List.set_cons_succ]
      refine btake 7 (oi := _) (v := ?_) (by simp only [getElem?_toArray, getElem?_cons_succ, getElem?_cons_zero]; rfl) (by kernel_rfl) (by exact fun _ _ _ h => h) (by first | assumption | exact KB.refl _) (.inl ⟨by rfl, fun W hW => ?_⟩) ?_; rotate_left
      · (go_simp; first | done | with_reducible rfl)
      try simp only [Act.put, List.setIfInBounds_toArray, List.set_cons_zero, List.set_cons_succ]
      refine bdone (by kernel_rfl) ?_
      have hd2 : decide (f < 0) = false := by rw [decide_eq_false_iff_not]; omega
      have g1 : IntKind.i64.wrap (f + 1) = f + 1 := by rw [IntKind.wrap_i64]; omega
      have g2 : IntKind.i64.wrap (f + 2) = f + 2 := by rw [IntKind.wrap_i64]; omega
      have z7 := (HVW.out _ B5.out).2.1.c 0 rfl
      clear hkb hb0 e7 c8
      by_cases hp0 : 0 < f
      · have hd6 : decide (0 < f) = true := by rw [decide_eq_true_eq]; omega
        have HBq := Lib.hid (fun (W' : World) (hW : Below u5.heap.size u5 W') => hW)
        go_wp2_with fail
        refine ((HVW.out _ (B5.out.trans ((Below.refl u5.heap.size u5).mono B5.out.size))).1.has (by omega) r (f + 1) hri).mono ?_
        rintro e ua ⟨rfl, hua⟩
        rw [HF.out.2.2.1]
        have Qua := Lib.hid ((Below.refl u5.heap.size u5).trans (hua.mono (Below.refl u5.heap.size u5).size))
        have zua := (HVW.out _ (B5.out.trans (Qua.out.mono B5.out.size))).2.1.c 0 rfl
        clear hua
        clear z7
        go_wp2_with fail
        refine ((HVW.out _ (B5.out.trans (Qua.out.mono B5.out.size))).1.has (by omega) r f hri).mono ?_
        rintro e ub ⟨rfl, hub⟩
        rw [(HF.out.2.2.2.1 hp0).1]
        have Qub := Lib.hid (Qua.out.trans (hub.mono Qua.out.size))
        have zub := (HVW.out _ (B5.out.trans (Qub.out.mono B5.out.size))).2.1.c 0 rfl
        clear hub
        clear zua
        go_wp2_with fail
        refine ((HVW.out _ (B5.out.trans (Qub.out.mono B5.out.size))).1.has (by omega) r 1 hri).mono ?_
        rintro e uc ⟨rfl, huc⟩
        rw [(HF.out.2.2.2.1 hp0).2]
        have Quc := Lib.hid (Qub.out.trans (huc.mono Qub.out.size))
        have zuc := (HVW.out _ (B5.out.trans (Quc.out.mono B5.out.size))).2.1.c 0 rfl
        clear huc
        clear zub
        go_wp2_with fail
        clear zuc
        have hs5 := (S5.out.1.below Quc.out).more Quc.out.size
        refine (RRRight_any uc A5 N c5 l hs5 HL.out.2.2.symm (by omega)).mono ?_
        rintro e v ⟨rfl, hv⟩
        rw [HF.out.2.2.2.2.1]
        have Bv := Lib.hid ((B5.out.trans (Quc.out.mono B5.out.size)).trans (hv.mono (B5.out.trans (Quc.out.mono B5.out.size)).size))
        have hs6 := (hs5.below hv).more hv.size
        have HU := Lib.hid (fun W' (hW : Below v.heap.size v W') => have hz := (HVW.out _ Bv.out).2.2.trans (hW.mono (HVW.out _ Bv.out).2.2.size); And.intro (HW.out.1.below hz) (And.intro (HW.out.2.1.below hz) (And.intro ((hs6.below hW).more hW.size) hz)))
        clear hs5 hv
        by_cases hN0 : 0 < N
        · obtain ⟨b, oo, rfl, _, _, y0, _⟩ := rgAt hs6 (k := 0) (by rw [HL.out.2.2]; exact hN0)
          obtain ⟨q, hq⟩ : ∃ q, l[0]? = some q := ⟨_, List.getElem?_eq_getElem (by rw [HL.out.2.2]; exact hN0)⟩
          rw [hq, Option.getD_some, Nat.zero_mul, Nat.add_zero] at y0
          have hqa := (HF.out.2.2.2.2.2 0 q hq).1
          have hd3 : decide ((0 : Int) < (N : Int)) = true := by rw [decide_eq_true_eq]; omega
          have hd3' : decide (0 < N) = true := by rw [decide_eq_true_eq]; omega
          have hd4 : decide (q.a < f + 2) = false := by rw [decide_eq_false_iff_not]; omega
          clear hs6
          go_wp2_with fail
          clear y0 hd3 hd3' hd4 hqa hq
          go_loopw [12] (fun x3 wr => ∃ (j : Nat), j ≤ N ∧ x3 = .int .i64 (j : Int) ∧ Below v.heap.size v wr) (fun x3 _ => N - (intOf x3).toNat)
          case atStart => exact ⟨0, by omega, rfl, Below.refl _ _⟩
          case round =>
            obtain ⟨j, hj, rfl, hbv⟩ := hrel
            by_cases hjt : j < N
            · have hu := HU.out _ hbv
              obtain ⟨b', o', e', _, hbs, y0, y1⟩ := rgAt hu.2.2.1 (k := j) (by rw [HL.out.2.2]; exact hjt)
              injection e' with e'
              injection e' with e1 e2
              subst e1
              subst e2
              obtain ⟨q, hq⟩ : ∃ q, l[j]? = some q := ⟨_, List.getElem?_eq_getElem (by rw [HL.out.2.2]; exact hjt)⟩
              rw [hq, Option.getD_some] at y0 y1
              have hqf := HF.out.2.2.2.2.2 j q hq
              have hqo := ok_iff.1 hqf.2.1
              unfold mx at hqo
              have g3 : IntKind.i64.wrap (q.a - 1) = q.a - 1 := by rw [IntKind.wrap_i64]; omega
              have HQ := Lib.hid hqf
              have e7 := hu.2.1.e 0 rfl
              have e0 := cellB y0
              have e1 := cellB y1
              have hd5 : decide ((j : Int) < (N : Int)) = true := by rw [decide_eq_true_eq]; omega
              have hn2 : (0 : Int) ≤ (j : Int) := by omega
              have hn3 : (j : Int) < (N : Int) := by omega
              have HUW := Lib.hid (fun W' (hW : Below wr.heap.size wr W') => And.intro (HU.out _ (hbv.trans (hW.mono hbv.size))).1 (hbv.trans (hW.mono hbv.size)))
              clear hqf hqo hq hu hbv y0 y1
              go_wp2_with fail
              have hb0 : Below wr.heap.size wr wr.drew := (Below.refl _ wr).drew
              refine bstartH (wr.heap) (by kernel_rfl) ?_
              refine btake 0 (oi := _) (v := ?_) (by simp only [List.getElem?_toArray, List.getElem?_cons_zero]; rfl) (by kernel_rfl) (by exact fun _ _ _ h => h) (by first | assumption | exact KB.refl _) (.inl ⟨by rfl, fun W hW => ?_⟩) ?_; rotate_left
              · (go_simp; first | done | with_reducible rfl)
              try simp only [Act.put, List.setIfInBounds_toArray, List.set_cons_zero, List.set_cons_succ]
              refine btake 1 (oi := _) (v := ?_) (by simp only [getElem?_toArray, getElem?_cons_succ, getElem?_cons_zero]; rfl) (by kernel_rfl) (by exact fun _ _ _ h => h) (by first | assumption | exact KB.refl _) (.inl ⟨by rfl, fun W hW => ?_⟩) ?_; rotate_left
              · (go_simp; first | done | with_reducible rfl)
              try simp only [Act.put, List.setIfInBounds_toArray, List.set_cons_zero, List.set_cons_succ]
              refine btake 2 (oi := _) (v := ?_) (by simp only [getElem?_toArray, getElem?_cons_succ, getElem?_cons_zero]; rfl) (by kernel_rfl) (by exact fun _ _ _ h => h) (by first | assumption | exact KB.refl _) (.inl ⟨by rfl, fun W hW => ?_⟩) ?_; rotate_left
              · (go_simp; first | done | with_reducible rfl)
              try simp only [Act.put, List.setIfInBounds_toArray, List.set_cons_zero, List.set_cons_succ]
              refine btake 3 (oi := _) (v := ?_) (by simp only [getElem?_toArray, getElem?_cons_succ, getElem?_cons_zero]; rfl) (by kernel_rfl) (by exact fun _ _ _ h => h) (by first | assumption | exact KB.refl _) (.inl ⟨by rfl, fun W hW => ?_⟩) ?_; rotate_left
              · (go_simp; first | done | with_reducible rfl)
              try simp only [Act.put, List.setIfInBounds_toArray, List.set_cons_zero, List.set_cons_succ]
              refine btake 4 (oi := _) (v := ?_) (by simp only [getElem?_toArray, getElem?_cons_succ, getElem?_cons_zero]; rfl) (by kernel_rfl) (by exact fun _ _ _ h => h) (by first | assumption | exact KB.refl _) (.inl ⟨by rfl, fun W hW => ?_⟩) ?_; rotate_left
              · (go_simp; first | done | with_reducible rfl)
              try simp only [Act.put, List.setIfInBounds_toArray, List.set_cons_zero, List.set_cons_succ]
              refine btake 5 (oi := _) (v := ?_) (by simp only [getElem?_toArray, getElem?_cons_succ, getElem?_cons_zero]; rfl) (by kernel_rfl) (by exact fun _ _ _ h => h) (by first | assumption | exact KB.refl _) (.inl ⟨by rfl, fun W hW => ?_⟩) ?_; rotate_left
              · (go_simp; first | done | with_reducible rfl)
              try simp only [Act.put, List.setIfInBounds_toArray, List.set_cons_zero, List.set_cons_succ]
              refine btake 6 (oi := _) (v := ?_) (by simp only [getElem?_toArray, getElem?_cons_succ, getElem?_cons_zero]; rfl) (by kernel_rfl) (by exact fun _ _ _ h => h) (by first | assumption | exact KB.refl _) (.inl ⟨by rfl, fun W hW => ?_⟩) ?_; rotate_left
              · (go_simp; first | done | with_reducible rfl)
              try simp only [Act.put, List.setIfInBounds_toArray, List.set_cons_zero, List.set_cons_succ]
              refine btake 7 (oi := _) (v := ?_) (by simp only [getElem?_toArray, getElem?_cons_succ, getElem?_cons_zero]; rfl) (by kernel_rfl) (by exact fun _ _ _ h => h) (by first | assumption | exact KB.refl _) (.inl ⟨by rfl, fun W hW => ?_⟩) ?_; rotate_left
              · (go_simp; first | done | with_reducible rfl)
              try simp only [Act.put, List.setIfInBounds_toArray, List.set_cons_zero, List.set_cons_succ]
              -- 8: newsreel/vector.Has
              refine bopH 8 (o := _) (by simp only [getElem?_toArray, getElem?_cons_succ, getElem?_cons_zero]; rfl) (by kernel_rfl) (by first | assumption | exact KB.refl _) (by rfl) (fun K hK => ?_)
              go_simp
              refine ((HUW.out _ hb0).1.has (by omega) r q.a hri).mono ?_
              rintro e t8 ⟨rfl, h8⟩
              rw [HQ.out.2.2.1]
              have T8 := Lib.hid (hb0.trans (h8.mono hb0.size))
              have hkb : KB wr.heap t8 := KB.of T8.out
              clear h8
              refine hK.out _ _ hkb ?_; clear hK K
              try simp only [Act.put, List.setIfInBounds_toArray, List.set_cons_zero, List.set_cons_succ]
              refine btake 9 (oi := _) (v := ?_) (by simp only [getElem?_toArray, getElem?_cons_succ, getElem?_cons_zero]; rfl) (by kernel_rfl) (by exact fun _ _ _ h => h) (by first | assumption | exact KB.refl _) (.inl ⟨by rfl, fun W hW => ?_⟩) ?_; rotate_left
              · (go_simp; first | done | with_reducible rfl)
              try simp only [Act.put, List.setIfInBounds_toArray, List.set_cons_zero, List.set_cons_succ]
              refine btake 10 (oi := _) (v := ?_) (by simp only [getElem?_toArray, getElem?_cons_succ, getElem?_cons_zero]; rfl) (by kernel_rfl) (by exact fun _ _ _ h => h) (by first | assumption | exact KB.refl _) (.inl ⟨by rfl, fun W hW => ?_⟩) ?_; rotate_left
              · (go_simp; first | done | with_reducible rfl)
              try simp only [Act.put, List.setIfInBounds_toArray, List.set_cons_zero, List.set_cons_succ]
              refine btake 11 (oi := _) (v := ?_) (by simp only [getElem?_toArray, getElem?_cons_succ, getElem?_cons_zero]; rfl) (by kernel_rfl) (by exact fun _ _ _ h => h) (by first | assumption | exact KB.refl _) (.inl ⟨by rfl, fun W hW => ?_⟩) ?_; rotate_left
              · (go_simp; first | done | with_reducible rfl)
              try simp only [Act.put, List.setIfInBounds_toArray, List.set_cons_zero, List.set_cons_succ]
              refine btake 12 (oi := _) (v := ?_) (by simp only [getElem?_toArray, getElem?_cons_succ, getElem?_cons_zero]; rfl) (by kernel_rfl) (by exact fun _ _ _ h => h) (by first | assumption | exact KB.refl _) (.inl ⟨by rfl, fun W hW => ?_⟩) ?_; rotate_left
              · (go_simp; first | done | with_reducible rfl)
              try simp only [Act.put, List.setIfInBounds_toArray, List.set_cons_zero, List.set_cons_succ]
              refine btake 13 (oi := _) (v := ?_) (by simp only [getElem?_toArray, getElem?_cons_succ, getElem?_cons_zero]; rfl) (by kernel_rfl) (by exact fun _ _ _ h => h) (by first | assumption | exact KB.refl _) (.inl ⟨by rfl, fun W hW => ?_⟩) ?_; rotate_left
              · (go_simp; first | done | with_reducible rfl)
              try simp only [Act.put, List.setIfInBounds_toArray, List.set_cons_zero, List.set_cons_succ]
              refine btake 14 (oi := _) (v := ?_) (by simp only [getElem?_toArray, getElem?_cons_succ, getElem?_cons_zero]; rfl) (by kernel_rfl) (by exact fun _ _ _ h => h) (by first | assumption | exact KB.refl _) (.inl ⟨by rfl, fun W hW => ?_⟩) ?_; rotate_left
              · (go_simp; first | done | with_reducible rfl)
              try simp only [Act.put, List.setIfInBounds_toArray, List.set_cons_zero, List.set_cons_succ]
              refine btake 15 (oi := _) (v := ?_) (by simp only [getElem?_toArray, getElem?_cons_succ, getElem?_cons_zero]; rfl) (by kernel_rfl) (by exact fun _ _ _ h => h) (by first | assumption | exact KB.refl _) (.inl ⟨by rfl, fun W hW => ?_⟩) ?_; rotate_left
              · (go_simp; first | done | with_reducible rfl)
              try simp only [Act.put, List.setIfInBounds_toArray, List.set_cons_zero, List.set_cons_succ]
              refine btake 16 (oi := _) (v := ?_) (by simp only [getElem?_toArray, getElem?_cons_succ, getElem?_cons_zero]; rfl) (by kernel_rfl) (by exact fun _ _ _ h => h) (by first | assumption | exact KB.refl _) (.inl ⟨by rfl, fun W hW => ?_⟩) ?_; rotate_left
              · (go_simp; first | done | with_reducible rfl)
              try simp only [Act.put, List.setIfInBounds_toArray, List.set_cons_zero, List.set_cons_succ]
              refine btake 17 (oi := _) (v := ?_) (by simp only [getElem?_toArray, getElem?_cons_succ, getElem?_cons_zero]; rfl) (by kernel_rfl) (by exact fun _ _ _ h => h) (by first | assumption | exact KB.refl _) (.inl ⟨by rfl, fun W hW => ?_⟩) ?_; rotate_left
              · (go_simp; first | done | with_reducible rfl)
              try simp only [Act.put, List.setIfInBounds_toArray, List.set_cons_zero, List.set_cons_succ]
              refine btake 18 (oi := _) (v := ?_) (by simp only [getElem?_toArray, getElem?_cons_succ, getElem?_cons_zero]; rfl) (by kernel_rfl) (by exact fun _ _ _ h => h) (by first | assumption | exact KB.refl _) (.inl ⟨by rfl, fun W hW => ?_⟩) ?_; rotate_left
              · (go_simp; first | done | with_reducible rfl)
              try simp only [Act.put, List.setIfInBounds_toArray, List.set_cons_zero, List.set_cons_succ]
              -- 19: newsreel/vector.Has
              refine bopH 19 (o := _) (by simp only [getElem?_toArray, getElem?_cons_succ, getElem?_cons_zero]; rfl) (by kernel_rfl) (by first | assumption | exact KB.refl _) (by rfl) (fun K hK => ?_)
              go_simp
              refine ((HUW.out _ T8.out).1.has (by omega) r q.b hri).mono ?_
              rintro e t19 ⟨rfl, h19⟩
              rw [HQ.out.2.2.2.1]
              have T19 := Lib.hid (T8.out.trans (h19.mono T8.out.size))
              have hkb : KB wr.heap t19 := KB.of T19.out
              clear h19
              refine hK.out _ _ hkb ?_; clear hK K
              try simp only [Act.put, List.setIfInBounds_toArray, List.set_cons_zero, List.set_cons_succ]
              refine btake 20 (oi := _) (v := ?_) (by simp only [getElem?_toArray, getElem?_cons_succ, getElem?_cons_zero]; rfl) (by kernel_rfl) (by exact fun _ _ _ h => h) (by first | assumption | exact KB.refl _) (.inl ⟨by rfl, fun W hW => ?_⟩) ?_; rotate_left
              · (go_simp; first | done | with_reducible rfl)
              try simp only [Act.put, List.setIfInBounds_toArray, List.set_cons_zero, List.set_cons_succ]
              refine btake 21 (oi := _) (v := ?_) (by simp only [getElem?_toArray, getElem?_cons_succ, getElem?_cons_zero]; rfl) (by kernel_rfl) (by exact fun _ _ _ h => h) (by first | assumption | exact KB.refl _) (.inl ⟨by rfl, fun W hW => ?_⟩) ?_; rotate_left
              · (go_simp; first | done | with_reducible rfl)
              try simp only [Act.put, List.setIfInBounds_toArray, List.set_cons_zero, List.set_cons_succ]
              refine btake 22 (oi := _) (v := ?_) (by simp only [getElem?_toArray, getElem?_cons_succ, getElem?_cons_zero]; rfl) (by kernel_rfl) (by exact fun _ _ _ h => h) (by first | assumption | exact KB.refl _) (.inl ⟨by rfl, fun W hW => ?_⟩) ?_; rotate_left
              · (go_simp; first | done | with_reducible rfl)
              try simp only [Act.put, List.setIfInBounds_toArray, List.set_cons_zero, List.set_cons_succ]
              refine btake 23 (oi := _) (v := ?_) (by simp only [getElem?_toArray, getElem?_cons_succ, getElem?_cons_zero]; rfl) (by kernel_rfl) (by exact fun _ _ _ h => h) (by first | assumption | exact KB.refl _) (.inl ⟨by rfl, fun W hW => ?_⟩) ?_; rotate_left
              · (go_simp; first | done | with_reducible rfl)
              try simp only [Act.put, List.setIfInBounds_toArray, List.set_cons_zero, List.set_cons_succ]
              refine btake 24 (oi := _) (v := ?_) (by simp only [getElem?_toArray, getElem?_cons_succ, getElem?_cons_zero]; rfl) (by kernel_rfl) (by exact fun _ _ _ h => h) (by first | assumption | exact KB.refl _) (.inl ⟨by rfl, fun W hW => ?_⟩) ?_; rotate_left
              · (go_simp; first | done | with_reducible rfl)
              try simp only [Act.put, List.setIfInBounds_toArray, List.set_cons_zero, List.set_cons_succ]
              refine btake 25 (oi := _) (v := ?_) (by simp only [getElem?_toArray, getElem?_cons_succ, getElem?_cons_zero]; rfl) (by kernel_rfl) (by exact fun _ _ _ h => h) (by first | assumption | exact KB.refl _) (.inl ⟨by rfl, fun W hW => ?_⟩) ?_; rotate_left
              · (go_simp; first | done | with_reducible rfl)
              try simp only [Act.put, List.setIfInBounds_toArray, List.set_cons_zero, List.set_cons_succ]
              refine btake 26 (oi := _) (v := ?_) (by simp only [getElem?_toArray, getElem?_cons_succ, getElem?_cons_zero]; rfl) (by kernel_rfl) (by exact fun _ _ _ h => h) (by first | assumption | exact KB.refl _) (.inl ⟨by rfl, fun W hW => ?_⟩) ?_; rotate_left
              · (go_simp; first | done | with_reducible rfl)
              try simp only [Act.put, List.setIfInBounds_toArray, List.set_cons_zero, List.set_cons_succ]
              refine btake 27 (oi := _) (v := ?_) (by simp only [getElem?_toArray, getElem?_cons_succ, getElem?_cons_zero]; rfl) (by kernel_rfl) (by exact fun _ _ _ h => h) (by first | assumption | exact KB.refl _) (.inl ⟨by rfl, fun W hW => ?_⟩) ?_; rotate_left
              · (go_simp; first | done | with_reducible rfl)
              try simp only [Act.put, List.setIfInBounds_toArray, List.set_cons_zero, List.set_cons_succ]
              refine btake 28 (oi := _) (v := ?_) (by simp only [getElem?_toArray, getElem?_cons_succ, getElem?_cons_zero]; rfl) (by kernel_rfl) (by exact fun _ _ _ h => h) (by first | assumption | exact KB.refl _) (.inl ⟨by rfl, fun W hW => ?_⟩) ?_; rotate_left
              · (go_simp; first | done | with_reducible rfl)
              try simp only [Act.put, List.setIfInBounds_toArray, List.set_cons_zero, List.set_cons_succ]
              refine btake 29 (oi := _) (v := ?_) (by simp only [getElem?_toArray, getElem?_cons_succ, getElem?_cons_zero]; rfl) (by kernel_rfl) (by exact fun _ _ _ h => h) (by first | assumption | exact KB.refl _) (.inl ⟨by rfl, fun W hW => ?_⟩) ?_; rotate_left
              · (go_simp; first | done | with_reducible rfl)
              try simp only [Act.put, List.setIfInBounds_toArray, List.set_cons_zero, List.set_cons_succ]
              refine btake 30 (oi := _) (v := ?_) (by simp only [getElem?_toArray, getElem?_cons_succ, getElem?_cons_zero]; rfl) (by kernel_rfl) (by exact fun _ _ _ h => h) (by first | assumption | exact KB.refl _) (.inl ⟨by rfl, fun W hW => ?_⟩) ?_; rotate_left
              · (go_simp; first | done | with_reducible rfl)
              try simp only [Act.put, List.setIfInBounds_toArray, List.set_cons_zero, List.set_cons_succ]
              refine btake 31 (oi := _) (v := ?_) (by simp only [getElem?_toArray, getElem?_cons_succ, getElem?_cons_zero]; rfl) (by kernel_rfl) (by exact fun _ _ _ h => h) (by first | assumption | exact KB.refl _) (.inl ⟨by rfl, fun W hW => ?_⟩) ?_; rotate_left
              · (go_simp; first | done | with_reducible rfl)
              try simp only [Act.put, List.setIfInBounds_toArray, List.set_cons_zero, List.set_cons_succ]
              -- 32: newsreel/vector.Has
              refine bopH 32 (o := _) (by simp only [getElem?_toArray, getElem?_cons_succ, getElem?_cons_zero]; rfl) (by kernel_rfl) (by first | assumption | exact KB.refl _) (by rfl) (fun K hK => ?_)
              go_simp
              refine ((HUW.out _ T19.out).1.has (by omega) r (q.a - 1) hri).mono ?_
              rintro e t32 ⟨rfl, h32⟩
              rw [HQ.out.2.2.2.2]
              have T32 := Lib.hid (T19.out.trans (h32.mono T19.out.size))
              have hkb : KB wr.heap t32 := KB.of T32.out
              clear h32
              refine hK.out _ _ hkb ?_; clear hK K
              try simp only [Act.put, List.setIfInBounds_toArray, List.set_cons_zero, List.set_cons_succ]
              refine btake 33 (oi := _) (v := ?_) (by simp only [getElem?_toArray, getElem?_cons_succ, getElem?_cons_zero]; rfl) (by kernel_rfl) (by exact fun _ _ _ h => h) (by first | assumption | exact KB.refl _) (.inl ⟨by rfl, fun W hW => ?_⟩) ?_; rotate_left
              · (go_simp; first | done | with_reducible rfl)
              try simp only [Act.put, List.setIfInBounds_toArray, List.set_cons_zero, List.set_cons_succ]
              refine bdone (by kernel_rfl) ?_
              have hrl := (HUW.out _ T32.out).2
              clear e7 e0 e1 g3 hb0 hkb
              go_wp2_with fail
              go_roundw
              case rel => exact ⟨j + 1, hjt, by go_num, hrl⟩
              case measure => simp [intOf]; omega
            · obtain rfl : j = N := by omega
              have hd5 : decide ((j : Int) < (j : Int)) = false := by rw [decide_eq_false_iff_not]; omega
              have hrl := (HU.out _ hbv).2.2.2
              go_wp2_with fail
              go_roundw
              case rel => exact ⟨k + 1, hlt, by go_num, hrl⟩
              case measure => simp [intOf]; omega
        · obtain rfl : N = 0 := by omega
          clear hs6
          go_wp2_with fail
          go_loopw [12] (fun x3 wr => x3 = .int .i64 0 ∧ Below v.heap.size v wr) (fun _ _ => 0)
          case atStart => exact ⟨rfl, Below.refl _ _⟩
          case round =>
            obtain ⟨rfl, hbv⟩ := hrel
            have hrl := (HU.out _ hbv).2.2.2
            go_wp2_with fail
            go_roundw
            case rel => exact ⟨k + 1, hlt, by go_num, hrl⟩
            case measure => simp [intOf]; omega
      · have hd6 : decide (0 < f) = false := by rw [decide_eq_false_iff_not]; omega
        go_wp2_with fail
        refine ((HVW.out _ (B5.out.trans ((Below.refl u5.heap.size u5).mono B5.out.size))).1.has (by omega) r (f + 1) hri).mono ?_
        rintro e ua ⟨rfl, hua⟩
        rw [HF.out.2.2.1]
        have Qua := Lib.hid ((Below.refl u5.heap.size u5).trans (hua.mono (Below.refl u5.heap.size u5).size))
        have zua := (HVW.out _ (B5.out.trans (Qua.out.mono B5.out.size))).2.1.c 0 rfl
        clear hua
        clear z7
        go_wp2_with fail
        clear zua
        have hs5 := (S5.out.1.below Qua.out).more Qua.out.size
        refine (RRRight_any ua A5 N c5 l hs5 HL.out.2.2.symm (by omega)).mono ?_
        rintro e v ⟨rfl, hv⟩
        rw [HF.out.2.2.2.2.1]
        have Bv := Lib.hid ((B5.out.trans (Qua.out.mono B5.out.size)).trans (hv.mono (B5.out.trans (Qua.out.mono B5.out.size)).size))
        have hs6 := (hs5.below hv).more hv.size
        have HU := Lib.hid (fun W' (hW : Below v.heap.size v W') => have hz := (HVW.out _ Bv.out).2.2.trans (hW.mono (HVW.out _ Bv.out).2.2.size); And.intro (HW.out.1.below hz) (And.intro (HW.out.2.1.below hz) (And.intro ((hs6.below hW).more hW.size) hz)))
        clear hs5 hv
        by_cases hN0 : 0 < N
        · obtain ⟨b, oo, rfl, _, _, y0, _⟩ := rgAt hs6 (k := 0) (by rw [HL.out.2.2]; exact hN0)
          obtain ⟨q, hq⟩ : ∃ q, l[0]? = some q := ⟨_, List.getElem?_eq_getElem (by rw [HL.out.2.2]; exact hN0)⟩
          rw [hq, Option.getD_some, Nat.zero_mul, Nat.add_zero] at y0
          have hqa := (HF.out.2.2.2.2.2 0 q hq).1
          have hd3 : decide ((0 : Int) < (N : Int)) = true := by rw [decide_eq_true_eq]; omega
          have hd3' : decide (0 < N) = true := by rw [decide_eq_true_eq]; omega
          have hd4 : decide (q.a < f + 2) = false := by rw [decide_eq_false_iff_not]; omega
          clear hs6
          go_wp2_with fail
          clear y0 hd3 hd3' hd4 hqa hq
          go_loopw [12] (fun x3 wr => ∃ (j : Nat), j ≤ N ∧ x3 = .int .i64 (j : Int) ∧ Below v.heap.size v wr) (fun x3 _ => N - (intOf x3).toNat)
          case atStart => exact ⟨0, by omega, rfl, Below.refl _ _⟩
          case round =>
            obtain ⟨j, hj, rfl, hbv⟩ := hrel
            by_cases hjt : j < N
            · have hu := HU.out _ hbv
              obtain ⟨b', o', e', _, hbs, y0, y1⟩ := rgAt hu.2.2.1 (k := j) (by rw [HL.out.2.2]; exact hjt)
              injection e' with e'
              injection e' with e1 e2
              subst e1
              subst e2
              obtain ⟨q, hq⟩ : ∃ q, l[j]? = some q := ⟨_, List.getElem?_eq_getElem (by rw [HL.out.2.2]; exact hjt)⟩
              rw [hq, Option.getD_some] at y0 y1
              have hqf := HF.out.2.2.2.2.2 j q hq
              have hqo := ok_iff.1 hqf.2.1
              unfold mx at hqo
              have g3 : IntKind.i64.wrap (q.a - 1) = q.a - 1 := by rw [IntKind.wrap_i64]; omega
              have HQ := Lib.hid hqf
              have e7 := hu.2.1.e 0 rfl
              have e0 := cellB y0
              have e1 := cellB y1
              have hd5 : decide ((j : Int) < (N : Int)) = true := by rw [decide_eq_true_eq]; omega
              have hn2 : (0 : Int) ≤ (j : Int) := by omega
              have hn3 : (j : Int) < (N : Int) := by omega
              have HUW := Lib.hid (fun W' (hW : Below wr.heap.size wr W') => And.intro (HU.out _ (hbv.trans (hW.mono hbv.size))).1 (hbv.trans (hW.mono hbv.size)))
              clear hqf hqo hq hu hbv y0 y1
              go_wp2_with fail
              have hb0 : Below wr.heap.size wr wr.drew := (Below.refl _ wr).drew
              refine bstartH (wr.heap) (by kernel_rfl) ?_
              refine btake 0 (oi := _) (v := ?_) (by simp only [List.getElem?_toArray, List.getElem?_cons_zero]; rfl) (by kernel_rfl) (by exact fun _ _ _ h => h) (by first | assumption | exact KB.refl _) (.inl ⟨by rfl, fun W hW => ?_⟩) ?_; rotate_left
              · (go_simp; first | done | with_reducible rfl)
              try simp only [Act.put, List.setIfInBounds_toArray, List.set_cons_zero, List.set_cons_succ]
              refine btake 1 (oi := _) (v := ?_) (by simp only [getElem?_toArray, getElem?_cons_succ, getElem?_cons_zero]; rfl) (by kernel_rfl) (by exact fun _ _ _ h => h) (by first | assumption | exact KB.refl _) (.inl ⟨by rfl, fun W hW => ?_⟩) ?_; rotate_left
              · (go_simp; first | done | with_reducible rfl)
              try simp only [Act.put, List.setIfInBounds_toArray, List.set_cons_zero, List.set_cons_succ]
              refine btake 2 (oi := _) (v := ?_) (by simp only [getElem?_toArray, getElem?_cons_succ, getElem?_cons_zero]; rfl) (by kernel_rfl) (by exact fun _ _ _ h => h) (by first | assumption | exact KB.refl _) (.inl ⟨by rfl, fun W hW => ?_⟩) ?_; rotate_left
              · (go_simp; first | done | with_reducible rfl)
              try simp only [Act.put, List.setIfInBounds_toArray, List.set_cons_zero, List.set_cons_succ]
              refine btake 3 (oi := _) (v := ?_) (by simp only [getElem?_toArray, getElem?_cons_succ, getElem?_cons_zero]; rfl) (by kernel_rfl) (by exact fun _ _ _ h => h) (by first | assumption | exact KB.refl _) (.inl ⟨by rfl, fun W hW => ?_⟩) ?_; rotate_left
              · (go_simp; first | done | with_reducible rfl)
              try simp only [Act.put, List.setIfInBounds_toArray, List.set_cons_zero, List.set_cons_succ]
              refine btake 4 (oi := _) (v := ?_) (by simp only [getElem?_toArray, getElem?_cons_succ, getElem?_cons_zero]; rfl) (by kernel_rfl) (by exact fun _ _ _ h => h) (by first | assumption | exact KB.refl _) (.inl ⟨by rfl, fun W hW => ?_⟩) ?_; rotate_left
              · (go_simp; first | done | with_reducible rfl)
              try simp only [Act.put, List.setIfInBounds_toArray, List.set_cons_zero, List.set_cons_succ]
              refine btake 5 (oi := _) (v := ?_) (by simp only [getElem?_toArray, getElem?_cons_succ, getElem?_cons_zero]; rfl) (by kernel_rfl) (by exact fun _ _ _ h => h) (by first | assumption | exact KB.refl _) (.inl ⟨by rfl, fun W hW => ?_⟩) ?_; rotate_left
              · (go_simp; first | done | with_reducible rfl)
              try simp only [Act.put, List.setIfInBounds_toArray, List.set_cons_zero, List.set_cons_succ]
              refine btake 6 (oi := _) (v := ?_) (by simp only [getElem?_toArray, getElem?_cons_succ, getElem?_cons_zero]; rfl) (by kernel_rfl) (by exact fun _ _ _ h => h) (by first | assumption | exact KB.refl _) (.inl ⟨by rfl, fun W hW => ?_⟩) ?_; rotate_left
              · (go_simp; first | done | with_reducible rfl)
              try simp only [Act.put, List.setIfInBounds_toArray, List.set_cons_zero, List.set_cons_succ]
              refine btake 7 (oi := _) (v := ?_) (by simp only [getElem?_toArray, getElem?_cons_succ, getElem?_cons_zero]; rfl) (by kernel_rfl) (by exact fun _ _ _ h => h) (by first | assumption | exact KB.refl _) (.inl ⟨by rfl, fun W hW => ?_⟩) ?_; rotate_left
              · (go_simp; first | done | with_reducible rfl)
              try simp only [Act.put, List.setIfInBounds_toArray, List.set_cons_zero, List.set_cons_succ]
              -- 8: newsreel/vector.Has
              refine bopH 8 (o := _) (by simp only [getElem?_toArray, getElem?_cons_succ, getElem?_cons_zero]; rfl) (by kernel_rfl) (by first | assumption | exact KB.refl _) (by rfl) (fun K hK => ?_)
              go_simp
              refine ((HUW.out _ hb0).1.has (by omega) r q.a hri).mono ?_
              rintro e t8 ⟨rfl, h8⟩
              rw [HQ.out.2.2.1]
              have T8 := Lib.hid (hb0.trans (h8.mono hb0.size))
              have hkb : KB wr.heap t8 := KB.of T8.out
              clear h8
              refine hK.out _ _ hkb ?_; clear hK K
              try simp only [Act.put, List.setIfInBounds_toArray, List.set_cons_zero, List.set_cons_succ]
              refine btake 9 (oi := _) (v := ?_) (by simp only [getElem?_toArray, getElem?_cons_succ, getElem?_cons_zero]; rfl) (by kernel_rfl) (by exact fun _ _ _ h => h) (by first | assumption | exact KB.refl _) (.inl ⟨by rfl, fun W hW => ?_⟩) ?_; rotate_left
              · (go_simp; first | done | with_reducible rfl)
              try simp only [Act.put, List.setIfInBounds_toArray, List.set_cons_zero, List.set_cons_succ]
              refine btake 10 (oi := _) (v := ?_) (by simp only [getElem?_toArray, getElem?_cons_succ, getElem?_cons_zero]; rfl) (by kernel_rfl) (by exact fun _ _ _ h => h) (by first | assumption | exact KB.refl _) (.inl ⟨by rfl, fun W hW => ?_⟩) ?_; rotate_left
              · (go_simp; first | done | with_reducible rfl)
              try simp only [Act.put, List.setIfInBounds_toArray, List.set_cons_zero, List.set_cons_succ]
              refine btake 11 (oi := _) (v := ?_) (by simp only [getElem?_toArray, getElem?_cons_succ, getElem?_cons_zero]; rfl) (by kernel_rfl) (by exact fun _ _ _ h => h) (by first | assumption | exact KB.refl _) (.inl ⟨by rfl, fun W hW => ?_⟩) ?_; rotate_left
              · (go_simp; first | done | with_reducible rfl)
              try simp only [Act.put, List.setIfInBounds_toArray, List.set_cons_zero, List.set_cons_succ]
              refine btake 12 (oi := _) (v := ?_) (by simp only [getElem?_toArray, getElem?_cons_succ, getElem?_cons_zero]; rfl) (by kernel_rfl) (by exact fun _ _ _ h => h) (by first | assumption | exact KB.refl _) (.inl ⟨by rfl, fun W hW => ?_⟩) ?_; rotate_left
              · (go_simp; first | done | with_reducible rfl)
              try simp only [Act.put, List.setIfInBounds_toArray, List.set_cons_zero, List.set_cons_succ]
              refine btake 13 (oi := _) (v := ?_) (by simp only [getElem?_toArray, getElem?_cons_succ, getElem?_cons_zero]; rfl) (by kernel_rfl) (by exact fun _ _ _ h => h) (by first | assumption | exact KB.refl _) (.inl ⟨by rfl, fun W hW => ?_⟩) ?_; rotate_left
              · (go_simp; first | done | with_reducible rfl)
              try simp only [Act.put, List.setIfInBounds_toArray, List.set_cons_zero, List.set_cons_succ]
              refine btake 14 (oi := _) (v := ?_) (by simp only [getElem?_toArray, getElem?_cons_succ, getElem?_cons_zero]; rfl) (by kernel_rfl) (by exact fun _ _ _ h => h) (by first | assumption | exact KB.refl _) (.inl ⟨by rfl, fun W hW => ?_⟩) ?_; rotate_left
              · (go_simp; first | done | with_reducible rfl)
              try simp only [Act.put, List.setIfInBounds_toArray, List.set_cons_zero, List.set_cons_succ]
              refine btake 15 (oi := _) (v := ?_) (by simp only [getElem?_toArray, getElem?_cons_succ, getElem?_cons_zero]; rfl) (by kernel_rfl) (by exact fun _ _ _ h => h) (by first | assumption | exact KB.refl _) (.inl ⟨by rfl, fun W hW => ?_⟩) ?_; rotate_left
              · (go_simp; first | done | with_reducible rfl)
              try simp only [Act.put, List.setIfInBounds_toArray, List.set_cons_zero, List.set_cons_succ]
              refine btake 16 (oi := _) (v := ?_) (by simp only [getElem?_toArray, getElem?_cons_succ, getElem?_cons_zero]; rfl) (by kernel_rfl) (by exact fun _ _ _ h => h) (by first | assumption | exact KB.refl _) (.inl ⟨by rfl, fun W hW => ?_⟩) ?_; rotate_left
              · (go_simp; first | done | with_reducible rfl)
              try simp only [Act.put, List.setIfInBounds_toArray, List.set_cons_zero, List.set_cons_succ]
              refine btake 17 (oi := _) (v := ?_) (by simp only [getElem?_toArray, getElem?_cons_succ, getElem?_cons_zero]; rfl) (by kernel_rfl) (by exact fun _ _ _ h => h) (by first | assumption | exact KB.refl _) (.inl ⟨by rfl, fun W hW => ?_⟩) ?_; rotate_left
              · (go_simp; first | done | with_reducible rfl)
              try simp only [Act.put, List.setIfInBounds_toArray, List.set_cons_zero, List.set_cons_succ]
              refine btake 18 (oi := _) (v := ?_) (by simp only [getElem?_toArray, getElem?_cons_succ, getElem?_cons_zero]; rfl) (by kernel_rfl) (by exact fun _ _ _ h => h) (by first | assumption | exact KB.refl _) (.inl ⟨by rfl, fun W hW => ?_⟩) ?_; rotate_left
              · (go_simp; first | done | with_reducible rfl)
              try simp only [Act.put, List.setIfInBounds_toArray, List.set_cons_zero, List.set_cons_succ]
              -- 19: newsreel/vector.Has
              refine bopH 19 (o := _) (by simp only [getElem?_toArray, getElem?_cons_succ, getElem?_cons_zero]; rfl) (by kernel_rfl) (by first | assumption | exact KB.refl _) (by rfl) (fun K hK => ?_)
              go_simp
              refine ((HUW.out _ T8.out).1.has (by omega) r q.b hri).mono ?_
              rintro e t19 ⟨rfl, h19⟩
              rw [HQ.out.2.2.2.1]
              have T19 := Lib.hid (T8.out.trans (h19.mono T8.out.size))
              have hkb : KB wr.heap t19 := KB.of T19.out
              clear h19
              refine hK.out _ _ hkb ?_; clear hK K
              try simp only [Act.put, List.setIfInBounds_toArray, List.set_cons_zero, List.set_cons_succ]
              refine btake 20 (oi := _) (v := ?_) (by simp only [getElem?_toArray, getElem?_cons_succ, getElem?_cons_zero]; rfl) (by kernel_rfl) (by exact fun _ _ _ h => h) (by first | assumption | exact KB.refl _) (.inl ⟨by rfl, fun W hW => ?_⟩) ?_; rotate_left
              · (go_simp; first | done | with_reducible rfl)
              try simp only [Act.put, List.setIfInBounds_toArray, List.set_cons_zero, List.set_cons_succ]
              refine btake 21 (oi := _) (v := ?_) (by simp only [getElem?_toArray, getElem?_cons_succ, getElem?_cons_zero]; rfl) (by kernel_rfl) (by exact fun _ _ _ h => h) (by first | assumption | exact KB.refl _) (.inl ⟨by rfl, fun W hW => ?_⟩) ?_; rotate_left
              · (go_simp; first | done | with_reducible rfl)
              try simp only [Act.put, List.setIfInBounds_toArray, List.set_cons_zero, List.set_cons_succ]
              refine btake 22 (oi := _) (v := ?_) (by simp only [getElem?_toArray, getElem?_cons_succ, getElem?_cons_zero]; rfl) (by kernel_rfl) (by exact fun _ _ _ h => h) (by first | assumption | exact KB.refl _) (.inl ⟨by rfl, fun W hW => ?_⟩) ?_; rotate_left
              · (go_simp; first | done | with_reducible rfl)
              try simp only [Act.put, List.setIfInBounds_toArray, List.set_cons_zero, List.set_cons_succ]
              refine btake 23 (oi := _) (v := ?_) (by simp only [getElem?_toArray, getElem?_cons_succ, getElem?_cons_zero]; rfl) (by kernel_rfl) (by exact fun _ _ _ h => h) (by first | assumption | exact KB.refl _) (.inl ⟨by rfl, fun W hW => ?_⟩) ?_; rotate_left
              · (go_simp; first | done | with_reducible rfl)
              try simp only [Act.put, List.setIfInBounds_toArray, List.set_cons_zero, List.set_cons_succ]
              refine btake 24 (oi := _) (v := ?_) (by simp only [getElem?_toArray, getElem?_cons_succ, getElem?_cons_zero]; rfl) (by kernel_rfl) (by exact fun _ _ _ h => h) (by first | assumption | exact KB.refl _) (.inl ⟨by rfl, fun W hW => ?_⟩) ?_; rotate_left
              · (go_simp; first | done | with_reducible rfl)
              try simp only [Act.put, List.setIfInBounds_toArray, List.set_cons_zero, List.set_cons_succ]
              refine btake 25 (oi := _) (v := ?_) (by simp only [getElem?_toArray, getElem?_cons_succ, getElem?_cons_zero]; rfl) (by kernel_rfl) (by exact fun _ _ _ h => h) (by first | assumption | exact KB.refl _) (.inl ⟨by rfl, fun W hW => ?_⟩) ?_; rotate_left
              · (go_simp; first | done | with_reducible rfl)
              try simp only [Act.put, List.setIfInBounds_toArray, List.set_cons_zero, List.set_cons_succ]
              refine btake 26 (oi := _) (v := ?_) (by simp only [getElem?_toArray, getElem?_cons_succ, getElem?_cons_zero]; rfl) (by kernel_rfl) (by exact fun _ _ _ h => h) (by first | assumption | exact KB.refl _) (.inl ⟨by rfl, fun W hW => ?_⟩) ?_; rotate_left
              · (go_simp; first | done | with_reducible rfl)
              try simp only [Act.put, List.setIfInBounds_toArray, List.set_cons_zero, List.set_cons_succ]
              refine btake 27 (oi := _) (v := ?_) (by simp only [getElem?_toArray, getElem?_cons_succ, getElem?_cons_zero]; rfl) (by kernel_rfl) (by exact fun _ _ _ h => h) (by first | assumption | exact KB.refl _) (.inl ⟨by rfl, fun W hW => ?_⟩) ?_; rotate_left
              · (go_simp; first | done | with_reducible rfl)
              try simp only [Act.put, List.setIfInBounds_toArray, List.set_cons_zero, List.set_cons_succ]
              refine btake 28 (oi := _) (v := ?_) (by simp only [getElem?_toArray, getElem?_cons_succ, getElem?_cons_zero]; rfl) (by kernel_rfl) (by exact fun _ _ _ h => h) (by first | assumption | exact KB.refl _) (.inl ⟨by rfl, fun W hW => ?_⟩) ?_; rotate_left
              · (go_simp; first | done | with_reducible rfl)
              try simp only [Act.put, List.setIfInBounds_toArray, List.set_cons_zero, List.set_cons_succ]
              refine btake 29 (oi := _) (v := ?_) (by simp only [getElem?_toArray, getElem?_cons_succ, getElem?_cons_zero]; rfl) (by kernel_rfl) (by exact fun _ _ _ h => h) (by first | assumption | exact KB.refl _) (.inl ⟨by rfl, fun W hW => ?_⟩) ?_; rotate_left
              · (go_simp; first | done | with_reducible rfl)
              try simp only [Act.put, List.setIfInBounds_toArray, List.set_cons_zero, List.set_cons_succ]
              refine btake 30 (oi := _) (v := ?_) (by simp only [getElem?_toArray, getElem?_cons_succ, getElem?_cons_zero]; rfl) (by kernel_rfl) (by exact fun _ _ _ h => h) (by first | assumption | exact KB.refl _) (.inl ⟨by rfl, fun W hW => ?_⟩) ?_; rotate_left
              · (go_simp; first | done | with_reducible rfl)
              try simp only [Act.put, List.setIfInBounds_toArray, List.set_cons_zero, List.set_cons_succ]
              refine btake 31 (oi := _) (v := ?_) (by simp only [getElem?_toArray, getElem?_cons_succ, getElem?_cons_zero]; rfl) (by kernel_rfl) (by exact fun _ _ _ h => h) (by first | assumption | exact KB.refl _) (.inl ⟨by rfl, fun W hW => ?_⟩) ?_; rotate_left
              · (go_simp; first | done | with_reducible rfl)
              try simp only [Act.put, List.setIfInBounds_toArray, List.set_cons_zero, List.set_cons_succ]
              -- 32: newsreel/vector.Has
              refine bopH 32 (o := _) (by simp only [getElem?_toArray, getElem?_cons_succ, getElem?_cons_zero]; rfl) (by kernel_rfl) (by first | assumption | exact KB.refl _) (by rfl) (fun K hK => ?_)
              go_simp
              refine ((HUW.out _ T19.out).1.has (by omega) r (q.a - 1) hri).mono ?_
              rintro e t32 ⟨rfl, h32⟩
              rw [HQ.out.2.2.2.2]
              have T32 := Lib.hid (T19.out.trans (h32.mono T19.out.size))
              have hkb : KB wr.heap t32 := KB.of T32.out
              clear h32
              refine hK.out _ _ hkb ?_; clear hK K
              try simp only [Act.put, List.setIfInBounds_toArray, List.set_cons_zero, List.set_cons_succ]
              refine btake 33 (oi := _) (v := ?_) (by simp only [getElem?_toArray, getElem?_cons_succ, getElem?_cons_zero]; rfl) (by kernel_rfl) (by exact fun _ _ _ h => h) (by first | assumption | exact KB.refl _) (.inl ⟨by rfl, fun W hW => ?_⟩) ?_; rotate_left
              · (go_simp; first | done | with_reducible rfl)
              try simp only [Act.put, List.setIfInBounds_toArray, List.set_cons_zero, List.set_cons_succ]
              refine bdone (by kernel_rfl) ?_
              have hrl := (HUW.out _ T32.out).2
              clear e7 e0 e1 g3 hb0 hkb
              go_wp2_with fail
              go_roundw
              case rel => exact ⟨j + 1, hjt, by go_num, hrl⟩
              case measure => simp [intOf]; omega
            · obtain rfl : j = N := by omega
              have hd5 : decide ((j : Int) < (j : Int)) = false := by rw [decide_eq_false_iff_not]; omega
              have hrl := (HU.out _ hbv).2.2.2
              go_wp2_with fail
              go_roundw
              case rel => exact ⟨k + 1, hlt, by go_num, hrl⟩
              case measure => simp [intOf]; omega
        · obtain rfl : N = 0 := by omega
          clear hs6
          go_wp2_with fail
          go_loopw [12] (fun x3 wr => x3 = .int .i64 0 ∧ Below v.heap.size v wr) (fun _ _ => 0)
          case atStart => exact ⟨rfl, Below.refl _ _⟩
          case round =>
            obtain ⟨rfl, hbv⟩ := hrel
            have hrl := (HU.out _ hbv).2.2.2
            go_wp2_with fail
            go_roundw
            case rel => exact ⟨k + 1, hlt, by go_num, hrl⟩
            case measure => simp [intOf]; omega
    · obtain rfl : k = 4 := by omega
      have hrl := HW.out.2.2.2.2.2.trans (hbel.mono HW.out.2.2.2.2.2.size)
      go_wp2_with fail
      go_ret
      exact ⟨rfl, hrl⟩
end Go.Proofs.Ytaflikgdlkaefaa
/- 'VectorBase': whatever comes in, the law returns true and leaves it as it was. No condition. -/
namespace Go.Proofs.Ytaflikgdlkaefaa.vectorBase
open Go.RowKit

theorem walk {H : Type} {enc : TypeId × Value → H} (W : World) (args : Array Value) (ds : List (DataW H)) (p : List MemPlace) (h : Args enc Try.f4 W args ds p) :
    Calls Try.prog 4 args W fun e W' => e = .returned (.bool true) ∧ Below W.heap.size W W' := by
  obtain ⟨base, vs, rfl, m0⟩ := h.many (ts := [22, 3, 5]) (by rw [Try.params4])
  obtain ⟨v0, vs1, d0, ds1, p0, q0, rfl, rfl, o0, m1⟩ := m0.cons
  obtain ⟨v1, vs2, d1, ds2, p1, q1, rfl, rfl, o1, m2⟩ := m1.cons
  obtain ⟨v2, vs3, d2, ds3, p2, q2, rfl, rfl, o2, m3⟩ := m2.cons
  obtain ⟨rfl, rfl⟩ := m3.nil
  obtain ⟨A0, c0, l0, rfl, h0a, h0b, h0c, h0e, h0d⟩ := o0.u16s
  obtain ⟨n1, rfl, h1a⟩ := o1.i64 Try.underlying3
  obtain ⟨n2, rfl, h2a⟩ := o2.u8 Try.underlying5
  exact VectorBase_walk W A0 c0 l0 h0a h0e n1 h1a n2 h2a

theorem types : ∀ t ∈ Try.f4.params.toList, Try.prog.readableRec t = true ∧ t < Try.prog.types.size := by
  rw [Try.params4]
  intro t ht
  simp only [List.mem_cons, List.not_mem_nil, or_false] at ht
  rcases ht with rfl | rfl | rfl
  all_goals exact ⟨by kernel_rfl, of_decide_eq_true (by kernel_rfl)⟩
theorem fits (H : Type) (ds : List (DataW H)) (hl : ds.length = Try.f4.params.toList.length) : Rows.vectorBaseSpec.fn H (ds ++ []) = { results := [.lit (.bool true)], args := ds } := by
  rw [Try.params4] at hl
  match ds, hl with
  | [d0, d1, d2], _ => rfl

set_option maxRecDepth 100000 in
theorem over : Rows.vectorBaseRow.holds Try.pinned (OpenSpec.ofChange Rows.vectorBaseSpec) :=
  OpenClaim.holds_of_wide 4 Try.f4 rfl rfl rfl rfl rfl rfl rfl ⟨rfl, rfl, rfl, rfl, rfl⟩ rfl rfl rfl rfl rfl (by kernel_rfl) Try.func4 (by kernel_rfl)
    (of_decide_eq_true (by kernel_rfl)) (by unfold Func.isWrapper; first | (rw [if_pos (by decide +kernel)]; kernel_rfl) | (rw [if_neg (by decide +kernel)]; exact ⟨rfl, rfl⟩))
    (fun os started H enc _ => lifted 4 Try.f4 Rows.vectorBaseSpec Try.func4 (by kernel_rfl) rfl rfl types fits os started H enc
      (ChangeSpec.witness6 (enc := enc) (C := Try.checked) false ⟨#[], #[.slice none 0 0, .int .i64 0, .int .u8 0], []⟩ 8 (by kernel_rfl) (by kernel_rfl) (by kernel_rfl) (by kernel_rfl))
      (fun W args ds p h => walk W args ds p h))

theorem proved : Rows.VectorBaseSaid := over
end Go.Proofs.Ytaflikgdlkaefaa.vectorBase
